/-
  No cell of these rows narrows 'for every input' (looked for: loops, veiled, ifaces, maps, wideKeys, modest, calm, conditions, laid).
  DERIVED. THE GIVEN ROWS OF THIS SEAT. 11 by the template 'for every input the law returns true; each argument reads behind the call as it read before'; 0 by the template 'total and deterministic' (their statements: YtagmefjpnmjcjabTotals.lean).
  GIVEN WITH THE SEED: the statements are not yours to turn. If you find one false, say at which input.
  Laid BY PROGRAM, IN A SANDBOX (cutbox-rows.mjs): the forced cells as the released guide's own fill.sh prints them over the translation 8f174860b7951c7f… (all of the seat's roots in one cut). By AI agents, Wed Nov 11 2026. No macro, syntax, notation, axiom, sorry.
-/
import Derived.Test.YtagmefjpnmjcjabChecked
import GoSem.Claim
import GoSem.ClaimJoined
import GoSem.ClaimMapViews
import Derived.JoinedTies
import Derived.KernelRfl
namespace Go.Proofs.Ytagmefjpnmjcjab
/- THE CELL 'sum', in the pinned program and in every row, IS THE sha256 OF THE DUMP (.gsa) THAT YtagmefjpnmjcjabProg.lean LOADS. Nothing in Lean hashes anything: it is a label: what it is worth is what the hold of that sum in a sandbox is worth. -/
noncomputable def Try.pinned : Pinned := { name := "ytagmefjpnmjcjab", sum := "8f174860b7951c7fd21f18bd68dfd3a2e4f5d3178f8044b19825418483ea2117", checked := Try.checked }
namespace Rows
def none {H : Type} : Left H := { results := [], args := [] }

/-- 'signalmanlaw01.NumTells': WHATEVER THE INPUT: true; the input reads as it did. -/
def numTellsSpec : ChangeSpec := { name := "numTells", fn := fun _ => fun
  | [d1, d2, d3, d4] => { results := [.lit (.bool true)], args := [d1, d2, d3, d4] }
  | _ => none }
def numTellsRow : OpenClaim := { program := "ytagmefjpnmjcjab", sum := "8f174860b7951c7fd21f18bd68dfd3a2e4f5d3178f8044b19825418483ea2117", func := "signalman/signalmanlaw01.NumTells", spec := "numTells", apart := false }
def NumTellsSaid : Prop := numTellsRow.holds Try.pinned (OpenSpec.ofChange numTellsSpec)

/-- ITS FALSE NEIGHBOUR: 'it returns false'. Refute it at one input. -/
def numTellsWrong : ChangeSpec := { name := "numTells", fn := fun _ => fun
  | [d1, d2, d3, d4] => { results := [.lit (.bool false)], args := [d1, d2, d3, d4] }
  | _ => none }
def NumTellsWrongFalsely : Prop := numTellsRow.holds Try.pinned (OpenSpec.ofChange numTellsWrong)

/-- 'signalmanlaw01.NumBack': WHATEVER THE INPUT: true; the input reads as it did. -/
def numBackSpec : ChangeSpec := { name := "numBack", fn := fun _ => fun
  | [d1, d2, d3, d4] => { results := [.lit (.bool true)], args := [d1, d2, d3, d4] }
  | _ => none }
def numBackRow : OpenClaim := { program := "ytagmefjpnmjcjab", sum := "8f174860b7951c7fd21f18bd68dfd3a2e4f5d3178f8044b19825418483ea2117", func := "signalman/signalmanlaw01.NumBack", spec := "numBack", apart := false }
def NumBackSaid : Prop := numBackRow.holds Try.pinned (OpenSpec.ofChange numBackSpec)

/-- ITS FALSE NEIGHBOUR: 'it returns false'. Refute it at one input. -/
def numBackWrong : ChangeSpec := { name := "numBack", fn := fun _ => fun
  | [d1, d2, d3, d4] => { results := [.lit (.bool false)], args := [d1, d2, d3, d4] }
  | _ => none }
def NumBackWrongFalsely : Prop := numBackRow.holds Try.pinned (OpenSpec.ofChange numBackWrong)

/-- 'signalmanlaw01.NumRises': WHATEVER THE INPUT: true; the input reads as it did. -/
def numRisesSpec : ChangeSpec := { name := "numRises", fn := fun _ => fun
  | [d1, d2, d3] => { results := [.lit (.bool true)], args := [d1, d2, d3] }
  | _ => none }
def numRisesRow : OpenClaim := { program := "ytagmefjpnmjcjab", sum := "8f174860b7951c7fd21f18bd68dfd3a2e4f5d3178f8044b19825418483ea2117", func := "signalman/signalmanlaw01.NumRises", spec := "numRises", apart := false }
def NumRisesSaid : Prop := numRisesRow.holds Try.pinned (OpenSpec.ofChange numRisesSpec)

/-- ITS FALSE NEIGHBOUR: 'it returns false'. Refute it at one input. -/
def numRisesWrong : ChangeSpec := { name := "numRises", fn := fun _ => fun
  | [d1, d2, d3] => { results := [.lit (.bool false)], args := [d1, d2, d3] }
  | _ => none }
def NumRisesWrongFalsely : Prop := numRisesRow.holds Try.pinned (OpenSpec.ofChange numRisesWrong)

/-- 'signalmanlaw01.NumShort': WHATEVER THE INPUT: true; the input reads as it did. -/
def numShortSpec : ChangeSpec := { name := "numShort", fn := fun _ => fun
  | [d1, d2, d3, d4] => { results := [.lit (.bool true)], args := [d1, d2, d3, d4] }
  | _ => none }
def numShortRow : OpenClaim := { program := "ytagmefjpnmjcjab", sum := "8f174860b7951c7fd21f18bd68dfd3a2e4f5d3178f8044b19825418483ea2117", func := "signalman/signalmanlaw01.NumShort", spec := "numShort", apart := false }
def NumShortSaid : Prop := numShortRow.holds Try.pinned (OpenSpec.ofChange numShortSpec)

/-- ITS FALSE NEIGHBOUR: 'it returns false'. Refute it at one input. -/
def numShortWrong : ChangeSpec := { name := "numShort", fn := fun _ => fun
  | [d1, d2, d3, d4] => { results := [.lit (.bool false)], args := [d1, d2, d3, d4] }
  | _ => none }
def NumShortWrongFalsely : Prop := numShortRow.holds Try.pinned (OpenSpec.ofChange numShortWrong)

/-- 'signalmanlaw02.FrameTells': WHATEVER THE INPUT: true; the input reads as it did. -/
def frameTellsSpec : ChangeSpec := { name := "frameTells", fn := fun _ => fun
  | [d1, d2, d3] => { results := [.lit (.bool true)], args := [d1, d2, d3] }
  | _ => none }
def frameTellsRow : OpenClaim := { program := "ytagmefjpnmjcjab", sum := "8f174860b7951c7fd21f18bd68dfd3a2e4f5d3178f8044b19825418483ea2117", func := "signalman/signalmanlaw02.FrameTells", spec := "frameTells", unfollowed := true, recurses := true, apart := false }
def FrameTellsSaid : Prop := frameTellsRow.holds Try.pinned (OpenSpec.ofChange frameTellsSpec)

/-- ITS FALSE NEIGHBOUR: 'it returns false'. Refute it at one input. -/
def frameTellsWrong : ChangeSpec := { name := "frameTells", fn := fun _ => fun
  | [d1, d2, d3] => { results := [.lit (.bool false)], args := [d1, d2, d3] }
  | _ => none }
def FrameTellsWrongFalsely : Prop := frameTellsRow.holds Try.pinned (OpenSpec.ofChange frameTellsWrong)

/-- 'signalmanlaw02.FrameFeeds': WHATEVER THE INPUT: true; the input reads as it did. -/
def frameFeedsSpec : ChangeSpec := { name := "frameFeeds", fn := fun _ => fun
  | [d] => { results := [.lit (.bool true)], args := [d] }
  | _ => none }
def frameFeedsRow : OpenClaim := { program := "ytagmefjpnmjcjab", sum := "8f174860b7951c7fd21f18bd68dfd3a2e4f5d3178f8044b19825418483ea2117", func := "signalman/signalmanlaw02.FrameFeeds", spec := "frameFeeds", unfollowed := true, recurses := true, apart := false }
def FrameFeedsSaid : Prop := frameFeedsRow.holds Try.pinned (OpenSpec.ofChange frameFeedsSpec)

/-- ITS FALSE NEIGHBOUR: 'it returns false'. Refute it at one input. -/
def frameFeedsWrong : ChangeSpec := { name := "frameFeeds", fn := fun _ => fun
  | [d] => { results := [.lit (.bool false)], args := [d] }
  | _ => none }
def FrameFeedsWrongFalsely : Prop := frameFeedsRow.holds Try.pinned (OpenSpec.ofChange frameFeedsWrong)

/-- 'signalmanlaw02.FrameParts': WHATEVER THE INPUT: true; the input reads as it did. -/
def framePartsSpec : ChangeSpec := { name := "frameParts", fn := fun _ => fun
  | [d1, d2] => { results := [.lit (.bool true)], args := [d1, d2] }
  | _ => none }
def framePartsRow : OpenClaim := { program := "ytagmefjpnmjcjab", sum := "8f174860b7951c7fd21f18bd68dfd3a2e4f5d3178f8044b19825418483ea2117", func := "signalman/signalmanlaw02.FrameParts", spec := "frameParts", unfollowed := true, recurses := true, apart := false }
def FramePartsSaid : Prop := framePartsRow.holds Try.pinned (OpenSpec.ofChange framePartsSpec)

/-- ITS FALSE NEIGHBOUR: 'it returns false'. Refute it at one input. -/
def framePartsWrong : ChangeSpec := { name := "frameParts", fn := fun _ => fun
  | [d1, d2] => { results := [.lit (.bool false)], args := [d1, d2] }
  | _ => none }
def FramePartsWrongFalsely : Prop := framePartsRow.holds Try.pinned (OpenSpec.ofChange framePartsWrong)

/-- 'signalmanlaw02.FrameBack': WHATEVER THE INPUT: true; the input reads as it did. -/
def frameBackSpec : ChangeSpec := { name := "frameBack", fn := fun _ => fun
  | [d1, d2] => { results := [.lit (.bool true)], args := [d1, d2] }
  | _ => none }
def frameBackRow : OpenClaim := { program := "ytagmefjpnmjcjab", sum := "8f174860b7951c7fd21f18bd68dfd3a2e4f5d3178f8044b19825418483ea2117", func := "signalman/signalmanlaw02.FrameBack", spec := "frameBack", unfollowed := true, recurses := true, apart := false }
def FrameBackSaid : Prop := frameBackRow.holds Try.pinned (OpenSpec.ofChange frameBackSpec)

/-- ITS FALSE NEIGHBOUR: 'it returns false'. Refute it at one input. -/
def frameBackWrong : ChangeSpec := { name := "frameBack", fn := fun _ => fun
  | [d1, d2] => { results := [.lit (.bool false)], args := [d1, d2] }
  | _ => none }
def FrameBackWrongFalsely : Prop := frameBackRow.holds Try.pinned (OpenSpec.ofChange frameBackWrong)

/-- 'signalmanlaw03.MsgBack': WHATEVER THE INPUT: true; the input reads as it did. -/
def msgBackSpec : ChangeSpec := { name := "msgBack", fn := fun _ => fun
  | [d1, d2] => { results := [.lit (.bool true)], args := [d1, d2] }
  | _ => none }
def msgBackRow : OpenClaim := { program := "ytagmefjpnmjcjab", sum := "8f174860b7951c7fd21f18bd68dfd3a2e4f5d3178f8044b19825418483ea2117", func := "signalman/signalmanlaw03.MsgBack", spec := "msgBack", unfollowed := true, recurses := true, apart := false }
def MsgBackSaid : Prop := msgBackRow.holds Try.pinned (OpenSpec.ofChange msgBackSpec)

/-- ITS FALSE NEIGHBOUR: 'it returns false'. Refute it at one input. -/
def msgBackWrong : ChangeSpec := { name := "msgBack", fn := fun _ => fun
  | [d1, d2] => { results := [.lit (.bool false)], args := [d1, d2] }
  | _ => none }
def MsgBackWrongFalsely : Prop := msgBackRow.holds Try.pinned (OpenSpec.ofChange msgBackWrong)

/-- 'signalmanlaw03.MsgStream': WHATEVER THE INPUT: true; the input reads as it did. -/
def msgStreamSpec : ChangeSpec := { name := "msgStream", fn := fun _ => fun
  | [d1, d2] => { results := [.lit (.bool true)], args := [d1, d2] }
  | _ => none }
def msgStreamRow : OpenClaim := { program := "ytagmefjpnmjcjab", sum := "8f174860b7951c7fd21f18bd68dfd3a2e4f5d3178f8044b19825418483ea2117", func := "signalman/signalmanlaw03.MsgStream", spec := "msgStream", unfollowed := true, recurses := true, apart := false }
def MsgStreamSaid : Prop := msgStreamRow.holds Try.pinned (OpenSpec.ofChange msgStreamSpec)

/-- ITS FALSE NEIGHBOUR: 'it returns false'. Refute it at one input. -/
def msgStreamWrong : ChangeSpec := { name := "msgStream", fn := fun _ => fun
  | [d1, d2] => { results := [.lit (.bool false)], args := [d1, d2] }
  | _ => none }
def MsgStreamWrongFalsely : Prop := msgStreamRow.holds Try.pinned (OpenSpec.ofChange msgStreamWrong)

/-- 'signalmanlaw03.MsgTells': WHATEVER THE INPUT: true; the input reads as it did. -/
def msgTellsSpec : ChangeSpec := { name := "msgTells", fn := fun _ => fun
  | [d1, d2, d3] => { results := [.lit (.bool true)], args := [d1, d2, d3] }
  | _ => none }
def msgTellsRow : OpenClaim := { program := "ytagmefjpnmjcjab", sum := "8f174860b7951c7fd21f18bd68dfd3a2e4f5d3178f8044b19825418483ea2117", func := "signalman/signalmanlaw03.MsgTells", spec := "msgTells", unfollowed := true, recurses := true, apart := false }
def MsgTellsSaid : Prop := msgTellsRow.holds Try.pinned (OpenSpec.ofChange msgTellsSpec)

/-- ITS FALSE NEIGHBOUR: 'it returns false'. Refute it at one input. -/
def msgTellsWrong : ChangeSpec := { name := "msgTells", fn := fun _ => fun
  | [d1, d2, d3] => { results := [.lit (.bool false)], args := [d1, d2, d3] }
  | _ => none }
def MsgTellsWrongFalsely : Prop := msgTellsRow.holds Try.pinned (OpenSpec.ofChange msgTellsWrong)

/- THE SECOND FORM. 'bulk': how many values and letters a reading holds, each counted each time it is reached (what is shared counts as often as it is met; a slice's spare places count too). A statement '..UptoSaid' is the law's where the arguments, and the package variables that the reading takes, are together of bulk at most 1048576: NARROWER than '..Said'. Prove '..Said' where nothing that the law and all that it calls make is longer than what came in: it says more and counts as full. Else prove '..UptoSaid'. A law counts once. -/
mutual
def uptoBulk {H : Type} : DataW H → Nat
  | .lit (.string bytes) => bytes.length + 1
  | .lit _ => 1
  | .nil => 1
  | .ptr d => uptoBulk d + 1
  | .slice elems spare => uptoBulkAll elems + uptoBulkAll spare + 1
  | .agg parts => uptoBulkAll parts + 1
  | .iface _ d => uptoBulk d + 1
  | .map entries => uptoBulkEntries entries + 1
  | .held _ => 1
def uptoBulkAll {H : Type} : List (DataW H) → Nat
  | [] => 0
  | d :: r => uptoBulk d + uptoBulkAll r
def uptoBulkEntries {H : Type} : List (Lit × DataW H) → Nat
  | [] => 0
  | x :: r => uptoBulkEntry x + uptoBulkEntries r
def uptoBulkEntry {H : Type} : Lit × DataW H → Nat
  | (.string bytes, d) => bytes.length + uptoBulk d + 1
  | (_, d) => uptoBulk d + 1
 end
def uptoSmall : (H : Type) → List (DataW H) → Bool := fun _ ds => decide (uptoBulkAll ds ≤ 1048576)
def OpenSpec.upto (s : _root_.Go.ChangeSpec) : _root_.Go.OpenSpec := { _root_.Go.OpenSpec.ofChange s with cond := some uptoSmall }

/-- 'signalmanlaw01.NumTells', WHERE WHAT IT READS IS OF BULK AT MOST 1048576: true; the input reads as it did. -/
def numTellsUptoRow : OpenClaim := { program := "ytagmefjpnmjcjab", sum := "8f174860b7951c7fd21f18bd68dfd3a2e4f5d3178f8044b19825418483ea2117", func := "signalman/signalmanlaw01.NumTells", spec := "numTells", apart := false, narrowed := true }
def NumTellsUptoSaid : Prop := numTellsUptoRow.holds Try.pinned (OpenSpec.upto numTellsSpec)

/-- 'signalmanlaw01.NumBack', WHERE WHAT IT READS IS OF BULK AT MOST 1048576: true; the input reads as it did. -/
def numBackUptoRow : OpenClaim := { program := "ytagmefjpnmjcjab", sum := "8f174860b7951c7fd21f18bd68dfd3a2e4f5d3178f8044b19825418483ea2117", func := "signalman/signalmanlaw01.NumBack", spec := "numBack", apart := false, narrowed := true }
def NumBackUptoSaid : Prop := numBackUptoRow.holds Try.pinned (OpenSpec.upto numBackSpec)

/-- 'signalmanlaw01.NumRises', WHERE WHAT IT READS IS OF BULK AT MOST 1048576: true; the input reads as it did. -/
def numRisesUptoRow : OpenClaim := { program := "ytagmefjpnmjcjab", sum := "8f174860b7951c7fd21f18bd68dfd3a2e4f5d3178f8044b19825418483ea2117", func := "signalman/signalmanlaw01.NumRises", spec := "numRises", apart := false, narrowed := true }
def NumRisesUptoSaid : Prop := numRisesUptoRow.holds Try.pinned (OpenSpec.upto numRisesSpec)

/-- 'signalmanlaw01.NumShort', WHERE WHAT IT READS IS OF BULK AT MOST 1048576: true; the input reads as it did. -/
def numShortUptoRow : OpenClaim := { program := "ytagmefjpnmjcjab", sum := "8f174860b7951c7fd21f18bd68dfd3a2e4f5d3178f8044b19825418483ea2117", func := "signalman/signalmanlaw01.NumShort", spec := "numShort", apart := false, narrowed := true }
def NumShortUptoSaid : Prop := numShortUptoRow.holds Try.pinned (OpenSpec.upto numShortSpec)

/-- 'signalmanlaw02.FrameTells', WHERE WHAT IT READS IS OF BULK AT MOST 1048576: true; the input reads as it did. -/
def frameTellsUptoRow : OpenClaim := { program := "ytagmefjpnmjcjab", sum := "8f174860b7951c7fd21f18bd68dfd3a2e4f5d3178f8044b19825418483ea2117", func := "signalman/signalmanlaw02.FrameTells", spec := "frameTells", unfollowed := true, recurses := true, apart := false, narrowed := true }
def FrameTellsUptoSaid : Prop := frameTellsUptoRow.holds Try.pinned (OpenSpec.upto frameTellsSpec)

/-- 'signalmanlaw02.FrameFeeds', WHERE WHAT IT READS IS OF BULK AT MOST 1048576: true; the input reads as it did. -/
def frameFeedsUptoRow : OpenClaim := { program := "ytagmefjpnmjcjab", sum := "8f174860b7951c7fd21f18bd68dfd3a2e4f5d3178f8044b19825418483ea2117", func := "signalman/signalmanlaw02.FrameFeeds", spec := "frameFeeds", unfollowed := true, recurses := true, apart := false, narrowed := true }
def FrameFeedsUptoSaid : Prop := frameFeedsUptoRow.holds Try.pinned (OpenSpec.upto frameFeedsSpec)

/-- 'signalmanlaw02.FrameParts', WHERE WHAT IT READS IS OF BULK AT MOST 1048576: true; the input reads as it did. -/
def framePartsUptoRow : OpenClaim := { program := "ytagmefjpnmjcjab", sum := "8f174860b7951c7fd21f18bd68dfd3a2e4f5d3178f8044b19825418483ea2117", func := "signalman/signalmanlaw02.FrameParts", spec := "frameParts", unfollowed := true, recurses := true, apart := false, narrowed := true }
def FramePartsUptoSaid : Prop := framePartsUptoRow.holds Try.pinned (OpenSpec.upto framePartsSpec)

/-- 'signalmanlaw02.FrameBack', WHERE WHAT IT READS IS OF BULK AT MOST 1048576: true; the input reads as it did. -/
def frameBackUptoRow : OpenClaim := { program := "ytagmefjpnmjcjab", sum := "8f174860b7951c7fd21f18bd68dfd3a2e4f5d3178f8044b19825418483ea2117", func := "signalman/signalmanlaw02.FrameBack", spec := "frameBack", unfollowed := true, recurses := true, apart := false, narrowed := true }
def FrameBackUptoSaid : Prop := frameBackUptoRow.holds Try.pinned (OpenSpec.upto frameBackSpec)

/-- 'signalmanlaw03.MsgBack', WHERE WHAT IT READS IS OF BULK AT MOST 1048576: true; the input reads as it did. -/
def msgBackUptoRow : OpenClaim := { program := "ytagmefjpnmjcjab", sum := "8f174860b7951c7fd21f18bd68dfd3a2e4f5d3178f8044b19825418483ea2117", func := "signalman/signalmanlaw03.MsgBack", spec := "msgBack", unfollowed := true, recurses := true, apart := false, narrowed := true }
def MsgBackUptoSaid : Prop := msgBackUptoRow.holds Try.pinned (OpenSpec.upto msgBackSpec)

/-- 'signalmanlaw03.MsgStream', WHERE WHAT IT READS IS OF BULK AT MOST 1048576: true; the input reads as it did. -/
def msgStreamUptoRow : OpenClaim := { program := "ytagmefjpnmjcjab", sum := "8f174860b7951c7fd21f18bd68dfd3a2e4f5d3178f8044b19825418483ea2117", func := "signalman/signalmanlaw03.MsgStream", spec := "msgStream", unfollowed := true, recurses := true, apart := false, narrowed := true }
def MsgStreamUptoSaid : Prop := msgStreamUptoRow.holds Try.pinned (OpenSpec.upto msgStreamSpec)

/-- 'signalmanlaw03.MsgTells', WHERE WHAT IT READS IS OF BULK AT MOST 1048576: true; the input reads as it did. -/
def msgTellsUptoRow : OpenClaim := { program := "ytagmefjpnmjcjab", sum := "8f174860b7951c7fd21f18bd68dfd3a2e4f5d3178f8044b19825418483ea2117", func := "signalman/signalmanlaw03.MsgTells", spec := "msgTells", unfollowed := true, recurses := true, apart := false, narrowed := true }
def MsgTellsUptoSaid : Prop := msgTellsUptoRow.holds Try.pinned (OpenSpec.upto msgTellsSpec)

end Rows
end Go.Proofs.Ytagmefjpnmjcjab
