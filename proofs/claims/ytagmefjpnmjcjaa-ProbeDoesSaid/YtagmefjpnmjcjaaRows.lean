/-
  No cell of these rows narrows 'for every input' (looked for: loops, veiled, ifaces, maps, wideKeys, modest, calm, conditions, laid).
  DERIVED. THE GIVEN ROWS OF THIS SEAT. 12 by the template 'for every input the law returns true; each argument reads behind the call as it read before'; 0 by the template 'total and deterministic' (their statements: YtagmefjpnmjcjaaTotals.lean).
  GIVEN WITH THE SEED: the statements are not yours to turn. If you find one false, say at which input.
  Laid BY PROGRAM, IN A SANDBOX (cutbox-rows.mjs): the forced cells as the released guide's own fill.sh prints them over the translation 251e001d15c08aaa… (all of the seat's roots in one cut). By AI agents, Wed Nov 11 2026. No macro, syntax, notation, axiom, sorry.
-/
import Derived.Test.YtagmefjpnmjcjaaChecked
import GoSem.Claim
import GoSem.ClaimJoined
import GoSem.ClaimMapViews
import Derived.JoinedTies
import Derived.KernelRfl
namespace Go.Proofs.Ytagmefjpnmjcjaa
/- THE CELL 'sum', in the pinned program and in every row, IS THE sha256 OF THE DUMP (.gsa) THAT YtagmefjpnmjcjaaProg.lean LOADS. Nothing in Lean hashes anything: it is a label: what it is worth is what the hold of that sum in a sandbox is worth. -/
noncomputable def Try.pinned : Pinned := { name := "ytagmefjpnmjcjaa", sum := "251e001d15c08aaad95e38f85fe7b3e3df600c303fb67b2440fc2eae91ded274", checked := Try.checked }
namespace Rows
def none {H : Type} : Left H := { results := [], args := [] }

/-- 'signalmanlaw12.HealthTells': WHATEVER THE INPUT: true; the input reads as it did. -/
def healthTellsSpec : ChangeSpec := { name := "healthTells", fn := fun _ => fun
  | [d1, d2, d3] => { results := [.lit (.bool true)], args := [d1, d2, d3] }
  | _ => none }
def healthTellsRow : OpenClaim := { program := "ytagmefjpnmjcjaa", sum := "251e001d15c08aaad95e38f85fe7b3e3df600c303fb67b2440fc2eae91ded274", func := "signalman/signalmanlaw12.HealthTells", spec := "healthTells", apart := false }
def HealthTellsSaid : Prop := healthTellsRow.holds Try.pinned (OpenSpec.ofChange healthTellsSpec)

/-- ITS FALSE NEIGHBOUR: 'it returns false'. Refute it at one input. -/
def healthTellsWrong : ChangeSpec := { name := "healthTells", fn := fun _ => fun
  | [d1, d2, d3] => { results := [.lit (.bool false)], args := [d1, d2, d3] }
  | _ => none }
def HealthTellsWrongFalsely : Prop := healthTellsRow.holds Try.pinned (OpenSpec.ofChange healthTellsWrong)

/-- 'signalmanlaw12.HealthPasses': WHATEVER THE INPUT: true; the input reads as it did. -/
def healthPassesSpec : ChangeSpec := { name := "healthPasses", fn := fun _ => fun
  | [d1, d2, d3] => { results := [.lit (.bool true)], args := [d1, d2, d3] }
  | _ => none }
def healthPassesRow : OpenClaim := { program := "ytagmefjpnmjcjaa", sum := "251e001d15c08aaad95e38f85fe7b3e3df600c303fb67b2440fc2eae91ded274", func := "signalman/signalmanlaw12.HealthPasses", spec := "healthPasses", apart := false }
def HealthPassesSaid : Prop := healthPassesRow.holds Try.pinned (OpenSpec.ofChange healthPassesSpec)

/-- ITS FALSE NEIGHBOUR: 'it returns false'. Refute it at one input. -/
def healthPassesWrong : ChangeSpec := { name := "healthPasses", fn := fun _ => fun
  | [d1, d2, d3] => { results := [.lit (.bool false)], args := [d1, d2, d3] }
  | _ => none }
def HealthPassesWrongFalsely : Prop := healthPassesRow.holds Try.pinned (OpenSpec.ofChange healthPassesWrong)

/-- 'signalmanlaw12.HealthLags': WHATEVER THE INPUT: true; the input reads as it did. -/
def healthLagsSpec : ChangeSpec := { name := "healthLags", fn := fun _ => fun
  | [d1, d2, d3] => { results := [.lit (.bool true)], args := [d1, d2, d3] }
  | _ => none }
def healthLagsRow : OpenClaim := { program := "ytagmefjpnmjcjaa", sum := "251e001d15c08aaad95e38f85fe7b3e3df600c303fb67b2440fc2eae91ded274", func := "signalman/signalmanlaw12.HealthLags", spec := "healthLags", apart := false }
def HealthLagsSaid : Prop := healthLagsRow.holds Try.pinned (OpenSpec.ofChange healthLagsSpec)

/-- ITS FALSE NEIGHBOUR: 'it returns false'. Refute it at one input. -/
def healthLagsWrong : ChangeSpec := { name := "healthLags", fn := fun _ => fun
  | [d1, d2, d3] => { results := [.lit (.bool false)], args := [d1, d2, d3] }
  | _ => none }
def HealthLagsWrongFalsely : Prop := healthLagsRow.holds Try.pinned (OpenSpec.ofChange healthLagsWrong)

/-- 'signalmanlaw13.ProbeDoes': WHATEVER THE INPUT: true; the input reads as it did. -/
def probeDoesSpec : ChangeSpec := { name := "probeDoes", fn := fun _ => fun
  | [d1, d2, d3, d4] => { results := [.lit (.bool true)], args := [d1, d2, d3, d4] }
  | _ => none }
def probeDoesRow : OpenClaim := { program := "ytagmefjpnmjcjaa", sum := "251e001d15c08aaad95e38f85fe7b3e3df600c303fb67b2440fc2eae91ded274", func := "signalman/signalmanlaw13.ProbeDoes", spec := "probeDoes", unfollowed := true, recurses := true, apart := false }
def ProbeDoesSaid : Prop := probeDoesRow.holds Try.pinned (OpenSpec.ofChange probeDoesSpec)

/-- ITS FALSE NEIGHBOUR: 'it returns false'. Refute it at one input. -/
def probeDoesWrong : ChangeSpec := { name := "probeDoes", fn := fun _ => fun
  | [d1, d2, d3, d4] => { results := [.lit (.bool false)], args := [d1, d2, d3, d4] }
  | _ => none }
def ProbeDoesWrongFalsely : Prop := probeDoesRow.holds Try.pinned (OpenSpec.ofChange probeDoesWrong)

/-- 'signalmanlaw13.ProbeOnce': WHATEVER THE INPUT: true; the input reads as it did. -/
def probeOnceSpec : ChangeSpec := { name := "probeOnce", fn := fun _ => fun
  | [d1, d2, d3, d4] => { results := [.lit (.bool true)], args := [d1, d2, d3, d4] }
  | _ => none }
def probeOnceRow : OpenClaim := { program := "ytagmefjpnmjcjaa", sum := "251e001d15c08aaad95e38f85fe7b3e3df600c303fb67b2440fc2eae91ded274", func := "signalman/signalmanlaw13.ProbeOnce", spec := "probeOnce", unfollowed := true, recurses := true, apart := false }
def ProbeOnceSaid : Prop := probeOnceRow.holds Try.pinned (OpenSpec.ofChange probeOnceSpec)

/-- ITS FALSE NEIGHBOUR: 'it returns false'. Refute it at one input. -/
def probeOnceWrong : ChangeSpec := { name := "probeOnce", fn := fun _ => fun
  | [d1, d2, d3, d4] => { results := [.lit (.bool false)], args := [d1, d2, d3, d4] }
  | _ => none }
def ProbeOnceWrongFalsely : Prop := probeOnceRow.holds Try.pinned (OpenSpec.ofChange probeOnceWrong)

/-- 'signalmanlaw13.ProbeAll': WHATEVER THE INPUT: true; the input reads as it did. -/
def probeAllSpec : ChangeSpec := { name := "probeAll", fn := fun _ => fun
  | [d1, d2, d3, d4] => { results := [.lit (.bool true)], args := [d1, d2, d3, d4] }
  | _ => none }
def probeAllRow : OpenClaim := { program := "ytagmefjpnmjcjaa", sum := "251e001d15c08aaad95e38f85fe7b3e3df600c303fb67b2440fc2eae91ded274", func := "signalman/signalmanlaw13.ProbeAll", spec := "probeAll", unfollowed := true, recurses := true, apart := false }
def ProbeAllSaid : Prop := probeAllRow.holds Try.pinned (OpenSpec.ofChange probeAllSpec)

/-- ITS FALSE NEIGHBOUR: 'it returns false'. Refute it at one input. -/
def probeAllWrong : ChangeSpec := { name := "probeAll", fn := fun _ => fun
  | [d1, d2, d3, d4] => { results := [.lit (.bool false)], args := [d1, d2, d3, d4] }
  | _ => none }
def ProbeAllWrongFalsely : Prop := probeAllRow.holds Try.pinned (OpenSpec.ofChange probeAllWrong)

/-- 'signalmanlaw08.WaitsDo': WHATEVER THE INPUT: true; the input reads as it did. -/
def waitsDoSpec : ChangeSpec := { name := "waitsDo", fn := fun _ => fun
  | [d1, d2, d3] => { results := [.lit (.bool true)], args := [d1, d2, d3] }
  | _ => none }
def waitsDoRow : OpenClaim := { program := "ytagmefjpnmjcjaa", sum := "251e001d15c08aaad95e38f85fe7b3e3df600c303fb67b2440fc2eae91ded274", func := "signalman/signalmanlaw08.WaitsDo", spec := "waitsDo", apart := false }
def WaitsDoSaid : Prop := waitsDoRow.holds Try.pinned (OpenSpec.ofChange waitsDoSpec)

/-- ITS FALSE NEIGHBOUR: 'it returns false'. Refute it at one input. -/
def waitsDoWrong : ChangeSpec := { name := "waitsDo", fn := fun _ => fun
  | [d1, d2, d3] => { results := [.lit (.bool false)], args := [d1, d2, d3] }
  | _ => none }
def WaitsDoWrongFalsely : Prop := waitsDoRow.holds Try.pinned (OpenSpec.ofChange waitsDoWrong)

/-- 'signalmanlaw08.WaitsRow': WHATEVER THE INPUT: true; the input reads as it did. -/
def waitsRowSpec : ChangeSpec := { name := "waitsRow", fn := fun _ => fun
  | [d1, d2] => { results := [.lit (.bool true)], args := [d1, d2] }
  | _ => none }
def waitsRowRow : OpenClaim := { program := "ytagmefjpnmjcjaa", sum := "251e001d15c08aaad95e38f85fe7b3e3df600c303fb67b2440fc2eae91ded274", func := "signalman/signalmanlaw08.WaitsRow", spec := "waitsRow", apart := false }
def WaitsRowSaid : Prop := waitsRowRow.holds Try.pinned (OpenSpec.ofChange waitsRowSpec)

/-- ITS FALSE NEIGHBOUR: 'it returns false'. Refute it at one input. -/
def waitsRowWrong : ChangeSpec := { name := "waitsRow", fn := fun _ => fun
  | [d1, d2] => { results := [.lit (.bool false)], args := [d1, d2] }
  | _ => none }
def WaitsRowWrongFalsely : Prop := waitsRowRow.holds Try.pinned (OpenSpec.ofChange waitsRowWrong)

/-- 'signalmanlaw08.WaitsDropped': WHATEVER THE INPUT: true; the input reads as it did. -/
def waitsDroppedSpec : ChangeSpec := { name := "waitsDropped", fn := fun _ => fun
  | [d1, d2] => { results := [.lit (.bool true)], args := [d1, d2] }
  | _ => none }
def waitsDroppedRow : OpenClaim := { program := "ytagmefjpnmjcjaa", sum := "251e001d15c08aaad95e38f85fe7b3e3df600c303fb67b2440fc2eae91ded274", func := "signalman/signalmanlaw08.WaitsDropped", spec := "waitsDropped", apart := false }
def WaitsDroppedSaid : Prop := waitsDroppedRow.holds Try.pinned (OpenSpec.ofChange waitsDroppedSpec)

/-- ITS FALSE NEIGHBOUR: 'it returns false'. Refute it at one input. -/
def waitsDroppedWrong : ChangeSpec := { name := "waitsDropped", fn := fun _ => fun
  | [d1, d2] => { results := [.lit (.bool false)], args := [d1, d2] }
  | _ => none }
def WaitsDroppedWrongFalsely : Prop := waitsDroppedRow.holds Try.pinned (OpenSpec.ofChange waitsDroppedWrong)

/-- 'signalmanlaw09.ConnDoes': WHATEVER THE INPUT: true; the input reads as it did. -/
def connDoesSpec : ChangeSpec := { name := "connDoes", fn := fun _ => fun
  | [d1, d2] => { results := [.lit (.bool true)], args := [d1, d2] }
  | _ => none }
def connDoesRow : OpenClaim := { program := "ytagmefjpnmjcjaa", sum := "251e001d15c08aaad95e38f85fe7b3e3df600c303fb67b2440fc2eae91ded274", func := "signalman/signalmanlaw09.ConnDoes", spec := "connDoes", inPlace := ["sync/atomic.CompareAndSwapInt64", "sync/atomic.LoadInt64", "sync/atomic.AddInt64", "sync/atomic.StoreInt64"], apart := false }
def ConnDoesSaid : Prop := connDoesRow.holds Try.pinned (OpenSpec.ofChange connDoesSpec)

/-- ITS FALSE NEIGHBOUR: 'it returns false'. Refute it at one input. -/
def connDoesWrong : ChangeSpec := { name := "connDoes", fn := fun _ => fun
  | [d1, d2] => { results := [.lit (.bool false)], args := [d1, d2] }
  | _ => none }
def ConnDoesWrongFalsely : Prop := connDoesRow.holds Try.pinned (OpenSpec.ofChange connDoesWrong)

/-- 'signalmanlaw09.ConnOne': WHATEVER THE INPUT: true; the input reads as it did. -/
def connOneSpec : ChangeSpec := { name := "connOne", fn := fun _ => fun
  | [d] => { results := [.lit (.bool true)], args := [d] }
  | _ => none }
def connOneRow : OpenClaim := { program := "ytagmefjpnmjcjaa", sum := "251e001d15c08aaad95e38f85fe7b3e3df600c303fb67b2440fc2eae91ded274", func := "signalman/signalmanlaw09.ConnOne", spec := "connOne", inPlace := ["sync/atomic.CompareAndSwapInt64", "sync/atomic.LoadInt64", "sync/atomic.AddInt64", "sync/atomic.StoreInt64"], apart := false }
def ConnOneSaid : Prop := connOneRow.holds Try.pinned (OpenSpec.ofChange connOneSpec)

/-- ITS FALSE NEIGHBOUR: 'it returns false'. Refute it at one input. -/
def connOneWrong : ChangeSpec := { name := "connOne", fn := fun _ => fun
  | [d] => { results := [.lit (.bool false)], args := [d] }
  | _ => none }
def ConnOneWrongFalsely : Prop := connOneRow.holds Try.pinned (OpenSpec.ofChange connOneWrong)

/-- 'signalmanlaw09.ConnEnds': WHATEVER THE INPUT: true; the input reads as it did. -/
def connEndsSpec : ChangeSpec := { name := "connEnds", fn := fun _ => fun
  | [d1, d2, d3] => { results := [.lit (.bool true)], args := [d1, d2, d3] }
  | _ => none }
def connEndsRow : OpenClaim := { program := "ytagmefjpnmjcjaa", sum := "251e001d15c08aaad95e38f85fe7b3e3df600c303fb67b2440fc2eae91ded274", func := "signalman/signalmanlaw09.ConnEnds", spec := "connEnds", inPlace := ["sync/atomic.CompareAndSwapInt64", "sync/atomic.LoadInt64", "sync/atomic.AddInt64", "sync/atomic.StoreInt64"], apart := false }
def ConnEndsSaid : Prop := connEndsRow.holds Try.pinned (OpenSpec.ofChange connEndsSpec)

/-- ITS FALSE NEIGHBOUR: 'it returns false'. Refute it at one input. -/
def connEndsWrong : ChangeSpec := { name := "connEnds", fn := fun _ => fun
  | [d1, d2, d3] => { results := [.lit (.bool false)], args := [d1, d2, d3] }
  | _ => none }
def ConnEndsWrongFalsely : Prop := connEndsRow.holds Try.pinned (OpenSpec.ofChange connEndsWrong)

/- THE SECOND FORM. 'bulk': how many values and letters a reading holds, each counted each time it is reached (what is shared counts as often as it is met; a slice's spare places count too). A statement '..UptoSaid' is the law's where the arguments, and the package variables that the reading takes, are together of bulk at most 1048576: NARROWER than '..Said'. Prove '..Said' where nothing that the law and all that it calls make is longer than what came in: it says more and counts as full. Else prove '..UptoSaid'. A law counts once. -/
mutual
def uptoBulk {H : Type} : DataW H → Nat
  | .lit (.string bytes) => bytes.length + 1
  | .lit _ => 1
  | .nil => 1
  | .ptr d => uptoBulk d + 1
  | .slice elems spare => uptoBulkAll elems + uptoBulkAll spare + 1
  | .agg parts => uptoBulkAll parts + 1
  | .iface _ d => uptoBulk d + 1
  | .map entries => uptoBulkEntries entries + 1
  | .held _ => 1
def uptoBulkAll {H : Type} : List (DataW H) → Nat
  | [] => 0
  | d :: r => uptoBulk d + uptoBulkAll r
def uptoBulkEntries {H : Type} : List (Lit × DataW H) → Nat
  | [] => 0
  | x :: r => uptoBulkEntry x + uptoBulkEntries r
def uptoBulkEntry {H : Type} : Lit × DataW H → Nat
  | (.string bytes, d) => bytes.length + uptoBulk d + 1
  | (_, d) => uptoBulk d + 1
 end
def uptoSmall : (H : Type) → List (DataW H) → Bool := fun _ ds => decide (uptoBulkAll ds ≤ 1048576)
def OpenSpec.upto (s : _root_.Go.ChangeSpec) : _root_.Go.OpenSpec := { _root_.Go.OpenSpec.ofChange s with cond := some uptoSmall }

/-- 'signalmanlaw12.HealthTells', WHERE WHAT IT READS IS OF BULK AT MOST 1048576: true; the input reads as it did. -/
def healthTellsUptoRow : OpenClaim := { program := "ytagmefjpnmjcjaa", sum := "251e001d15c08aaad95e38f85fe7b3e3df600c303fb67b2440fc2eae91ded274", func := "signalman/signalmanlaw12.HealthTells", spec := "healthTells", apart := false, narrowed := true }
def HealthTellsUptoSaid : Prop := healthTellsUptoRow.holds Try.pinned (OpenSpec.upto healthTellsSpec)

/-- 'signalmanlaw12.HealthPasses', WHERE WHAT IT READS IS OF BULK AT MOST 1048576: true; the input reads as it did. -/
def healthPassesUptoRow : OpenClaim := { program := "ytagmefjpnmjcjaa", sum := "251e001d15c08aaad95e38f85fe7b3e3df600c303fb67b2440fc2eae91ded274", func := "signalman/signalmanlaw12.HealthPasses", spec := "healthPasses", apart := false, narrowed := true }
def HealthPassesUptoSaid : Prop := healthPassesUptoRow.holds Try.pinned (OpenSpec.upto healthPassesSpec)

/-- 'signalmanlaw12.HealthLags', WHERE WHAT IT READS IS OF BULK AT MOST 1048576: true; the input reads as it did. -/
def healthLagsUptoRow : OpenClaim := { program := "ytagmefjpnmjcjaa", sum := "251e001d15c08aaad95e38f85fe7b3e3df600c303fb67b2440fc2eae91ded274", func := "signalman/signalmanlaw12.HealthLags", spec := "healthLags", apart := false, narrowed := true }
def HealthLagsUptoSaid : Prop := healthLagsUptoRow.holds Try.pinned (OpenSpec.upto healthLagsSpec)

/-- 'signalmanlaw13.ProbeDoes', WHERE WHAT IT READS IS OF BULK AT MOST 1048576: true; the input reads as it did. -/
def probeDoesUptoRow : OpenClaim := { program := "ytagmefjpnmjcjaa", sum := "251e001d15c08aaad95e38f85fe7b3e3df600c303fb67b2440fc2eae91ded274", func := "signalman/signalmanlaw13.ProbeDoes", spec := "probeDoes", unfollowed := true, recurses := true, apart := false, narrowed := true }
def ProbeDoesUptoSaid : Prop := probeDoesUptoRow.holds Try.pinned (OpenSpec.upto probeDoesSpec)

/-- 'signalmanlaw13.ProbeOnce', WHERE WHAT IT READS IS OF BULK AT MOST 1048576: true; the input reads as it did. -/
def probeOnceUptoRow : OpenClaim := { program := "ytagmefjpnmjcjaa", sum := "251e001d15c08aaad95e38f85fe7b3e3df600c303fb67b2440fc2eae91ded274", func := "signalman/signalmanlaw13.ProbeOnce", spec := "probeOnce", unfollowed := true, recurses := true, apart := false, narrowed := true }
def ProbeOnceUptoSaid : Prop := probeOnceUptoRow.holds Try.pinned (OpenSpec.upto probeOnceSpec)

/-- 'signalmanlaw13.ProbeAll', WHERE WHAT IT READS IS OF BULK AT MOST 1048576: true; the input reads as it did. -/
def probeAllUptoRow : OpenClaim := { program := "ytagmefjpnmjcjaa", sum := "251e001d15c08aaad95e38f85fe7b3e3df600c303fb67b2440fc2eae91ded274", func := "signalman/signalmanlaw13.ProbeAll", spec := "probeAll", unfollowed := true, recurses := true, apart := false, narrowed := true }
def ProbeAllUptoSaid : Prop := probeAllUptoRow.holds Try.pinned (OpenSpec.upto probeAllSpec)

/-- 'signalmanlaw08.WaitsDo', WHERE WHAT IT READS IS OF BULK AT MOST 1048576: true; the input reads as it did. -/
def waitsDoUptoRow : OpenClaim := { program := "ytagmefjpnmjcjaa", sum := "251e001d15c08aaad95e38f85fe7b3e3df600c303fb67b2440fc2eae91ded274", func := "signalman/signalmanlaw08.WaitsDo", spec := "waitsDo", apart := false, narrowed := true }
def WaitsDoUptoSaid : Prop := waitsDoUptoRow.holds Try.pinned (OpenSpec.upto waitsDoSpec)

/-- 'signalmanlaw08.WaitsRow', WHERE WHAT IT READS IS OF BULK AT MOST 1048576: true; the input reads as it did. -/
def waitsRowUptoRow : OpenClaim := { program := "ytagmefjpnmjcjaa", sum := "251e001d15c08aaad95e38f85fe7b3e3df600c303fb67b2440fc2eae91ded274", func := "signalman/signalmanlaw08.WaitsRow", spec := "waitsRow", apart := false, narrowed := true }
def WaitsRowUptoSaid : Prop := waitsRowUptoRow.holds Try.pinned (OpenSpec.upto waitsRowSpec)

/-- 'signalmanlaw08.WaitsDropped', WHERE WHAT IT READS IS OF BULK AT MOST 1048576: true; the input reads as it did. -/
def waitsDroppedUptoRow : OpenClaim := { program := "ytagmefjpnmjcjaa", sum := "251e001d15c08aaad95e38f85fe7b3e3df600c303fb67b2440fc2eae91ded274", func := "signalman/signalmanlaw08.WaitsDropped", spec := "waitsDropped", apart := false, narrowed := true }
def WaitsDroppedUptoSaid : Prop := waitsDroppedUptoRow.holds Try.pinned (OpenSpec.upto waitsDroppedSpec)

/-- 'signalmanlaw09.ConnDoes', WHERE WHAT IT READS IS OF BULK AT MOST 1048576: true; the input reads as it did. -/
def connDoesUptoRow : OpenClaim := { program := "ytagmefjpnmjcjaa", sum := "251e001d15c08aaad95e38f85fe7b3e3df600c303fb67b2440fc2eae91ded274", func := "signalman/signalmanlaw09.ConnDoes", spec := "connDoes", inPlace := ["sync/atomic.CompareAndSwapInt64", "sync/atomic.LoadInt64", "sync/atomic.AddInt64", "sync/atomic.StoreInt64"], apart := false, narrowed := true }
def ConnDoesUptoSaid : Prop := connDoesUptoRow.holds Try.pinned (OpenSpec.upto connDoesSpec)

/-- 'signalmanlaw09.ConnOne', WHERE WHAT IT READS IS OF BULK AT MOST 1048576: true; the input reads as it did. -/
def connOneUptoRow : OpenClaim := { program := "ytagmefjpnmjcjaa", sum := "251e001d15c08aaad95e38f85fe7b3e3df600c303fb67b2440fc2eae91ded274", func := "signalman/signalmanlaw09.ConnOne", spec := "connOne", inPlace := ["sync/atomic.CompareAndSwapInt64", "sync/atomic.LoadInt64", "sync/atomic.AddInt64", "sync/atomic.StoreInt64"], apart := false, narrowed := true }
def ConnOneUptoSaid : Prop := connOneUptoRow.holds Try.pinned (OpenSpec.upto connOneSpec)

/-- 'signalmanlaw09.ConnEnds', WHERE WHAT IT READS IS OF BULK AT MOST 1048576: true; the input reads as it did. -/
def connEndsUptoRow : OpenClaim := { program := "ytagmefjpnmjcjaa", sum := "251e001d15c08aaad95e38f85fe7b3e3df600c303fb67b2440fc2eae91ded274", func := "signalman/signalmanlaw09.ConnEnds", spec := "connEnds", inPlace := ["sync/atomic.CompareAndSwapInt64", "sync/atomic.LoadInt64", "sync/atomic.AddInt64", "sync/atomic.StoreInt64"], apart := false, narrowed := true }
def ConnEndsUptoSaid : Prop := connEndsUptoRow.holds Try.pinned (OpenSpec.upto connEndsSpec)

end Rows
end Go.Proofs.Ytagmefjpnmjcjaa
