-- By a program of this session (wip/pp: a turned copy of the kit's print) out of the translation; Lean checks it.
import Derived.Test.YtagmefjpnmjcjabProg
import Derived.Below
import Derived.Deep.Draws
import Derived.Deep.AppendLies
import Derived.Maps.AppendAt
import Derived.OwnWalk
import Derived.Laws.BytesArg
import Derived.Laws.MakeOwn
import Derived.Laws.OwnMore
import Derived.Deep.OwnRows
import Derived.Tactics
import Derived.Lib.ConvBytes
import Derived.Laws.Slices
import Derived.WalkKit
import Derived.KernelRfl
import Derived.RowKit3
import Derived.Deep.LoopGhost
import Derived.Deep.QuietTactic
import Derived.BigQuiet
import Derived.WideLaws
import Derived.Deep.DeepCutAuto
import Derived.Deep.CutBlock
import Derived.Deep.RegionHeld3
import Derived.Laws.Rows
import Derived.Lib.AppendStr
import Derived.ArgAppend
import Derived.Laws.IdiomCopy
import Derived.OrdersHeld
import Derived.Laws.BitsLemmas
import Derived.RowKit
import Derived.Test.YtagmefjpnmjcjabWWords
import Derived.Test.YtagmefjpnmjcjabWLast
import Derived.Test.YtagmefjpnmjcjabWTab
import Derived.Test.YtagmefjpnmjcjabWFour
import Derived.Test.YtagmefjpnmjcjabWQPut
import Derived.Test.YtagmefjpnmjcjabWApart
import Derived.Test.YtagmefjpnmjcjabWArr
import Derived.Test.YtagmefjpnmjcjabWZeros
import Derived.Test.YtagmefjpnmjcjabWFoot
import Derived.Test.YtagmefjpnmjcjabWKept
import Derived.Test.YtagmefjpnmjcjabWShare
import Derived.Test.YtagmefjpnmjcjabWN
import Derived.Test.YtagmefjpnmjcjabWFootNe
import Derived.Test.YtagmefjpnmjcjabWAt
import Derived.Test.YtagmefjpnmjcjabWEqStruct
import Derived.Test.YtagmefjpnmjcjabWRepsOne
import Derived.Test.YtagmefjpnmjcjabWInv
import Derived.Test.YtagmefjpnmjcjabWInvWords
import Derived.Test.YtagmefjpnmjcjabWGuard
import Derived.Test.YtagmefjpnmjcjabWNEv
import Derived.Test.YtagmefjpnmjcjabWMore
namespace Go.Proofs.Ytagmefjpnmjcjab.Nu
open Go.RowKit Go.Proofs.YtagmefjpnmjcjabW.PrintWords Go.Proofs.YtagmefjpnmjcjabW.PrintLast Go.Proofs.YtagmefjpnmjcjabW.PrintMore
attribute [local go_sem] max2_int min2_int max_two min_two max_three min_three max_four min_four   -- for this text's walks alone
set_option linter.unusedVariables false
set_option linter.unusedSimpArgs false

theorem b_a {w W : World} (h : Below w.heap.size w W) (o : Obj) : Below w.heap.size w (W.alloc o) := below_alloc h o
theorem b_n {B : Nat} {w W : World} (h : Below B w W) (n : Nat) : Below B w (W.drewN n) := pw_below_drewN h n
theorem b_l (w : World) {a : Addr} {v : Value} (h : w.cell? a = some v) : a.block < w.heap.size := World.block_lt_of_cell? w a h
theorem l_d {α : Type} {i : Nat} {l : List α} : (l.drop i).length = l.length - i := List.length_drop
theorem l_t {α : Type} {i : Nat} {l : List α} : (l.take i).length = min i l.length := List.length_take
theorem r_a {α : Type} {d : Kd α} {e : Nat} {w : World} {base : Nat} {ok : Nat → Prop} {v : Value} {xs : List α} (h : d.R e w base ok v xs) (o : Obj) : d.R e (w.alloc o) base ok v xs := Kd.R_alloc h o
theorem r_d {α : Type} {d : Kd α} {e : Nat} {w : World} {base : Nat} {ok : Nat → Prop} {v : Value} {xs : List α} (h : d.R e w base ok v xs) : d.R e w.drew base ok v xs := Kd.R_drew h
theorem r_n {α : Type} {d : Kd α} {e : Nat} {w : World} {base : Nat} {ok : Nat → Prop} {v : Value} {xs : List α} (h : d.R e w base ok v xs) (m : Nat) : d.R e (w.drewN m) base ok v xs := Kd.R_drewN h m
theorem b_d {w W : World} (h : Below w.heap.size w W) : Below w.heap.size w W.drew := below_drew1 h

theorem fold_ {α : Type} {g : Nat → Option α} (hg : ∀ k, LeO (g k) (g (k + 1))) {k k' : Nat} {r z : α} (h' : g k' = some r) (h : g k = some z) : g k = some r := by
  have h1 := at_rounds hg (Nat.le_max_left k k') h
  have h2 := at_rounds hg (Nat.le_max_right k k') h'
  rw [h1] at h2
  rw [h]
  exact h2



def errW : Option Int → Value
  | none => .nilIface
  | some c => .iface 0 (.int .i64 c)
theorem errW_none : errW none = .nilIface := rfl
theorem errW_some (c : Int) : errW (some c) = .iface 0 (.int .i64 c) := rfl

theorem info5 : (Try.prog.info? 5).map (fun i => (i.zero, i.size, i.bytes)) = some (some (.int .u8 0), 1, 1) := by kernel_rfl
-- the values' own types

end Go.Proofs.Ytagmefjpnmjcjab.Nu
