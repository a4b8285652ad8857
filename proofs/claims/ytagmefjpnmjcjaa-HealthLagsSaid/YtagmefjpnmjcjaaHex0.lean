-- By a program of this session (wip/pp: a turned copy of the kit's print) out of the translation; Lean checks it.
import Derived.Test.YtagmefjpnmjcjaaProg
import Derived.Below
import Derived.Deep.Draws
import Derived.Deep.AppendLies
import Derived.Maps.AppendAt
import Derived.OwnWalk
import Derived.Laws.BytesArg
import Derived.Laws.MakeOwn
import Derived.Laws.OwnMore
import Derived.Deep.OwnRows
import Derived.Tactics
import Derived.Lib.ConvBytes
import Derived.Laws.Slices
import Derived.WalkKit
import Derived.KernelRfl
import Derived.RowKit3
import Derived.Deep.LoopGhost
import Derived.Deep.QuietTactic
import Derived.BigQuiet
import Derived.WideLaws
import Derived.Deep.DeepCutAuto
import Derived.Deep.CutBlock
import Derived.Deep.RegionHeld3
import Derived.Laws.Rows
import Derived.Lib.AppendStr
import Derived.ArgAppend
import Derived.Laws.IdiomCopy
import Derived.OrdersHeld
import Derived.Laws.BitsLemmas
import Derived.RowKit
import Derived.Test.YtagmefjpnmjcjaaWWords
import Derived.Test.YtagmefjpnmjcjaaWLast
import Derived.Test.YtagmefjpnmjcjaaWTab
import Derived.Test.YtagmefjpnmjcjaaWFour
import Derived.Test.YtagmefjpnmjcjaaWQPut
import Derived.Test.YtagmefjpnmjcjaaWApart
import Derived.Test.YtagmefjpnmjcjaaWArr
import Derived.Test.YtagmefjpnmjcjaaWZeros
import Derived.Test.YtagmefjpnmjcjaaWFoot
import Derived.Test.YtagmefjpnmjcjaaWKept
import Derived.Test.YtagmefjpnmjcjaaWShare
import Derived.Test.YtagmefjpnmjcjaaWN
import Derived.Test.YtagmefjpnmjcjaaWFootNe
import Derived.Test.YtagmefjpnmjcjaaWAt
import Derived.Test.YtagmefjpnmjcjaaWEqStruct
import Derived.Test.YtagmefjpnmjcjaaWRepsOne
import Derived.Test.YtagmefjpnmjcjaaWInv
import Derived.Test.YtagmefjpnmjcjaaWInvWords
import Derived.Test.YtagmefjpnmjcjaaWGuard
import Derived.Test.YtagmefjpnmjcjaaWNEv
import Derived.Test.YtagmefjpnmjcjaaWMore
namespace Go.Proofs.Ytagmefjpnmjcjaa.He
open Go.RowKit Go.Proofs.YtagmefjpnmjcjaaW.PrintWords Go.Proofs.YtagmefjpnmjcjaaW.PrintLast Go.Proofs.YtagmefjpnmjcjaaW.PrintMore
attribute [local go_sem] max2_int min2_int max_two min_two max_three min_three max_four min_four   -- for this text's walks alone
set_option linter.unusedVariables false
set_option linter.unusedSimpArgs false

theorem fold_ {α : Type} {g : Nat → Option α} (hg : ∀ k, LeO (g k) (g (k + 1))) {k k' : Nat} {r z : α} (h' : g k' = some r) (h : g k = some z) : g k = some r := by
  have h1 := at_rounds hg (Nat.le_max_left k k') h
  have h2 := at_rounds hg (Nat.le_max_right k k') h'
  rw [h1] at h2
  rw [h]
  exact h2



def errW : Option Int → Value
  | none => .nilIface
  | some c => .iface 0 (.int .i64 c)
theorem errW_none : errW none = .nilIface := rfl
theorem errW_some (c : Int) : errW (some c) = .iface 0 (.int .i64 c) := rfl

-- the values' own types
/-! #### struct type 28 -/
structure S28 where
  f0 : Bool
  f1 : Int
def z28 : S28 := ⟨false, (0 : Int)⟩
def k28 : Kd S28 := Kd.iso (Kd.pair Kd.bool (Kd.int .u64)) (fun x : S28 => (x.f0, x.f1))
theorem k28_open {w : World} {x : S28} {cs : List Value} (h : k28.K w x cs) : cs = [.bool x.f0, .int .u64 x.f1] := by
  obtain ⟨_, _, rfl, rfl, rfl⟩ := h
  exact rfl
theorem k28_openM {w : World} {base : Nat} {ok : Nat → Prop} {x : S28} {cs : List Value} (h : k28.M w base ok x cs) : cs = [.bool x.f0, .int .u64 x.f1] := by
  obtain ⟨_, _, rfl, rfl, rfl⟩ := h
  exact rfl
theorem k28_mk (w : World) (x : S28)  : k28.K w x [.bool x.f0, .int .u64 x.f1] := ⟨[.bool x.f0], [.int .u64 x.f1], rfl, rfl, rfl⟩
theorem k28_mkM (w : World) (base : Nat) (ok : Nat → Prop) (x : S28)  : k28.M w base ok x [.bool x.f0, .int .u64 x.f1] := ⟨[.bool x.f0], [.int .u64 x.f1], rfl, rfl, rfl⟩
def rd_T28 (xs : List S28) (i : Int) : S28 := xs.getD i.toNat z28
theorem at_T28 {w : World} {A : Option Addr} {n : Nat} {xs : List S28} (h : Kd.C k28 w A n xs) (i : Int) (h0 : 0 ≤ i) (h1 : i < n) : ∃ ad , A = some ad ∧ w.cell? (ad.add (i.toNat * 2)) = some (.bool (rd_T28 xs i).f0) ∧ w.cell? ⟨(ad.add (i.toNat * 2)).block, (ad.add (i.toNat * 2)).off + 1, none⟩ = some (.int .u64 (rd_T28 xs i).f1) := by
  obtain ⟨ad, c, e, _, hK, hc0⟩ := Kd.C_get h z28 i h0 h1
  have hc : ∀ j u, c[j]? = some u → w.cell? (ad.add (i.toNat * 2 + j)) = some u := hc0
  obtain rfl := k28_open hK
  exact ⟨ad, e, hc 0 _ rfl, by rw [← add_field _ _ 1 (by omega)]; exact hc 1 _ rfl⟩

end Go.Proofs.Ytagmefjpnmjcjaa.He
