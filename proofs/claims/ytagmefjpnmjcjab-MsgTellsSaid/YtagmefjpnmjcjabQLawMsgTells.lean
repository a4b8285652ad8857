/- The law MsgTells, whatever its arguments are: it returns true, and each argument reads as it read. No condition. (Laid by a program of this session, wip/pp/rowgen.py.) -/
import Derived.Test.YtagmefjpnmjcjabRows
import Derived.Test.YtagmefjpnmjcjabQMsTells
import Derived.Test.YtagmefjpnmjcjabQOpen
import Derived.WalkKit
import Derived.ProofKit
import Derived.OpenShut
import Derived.ShutString
import Derived.ChangeOld
import Derived.Below
import Derived.SizedLaws
import Derived.Carry
namespace Go.Proofs.Ytagmefjpnmjcjab.msgTells
open Go.ChangeShapes Go.WideShapes Go.ChangeAt Go.RowKit Go.Proofs.Ytagmefjpnmjcjab.Mh Go.Proofs.YtagmefjpnmjcjabOpen Go.Proofs.YtagmefjpnmjcjabW.PrintWords
open Go.Proofs.Ytagmefjpnmjcjab.Ms
set_option linter.unusedVariables false
theorem own : ownKnob Try.prog.godebug = none := by kernel_rfl
theorem laidOut : laidOutB Try.prog = true := by kernel_rfl
set_option maxRecDepth 100000 in
theorem lifted (os : Os) (started : os.Started) (H : Type) (enc : TypeId × Value → H) :
    ReturnsInHanded {} Try.checked os 13 .any (Rows.msgTellsSpec.pre6 enc Try.prog Try.f13 Rows.msgTellsRow.domain false) (Rows.msgTellsSpec.post enc Try.prog Try.f13 false true false false) := by
  refine returnsInHanded_of_change_sized (C := Try.checked) own started (by kernel_rfl) Try.func13
    (ChangeSpec.witness6 (enc := enc) (C := Try.checked) false ⟨#[], #[.agg #[.int .i64 0, .slice none 0 0, .slice none 0 0], .agg #[.int .i64 0, .slice none 0 0, .slice none 0 0], .agg #[.int .u8 0, .slice none 0 0]], []⟩ 8 (by kernel_rfl) (by kernel_rfl) (by kernel_rfl) (by kernel_rfl)) ?_
  intro W base args ds gs before hval0 hW hcnd hsz0 _
  have hval : ∀ (j : Nat) t v, Try.f13.params[j]? = some t → args[j]? = some v → Value.okWide Try.prog W .any base t v := hval0
  have hW' := hW
  obtain ⟨p, q, hA0, hV, rfl, hfz, hnd⟩ := hW
  have hA : DataW.TrodAll enc Try.prog W 0 (fun _ => true) true Try.f13.params.toList args.toList ds p := hA0
  rw [Try.params13] at hA hval
  obtain ⟨v0, vs0, d0, ds0, p0, q0, hargs, rfl, rfl, h0, r0⟩ := trodAll_cons hA
  obtain ⟨v1, vs1, d1, ds1, p1, q1, rfl, rfl, rfl, h1, r1⟩ := trodAll_cons r0
  obtain ⟨v2, vs2, d2, ds2, p2, q2, rfl, rfl, rfl, h2, r2⟩ := trodAll_cons r1
  obtain ⟨rfl, rfl, rfl⟩ := trodAll_nil r2
  obtain rfl : args = #[v0, v1, v2] := by cases args; simp_all
  obtain ⟨rfl, rfl⟩ := trodVars_none hV
  have lt0 : ∀ x ∈ p0, x.block < W.heap.size := by obtain ⟨m, hm⟩ := h0; exact DataW.trod_lt m _ _ _ hm
  obtain ⟨x0, K0, o0⟩ := arg_of (d := (Kd.pair (Kd.int .i64) (Kd.pair (Kd.slice 23 (Kd.int .u64)) (Kd.slice 9 Kd.string)))) (opens_three Try.underlying67 (by kernel_rfl) (by kernel_rfl) (opens_int Try.underlying3) (opens_slice Try.underlying64 (by kernel_rfl) (opens_int Try.underlying23)) (opens_slice Try.underlying65 (by kernel_rfl) (opens_string Try.underlying9))) h0
  obtain ⟨x0_0, ⟨x0_1, x0_2⟩⟩ := x0
  obtain ⟨_, _, e0, rfl, ⟨_, _, rfl, ⟨A0_1, c0_1, rfl, l0_1, R0_1⟩, ⟨A0_2, c0_2, rfl, l0_2, R0_2⟩⟩⟩ := K0
  obtain rfl := agg_of Try.underlying67 (hval 0 67 v0 rfl rfl) e0
  have lt1 : ∀ x ∈ p1, x.block < W.heap.size := by obtain ⟨m, hm⟩ := h1; exact DataW.trod_lt m _ _ _ hm
  obtain ⟨x1, K1, o1⟩ := arg_of (d := (Kd.pair (Kd.int .i64) (Kd.pair (Kd.slice 23 (Kd.int .u64)) (Kd.slice 9 Kd.string)))) (opens_three Try.underlying67 (by kernel_rfl) (by kernel_rfl) (opens_int Try.underlying3) (opens_slice Try.underlying64 (by kernel_rfl) (opens_int Try.underlying23)) (opens_slice Try.underlying65 (by kernel_rfl) (opens_string Try.underlying9))) h1
  obtain ⟨x1_0, ⟨x1_1, x1_2⟩⟩ := x1
  obtain ⟨_, _, e1, rfl, ⟨_, _, rfl, ⟨A1_1, c1_1, rfl, l1_1, R1_1⟩, ⟨A1_2, c1_2, rfl, l1_2, R1_2⟩⟩⟩ := K1
  obtain rfl := agg_of Try.underlying67 (hval 1 67 v1 rfl rfl) e1
  have lt2 : ∀ x ∈ p2, x.block < W.heap.size := by obtain ⟨m, hm⟩ := h2; exact DataW.trod_lt m _ _ _ hm
  obtain ⟨x2, K2, o2⟩ := arg_of (d := (Kd.pair (Kd.int .u8) (Kd.slice 5 (Kd.int .u8)))) (opens_two Try.underlying38 (by kernel_rfl) (by kernel_rfl) (opens_int Try.underlying5) (opens_slice Try.underlying22 (by kernel_rfl) (opens_int Try.underlying5))) h2
  obtain ⟨x2_0, x2_1⟩ := x2
  obtain ⟨_, _, e2, rfl, ⟨A2_1, c2_1, rfl, l2_1, R2_1⟩⟩ := K2
  obtain rfl := agg_of Try.underlying38 (hval 2 38 v2 rfl rfl) e2
  clear hA0 hval0 hsz0
  refine (MsgTells_calls x0_0 A0_1 c0_1 x0_1 A0_2 c0_2 x0_2 x1_0 A1_1 c1_1 x1_1 A1_2 c1_2 x1_2 x2_0 A2_1 c2_1 x2_1 W R0_1 l0_1 R0_2 l0_2 R1_1 l1_1 R1_2 l1_2 R2_1 l2_1 o0 o1 o2).mono fun e W' ⟨he, bel⟩ => ?_
  subst he
  exact ⟨_, rfl, _, _, _, [], _, [], hW', trodAll_mk1 (shut_bool Try.underlying4 _), (trodAll_cons_mk (Below.trod laidOut (by kernel_rfl) (of_decide_eq_true (by kernel_rfl)) h0 bel lt0) (trodAll_cons_mk (Below.trod laidOut (by kernel_rfl) (of_decide_eq_true (by kernel_rfl)) h1 bel lt1) (trodAll_cons_mk (Below.trod laidOut (by kernel_rfl) (of_decide_eq_true (by kernel_rfl)) h2 bel lt2) trodAll_mk0))), rfl, bel.frame _, fun h => by cases h⟩
theorem over : Rows.msgTellsRow.holds Try.pinned (OpenSpec.ofChange Rows.msgTellsSpec) :=
  OpenClaim.holds_of_wide 13 Try.f13 rfl rfl rfl rfl rfl rfl rfl ⟨rfl, rfl, rfl, rfl, rfl⟩ rfl rfl rfl rfl rfl (by kernel_rfl) Try.func13 (by kernel_rfl)
    (of_decide_eq_true (by kernel_rfl)) (by unfold Func.isWrapper; first | (rw [if_pos (by decide +kernel)]; kernel_rfl) | (rw [if_neg (by decide +kernel)]; exact ⟨rfl, rfl⟩))
    (fun os started H enc _ => lifted os started H enc)
theorem proved : Rows.MsgTellsSaid := over
#print axioms proved
end Go.Proofs.Ytagmefjpnmjcjab.msgTells
namespace Go.Proofs.Ytagmefjpnmjcjab
/-- The row, under a short name, for the claim. -/
theorem msgTells_holds : Rows.MsgTellsSaid := msgTells.proved
end Go.Proofs.Ytagmefjpnmjcjab
