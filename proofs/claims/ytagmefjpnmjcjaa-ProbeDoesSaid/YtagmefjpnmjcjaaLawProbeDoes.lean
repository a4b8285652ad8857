/- The law ProbeDoes, whatever its arguments are: it returns true, and each argument reads as it read. No condition. (Laid by a program of this session, wip/pp/rowgen.py.) -/
import Derived.Test.YtagmefjpnmjcjaaRows
import Derived.Test.YtagmefjpnmjcjaaPrDoes
import Derived.Test.YtagmefjpnmjcjaaPrDoes
import Derived.Test.YtagmefjpnmjcjaaOpen
import Derived.WalkKit
import Derived.ProofKit
import Derived.OpenShut
import Derived.ShutString
import Derived.ChangeOld
import Derived.Below
import Derived.SizedLaws
import Derived.Carry
namespace Go.Proofs.Ytagmefjpnmjcjaa.probeDoes
open Go.ChangeShapes Go.WideShapes Go.ChangeAt Go.RowKit Go.Proofs.Ytagmefjpnmjcjaa.Pr Go.Proofs.YtagmefjpnmjcjaaOpen Go.Proofs.YtagmefjpnmjcjaaW.PrintWords
open Go.Proofs.Ytagmefjpnmjcjaa.Px
set_option linter.unusedVariables false
theorem own : ownKnob Try.prog.godebug = none := by kernel_rfl
theorem laidOut : laidOutB Try.prog = true := by kernel_rfl
set_option maxRecDepth 100000 in
theorem lifted (os : Os) (started : os.Started) (H : Type) (enc : TypeId × Value → H) :
    ReturnsInHanded {} Try.checked os 6 .any (Rows.probeDoesSpec.pre6 enc Try.prog Try.f6 Rows.probeDoesRow.domain false) (Rows.probeDoesSpec.post enc Try.prog Try.f6 false true false false) := by
  refine returnsInHanded_of_change_sized (C := Try.checked) own started (by kernel_rfl) Try.func6
    (ChangeSpec.witness6 (enc := enc) (C := Try.checked) false ⟨#[], #[.int .i64 0, .int .u64 0, .int .u64 0, .slice none 0 0], []⟩ 8 (by kernel_rfl) (by kernel_rfl) (by kernel_rfl) (by kernel_rfl)) ?_
  intro W base args ds gs before hval0 hW hcnd hsz0 _
  have hval : ∀ (j : Nat) t v, Try.f6.params[j]? = some t → args[j]? = some v → Value.okWide Try.prog W .any base t v := hval0
  have hW' := hW
  obtain ⟨p, q, hA0, hV, rfl, hfz, hnd⟩ := hW
  have hA : DataW.TrodAll enc Try.prog W 0 (fun _ => true) true Try.f6.params.toList args.toList ds p := hA0
  rw [Try.params6] at hA hval
  obtain ⟨v0, vs0, d0, ds0, p0, q0, hargs, rfl, rfl, h0, r0⟩ := trodAll_cons hA
  obtain ⟨v1, vs1, d1, ds1, p1, q1, rfl, rfl, rfl, h1, r1⟩ := trodAll_cons r0
  obtain ⟨v2, vs2, d2, ds2, p2, q2, rfl, rfl, rfl, h2, r2⟩ := trodAll_cons r1
  obtain ⟨v3, vs3, d3, ds3, p3, q3, rfl, rfl, rfl, h3, r3⟩ := trodAll_cons r2
  obtain ⟨rfl, rfl, rfl⟩ := trodAll_nil r3
  obtain rfl : args = #[v0, v1, v2, v3] := by cases args; simp_all
  obtain ⟨rfl, rfl⟩ := trodVars_none hV
  have lt0 : ∀ x ∈ p0, x.block < W.heap.size := by obtain ⟨m, hm⟩ := h0; exact DataW.trod_lt m _ _ _ hm
  obtain ⟨x0, K0, o0⟩ := arg_of (d := (Kd.int .i64)) (opens_int Try.underlying3) h0
  obtain rfl := int_of Try.underlying3 (hval 0 3 v0 rfl rfl) K0
  have lt1 : ∀ x ∈ p1, x.block < W.heap.size := by obtain ⟨m, hm⟩ := h1; exact DataW.trod_lt m _ _ _ hm
  obtain ⟨x1, K1, o1⟩ := arg_of (d := (Kd.int .u64)) (opens_int Try.underlying22) h1
  obtain rfl := int_of Try.underlying22 (hval 1 22 v1 rfl rfl) K1
  have lt2 : ∀ x ∈ p2, x.block < W.heap.size := by obtain ⟨m, hm⟩ := h2; exact DataW.trod_lt m _ _ _ hm
  obtain ⟨x2, K2, o2⟩ := arg_of (d := (Kd.int .u64)) (opens_int Try.underlying22) h2
  obtain rfl := int_of Try.underlying22 (hval 2 22 v2 rfl rfl) K2
  have lt3 : ∀ x ∈ p3, x.block < W.heap.size := by obtain ⟨m, hm⟩ := h3; exact DataW.trod_lt m _ _ _ hm
  obtain ⟨x3, K3, o3⟩ := arg_of (d := (Kd.slice 56 k56)) (opens_slice Try.underlying46 (by kernel_rfl) (opens_iso (fun p => ⟨p.1, p.2.1, p.2.2⟩) (fun _ => rfl) (opens_three Try.underlying56 (by kernel_rfl) (by kernel_rfl) (opens_int Try.underlying3) (opens_int Try.underlying3) (opens_int Try.underlying22)))) h3
  obtain ⟨A3, c3, rfl, l3, R3⟩ := slice_of Try.underlying46 (hval 3 46 v3 rfl rfl) K3
  clear hA0 hval0 hsz0
  refine (ProbeDoes_calls x0 x1 x2 A3 c3 x3 W R3 l3 o0 o1 o2 o3).mono fun e W' ⟨he, bel⟩ => ?_
  subst he
  exact ⟨_, rfl, _, _, _, [], _, [], hW', trodAll_mk1 (shut_bool Try.underlying4 _), (trodAll_cons_mk (Below.trod laidOut (by kernel_rfl) (of_decide_eq_true (by kernel_rfl)) h0 bel lt0) (trodAll_cons_mk (Below.trod laidOut (by kernel_rfl) (of_decide_eq_true (by kernel_rfl)) h1 bel lt1) (trodAll_cons_mk (Below.trod laidOut (by kernel_rfl) (of_decide_eq_true (by kernel_rfl)) h2 bel lt2) (trodAll_cons_mk (Below.trod laidOut (by kernel_rfl) (of_decide_eq_true (by kernel_rfl)) h3 bel lt3) trodAll_mk0)))), rfl, bel.frame _, fun h => by cases h⟩
theorem over : Rows.probeDoesRow.holds Try.pinned (OpenSpec.ofChange Rows.probeDoesSpec) :=
  OpenClaim.holds_of_wide 6 Try.f6 rfl rfl rfl rfl rfl rfl rfl ⟨rfl, rfl, rfl, rfl, rfl⟩ rfl rfl rfl rfl rfl (by kernel_rfl) Try.func6 (by kernel_rfl)
    (of_decide_eq_true (by kernel_rfl)) (by unfold Func.isWrapper; first | (rw [if_pos (by decide +kernel)]; kernel_rfl) | (rw [if_neg (by decide +kernel)]; exact ⟨rfl, rfl⟩))
    (fun os started H enc _ => lifted os started H enc)
theorem proved : Rows.ProbeDoesSaid := over
#print axioms proved
end Go.Proofs.Ytagmefjpnmjcjaa.probeDoes
namespace Go.Proofs.Ytagmefjpnmjcjaa
/-- The row, under a short name, for the claim. -/
theorem probeDoes_holds : Rows.ProbeDoesSaid := probeDoes.proved
end Go.Proofs.Ytagmefjpnmjcjaa
