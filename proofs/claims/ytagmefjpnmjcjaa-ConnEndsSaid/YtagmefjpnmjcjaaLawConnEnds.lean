/- The law ConnEnds, whatever its arguments are: it returns true, and each argument reads as it read. No condition. (Laid by a program of this session, wip/pp/rowgen.py.) -/
import Derived.Test.YtagmefjpnmjcjaaRows
import Derived.Test.YtagmefjpnmjcjaaCox10
import Derived.Test.YtagmefjpnmjcjaaPureConnEnds
import Derived.Test.YtagmefjpnmjcjaaOpen
import Derived.WalkKit
import Derived.ProofKit
import Derived.OpenShut
import Derived.ShutString
import Derived.ChangeOld
import Derived.Below
import Derived.SizedLaws
import Derived.Carry
namespace Go.Proofs.Ytagmefjpnmjcjaa.connEnds
open Go.ChangeShapes Go.WideShapes Go.ChangeAt Go.RowKit Go.Proofs.Ytagmefjpnmjcjaa.Co Go.Proofs.YtagmefjpnmjcjaaOpen Go.Proofs.YtagmefjpnmjcjaaW.PrintWords
set_option linter.unusedVariables false
theorem own : ownKnob Try.prog.godebug = none := by kernel_rfl
theorem laidOut : laidOutB Try.prog = true := by kernel_rfl
set_option maxRecDepth 100000 in
theorem lifted (os : Os) (started : os.Started) (H : Type) (enc : TypeId × Value → H) :
    ReturnsInHanded {} Try.checked os 14 .any (Rows.connEndsSpec.pre6 enc Try.prog Try.f14 Rows.connEndsRow.domain false) (Rows.connEndsSpec.post enc Try.prog Try.f14 false true false false) := by
  refine returnsInHanded_of_change_sized (C := Try.checked) own started (by kernel_rfl) Try.func14
    (ChangeSpec.witness6 (enc := enc) (C := Try.checked) false ⟨#[], #[.slice none 0 0, .slice none 0 0, .bool false], []⟩ 8 (by kernel_rfl) (by kernel_rfl) (by kernel_rfl) (by kernel_rfl)) ?_
  intro W base args ds gs before hval0 hW hcnd hsz0 _
  have hval : ∀ (j : Nat) t v, Try.f14.params[j]? = some t → args[j]? = some v → Value.okWide Try.prog W .any base t v := hval0
  have hW' := hW
  obtain ⟨p, q, hA0, hV, rfl, hfz, hnd⟩ := hW
  have hA : DataW.TrodAll enc Try.prog W 0 (fun _ => true) true Try.f14.params.toList args.toList ds p := hA0
  rw [Try.params14] at hA hval
  obtain ⟨v0, vs0, d0, ds0, p0, q0, hargs, rfl, rfl, h0, r0⟩ := trodAll_cons hA
  obtain ⟨v1, vs1, d1, ds1, p1, q1, rfl, rfl, rfl, h1, r1⟩ := trodAll_cons r0
  obtain ⟨v2, vs2, d2, ds2, p2, q2, rfl, rfl, rfl, h2, r2⟩ := trodAll_cons r1
  obtain ⟨rfl, rfl, rfl⟩ := trodAll_nil r2
  obtain rfl : args = #[v0, v1, v2] := by cases args; simp_all
  obtain ⟨rfl, rfl⟩ := trodVars_none hV
  have lt0 : ∀ x ∈ p0, x.block < W.heap.size := by obtain ⟨m, hm⟩ := h0; exact DataW.trod_lt m _ _ _ hm
  obtain ⟨x0, K0, o0⟩ := arg_of (d := (Kd.slice 102 k102)) (opens_slice Try.underlying96 (by kernel_rfl) (opens_iso (fun p => ⟨p.1, p.2.1, p.2.2⟩) (fun _ => rfl) (opens_three Try.underlying102 (by kernel_rfl) (by kernel_rfl) (opens_int Try.underlying3) (opens_int Try.underlying3) (opens_int Try.underlying22)))) h0
  obtain ⟨A0, c0, rfl, l0, R0⟩ := slice_of Try.underlying96 (hval 0 96 v0 rfl rfl) K0
  have lt1 : ∀ x ∈ p1, x.block < W.heap.size := by obtain ⟨m, hm⟩ := h1; exact DataW.trod_lt m _ _ _ hm
  obtain ⟨x1, K1, o1⟩ := arg_of (d := (Kd.slice 102 k102)) (opens_slice Try.underlying96 (by kernel_rfl) (opens_iso (fun p => ⟨p.1, p.2.1, p.2.2⟩) (fun _ => rfl) (opens_three Try.underlying102 (by kernel_rfl) (by kernel_rfl) (opens_int Try.underlying3) (opens_int Try.underlying3) (opens_int Try.underlying22)))) h1
  obtain ⟨A1, c1, rfl, l1, R1⟩ := slice_of Try.underlying96 (hval 1 96 v1 rfl rfl) K1
  have lt2 : ∀ x ∈ p2, x.block < W.heap.size := by obtain ⟨m, hm⟩ := h2; exact DataW.trod_lt m _ _ _ hm
  obtain ⟨x2, K2, o2⟩ := arg_of (d := Kd.bool) (opens_bool Try.underlying4) h2
  obtain rfl := bool_of Try.underlying4 (hval 2 4 v2 rfl rfl) K2
  clear hA0 hval0 hsz0
  obtain ⟨k, hp⟩ := Pure.ConnEnds x0 x1 x2 o0 o1 o2
  refine (signalmanlaw09_ConnEnds.calls k A0 c0 x0 A1 c1 x1 x2 true W R0 l0 R1 l1 hp).mono fun e W' ⟨he, bel⟩ => ?_
  subst he
  exact ⟨_, rfl, _, _, _, [], _, [], hW', trodAll_mk1 (shut_bool Try.underlying4 _), (trodAll_cons_mk (Below.trod laidOut (by kernel_rfl) (of_decide_eq_true (by kernel_rfl)) h0 bel lt0) (trodAll_cons_mk (Below.trod laidOut (by kernel_rfl) (of_decide_eq_true (by kernel_rfl)) h1 bel lt1) (trodAll_cons_mk (Below.trod laidOut (by kernel_rfl) (of_decide_eq_true (by kernel_rfl)) h2 bel lt2) trodAll_mk0))), rfl, bel.frame _, fun h => by cases h⟩
theorem over : Rows.connEndsRow.holds Try.pinned (OpenSpec.ofChange Rows.connEndsSpec) :=
  OpenClaim.holds_of_wide 14 Try.f14 rfl rfl rfl rfl rfl rfl rfl ⟨rfl, rfl, rfl, rfl, rfl⟩ rfl rfl rfl rfl rfl (by kernel_rfl) Try.func14 (by kernel_rfl)
    (of_decide_eq_true (by kernel_rfl)) (by unfold Func.isWrapper; first | (rw [if_pos (by decide +kernel)]; kernel_rfl) | (rw [if_neg (by decide +kernel)]; exact ⟨rfl, rfl⟩))
    (fun os started H enc _ => lifted os started H enc)
theorem proved : Rows.ConnEndsSaid := over
#print axioms proved
end Go.Proofs.Ytagmefjpnmjcjaa.connEnds
namespace Go.Proofs.Ytagmefjpnmjcjaa
/-- The row, under a short name, for the claim. -/
theorem connEnds_holds : Rows.ConnEndsSaid := connEnds.proved
end Go.Proofs.Ytagmefjpnmjcjaa
