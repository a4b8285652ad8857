/- The law MsgStream, whatever its arguments are: it returns true, and each argument reads as it read. No condition. (Laid by a program of this session, wip/pp/rowgen.py.) -/
import Derived.Test.YtagmefjpnmjcjabRows
import Derived.Test.YtagmefjpnmjcjabMsStream
import Derived.Test.YtagmefjpnmjcjabMsStream
import Derived.Test.YtagmefjpnmjcjabOpen
import Derived.WalkKit
import Derived.ProofKit
import Derived.OpenShut
import Derived.ShutString
import Derived.ChangeOld
import Derived.Below
import Derived.SizedLaws
import Derived.Carry
namespace Go.Proofs.Ytagmefjpnmjcjab.msgStream
open Go.ChangeShapes Go.WideShapes Go.ChangeAt Go.RowKit Go.Proofs.Ytagmefjpnmjcjab.Mh Go.Proofs.YtagmefjpnmjcjabOpen Go.Proofs.YtagmefjpnmjcjabW.PrintWords
open Go.Proofs.Ytagmefjpnmjcjab.Ms
set_option linter.unusedVariables false
theorem own : ownKnob Try.prog.godebug = none := by kernel_rfl
theorem laidOut : laidOutB Try.prog = true := by kernel_rfl
set_option maxRecDepth 100000 in
theorem lifted (os : Os) (started : os.Started) (H : Type) (enc : TypeId × Value → H) :
    ReturnsInHanded {} Try.checked os 12 .any (Rows.msgStreamSpec.pre6 enc Try.prog Try.f12 Rows.msgStreamRow.domain false) (Rows.msgStreamSpec.post enc Try.prog Try.f12 false true false false) := by
  refine returnsInHanded_of_change_sized (C := Try.checked) own started (by kernel_rfl) Try.func12
    (ChangeSpec.witness6 (enc := enc) (C := Try.checked) false ⟨#[], #[.slice none 0 0, .slice none 0 0], []⟩ 8 (by kernel_rfl) (by kernel_rfl) (by kernel_rfl) (by kernel_rfl)) ?_
  intro W base args ds gs before hval0 hW hcnd hsz0 _
  have hval : ∀ (j : Nat) t v, Try.f12.params[j]? = some t → args[j]? = some v → Value.okWide Try.prog W .any base t v := hval0
  have hW' := hW
  obtain ⟨p, q, hA0, hV, rfl, hfz, hnd⟩ := hW
  have hA : DataW.TrodAll enc Try.prog W 0 (fun _ => true) true Try.f12.params.toList args.toList ds p := hA0
  rw [Try.params12] at hA hval
  obtain ⟨v0, vs0, d0, ds0, p0, q0, hargs, rfl, rfl, h0, r0⟩ := trodAll_cons hA
  obtain ⟨v1, vs1, d1, ds1, p1, q1, rfl, rfl, rfl, h1, r1⟩ := trodAll_cons r0
  obtain ⟨rfl, rfl, rfl⟩ := trodAll_nil r1
  obtain rfl : args = #[v0, v1] := by cases args; simp_all
  obtain ⟨rfl, rfl⟩ := trodVars_none hV
  have lt0 : ∀ x ∈ p0, x.block < W.heap.size := by obtain ⟨m, hm⟩ := h0; exact DataW.trod_lt m _ _ _ hm
  obtain ⟨x0, K0, o0⟩ := arg_of (d := (Kd.slice 67 k67)) (opens_slice Try.underlying77 (by kernel_rfl) (opens_iso (fun p => ⟨p.1, p.2.1, p.2.2⟩) (fun _ => rfl) (opens_three Try.underlying67 (by kernel_rfl) (by kernel_rfl) (opens_int Try.underlying3) (opens_slice Try.underlying64 (by kernel_rfl) (opens_int Try.underlying23)) (opens_slice Try.underlying65 (by kernel_rfl) (opens_string Try.underlying9))))) h0
  obtain ⟨A0, c0, rfl, l0, R0⟩ := slice_of Try.underlying77 (hval 0 77 v0 rfl rfl) K0
  have lt1 : ∀ x ∈ p1, x.block < W.heap.size := by obtain ⟨m, hm⟩ := h1; exact DataW.trod_lt m _ _ _ hm
  obtain ⟨x1, K1, o1⟩ := arg_of (d := (Kd.slice 3 (Kd.int .i64))) (opens_slice Try.underlying61 (by kernel_rfl) (opens_int Try.underlying3)) h1
  obtain ⟨A1, c1, rfl, l1, R1⟩ := slice_of Try.underlying61 (hval 1 61 v1 rfl rfl) K1
  clear hA0 hval0 hsz0
  refine (MsgStream_calls A0 c0 x0 A1 c1 x1 W R0 l0 R1 l1 o0 o1).mono fun e W' ⟨he, bel⟩ => ?_
  subst he
  exact ⟨_, rfl, _, _, _, [], _, [], hW', trodAll_mk1 (shut_bool Try.underlying4 _), (trodAll_cons_mk (Below.trod laidOut (by kernel_rfl) (of_decide_eq_true (by kernel_rfl)) h0 bel lt0) (trodAll_cons_mk (Below.trod laidOut (by kernel_rfl) (of_decide_eq_true (by kernel_rfl)) h1 bel lt1) trodAll_mk0)), rfl, bel.frame _, fun h => by cases h⟩
theorem over : Rows.msgStreamRow.holds Try.pinned (OpenSpec.ofChange Rows.msgStreamSpec) :=
  OpenClaim.holds_of_wide 12 Try.f12 rfl rfl rfl rfl rfl rfl rfl ⟨rfl, rfl, rfl, rfl, rfl⟩ rfl rfl rfl rfl rfl (by kernel_rfl) Try.func12 (by kernel_rfl)
    (of_decide_eq_true (by kernel_rfl)) (by unfold Func.isWrapper; first | (rw [if_pos (by decide +kernel)]; kernel_rfl) | (rw [if_neg (by decide +kernel)]; exact ⟨rfl, rfl⟩))
    (fun os started H enc _ => lifted os started H enc)
theorem proved : Rows.MsgStreamSaid := over
#print axioms proved
end Go.Proofs.Ytagmefjpnmjcjab.msgStream
namespace Go.Proofs.Ytagmefjpnmjcjab
/-- The row, under a short name, for the claim. -/
theorem msgStream_holds : Rows.MsgStreamSaid := msgStream.proved
end Go.Proofs.Ytagmefjpnmjcjab
