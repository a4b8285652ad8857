/- The plain law of HealthTells: what the printed functions compute answers true, at every settings, state and probes. -/
import Derived.Test.YtagmefjpnmjcjaaHex5
import Derived.Test.YtagmefjpnmjcjaaPureHealthCore
namespace Go.Proofs.Ytagmefjpnmjcjaa.Pure
open Go.RowKit Go.Proofs.Ytagmefjpnmjcjaa.He Go.Proofs.YtagmefjpnmjcjaaW.PrintWords Go.Proofs.YtagmefjpnmjcjaaW.PrintLast Go.Proofs.YtagmefjpnmjcjaaW.PrintMore

theorem HealthTells (a0_0 : Int) (a0_1 : Int) (a0_2 : Int) (a1_0 : Int) (a1_1 : Int) (a2_0 : Bool) (a2_1 : Int) (_h0 : (Lit.int .i64 a0_0).wf = true ∧ (Lit.int .i64 a0_1).wf = true ∧ (Lit.int .u64 a0_2).wf = true) (_h1 : (Lit.int .i64 a1_0).wf = true ∧ (Lit.int .i64 a1_1).wf = true) (_h2 : True ∧ (Lit.int .u64 a2_1).wf = true) :
    ∃ k, signalmanlaw12_HealthTells.f k a0_0 a0_1 a0_2 a1_0 a1_1 a2_0 a2_1 = some true := by
  refine ⟨10, ?_⟩
  unfold signalmanlaw12_HealthTells.f
  rw [awake_eq 10 (by decide), right_eq, ref_right_eq]
  simp only [Option.bind_some, health_Serves.f, health_Off.f]
  have on : health_On.f a1_0 a1_1 = some (if a1_0 = 4 then (2, 0) else (a1_0, a1_1)) := by unfold health_On.f; split <;> rfl
  have on2 : signalmanref12_On.f a1_0 a1_1 = some (if a1_0 = 4 then (2, 0) else (a1_0, a1_1)) := by unfold signalmanref12_On.f; split <;> rfl
  rw [on, on2]
  simp only [Option.bind_some]
  rw [if_neg (by simp), if_neg (by simp), if_neg (by simp)]
  have e : ∀ x : Int × Int, (!(x.1 == x.1) || (!(x.2 == x.2))) = false := by intro x; simp
  rw [e]
  simp only [signalmanlaw12_HealthTells.j0]
  rw [if_neg (by simp)]
  unfold signalmanlaw12_right.f
  rw [ref_right_eq]
  simp only [Option.bind_some]
  by_cases hr : rgt a0_0 a0_1 a0_2 = true
  · rw [if_pos hr]
    by_cases c0 : a1_1 ≥ 0
    · rw [if_pos c0]
      by_cases c1 : a1_1 ≤ 1000
      · simp only [Option.bind_some, c1, decide_true, if_true]
        rw [step_eq 9 _ _ _ _ _ _ _ (by decide) (by omega) c1, ref_step_eq 9 _ _ _ _ _ _ _ (by decide) (by omega) c1]
        simp
      · simp [c1]
    · rw [if_neg c0]; simp
  · rw [if_neg hr]; simp

end Go.Proofs.Ytagmefjpnmjcjaa.Pure
