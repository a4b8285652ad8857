/- What the printed functions of the health package compute, in plain words: a step, the settings, and that all is awake. -/
import Derived.Test.YtagmefjpnmjcjaaHex3
import Derived.Test.YtagmefjpnmjcjaaHex4
namespace Go.Proofs.Ytagmefjpnmjcjaa.Pure
open Go.RowKit Go.Proofs.Ytagmefjpnmjcjaa.He Go.Proofs.YtagmefjpnmjcjaaW.PrintWords Go.Proofs.YtagmefjpnmjcjaaW.PrintLast Go.Proofs.YtagmefjpnmjcjaaW.PrintMore

theorem u64_nonneg {n : Int} (h : (Lit.int .u64 n).wf = true) : 0 ≤ n := by
  simp [Lit.wf, IntKind.min, IntKind.max, IntKind.signed, IntKind.bits] at h
  omega
theorem u64_small {n : Int} (h0 : 0 ≤ n) (h1 : n < 18446744073709551616) : IntKind.u64.wrap n = n := by
  simp [IntKind.wrap, IntKind.signed, IntKind.bits]
  omega

def stp (F P L is c : Int) (ok : Bool) (lag : Int) : Int × Int :=
  if is = 1 then (if ok = true ∧ lag ≤ L then (1, 0) else if ok = true then (2, 0) else if c + 1 < F then (1, c + 1) else (2, 0))
  else if is = 2 then (if ok = true ∧ lag ≤ L then (if 1 ≥ P then (1, 0) else (3, 1)) else (2, 0))
  else if is = 3 then (if ok = true ∧ lag ≤ L then (if c + 1 ≥ P then (1, 0) else (3, c + 1)) else (2, 0))
  else (is, c)

theorem step_eq (k : Nat) (F P L is c : Int) (ok : Bool) (lag : Int) (hk : 2 ≤ k) (h0 : 0 ≤ c) (h1 : c ≤ 1000) : health_Step.f k F P L is c ok lag = some (stp F P L is c ok lag) := by
  obtain ⟨k, rfl⟩ : ∃ m, k = m + 2 := ⟨k - 2, by omega⟩
  have e1 : wrap64 (c + 1) = c + 1 := by unfold wrap64; omega
  have e2 : wrap64 (0 + 1) = 1 := by unfold wrap64; omega
  unfold health_Step.f stp
  cases ok <;> simp only [health_Step.j0, health_Step.j1, e1, e2] <;> by_cases hl : lag ≤ L <;> by_cases i1 : is = 1 <;> by_cases i2 : is = 2 <;> by_cases i3 : is = 3 <;> simp [hl, i1, i2, i3]
  all_goals first | done | (split <;> rfl) | omega

theorem ref_step_eq (k : Nat) (F P L is c : Int) (ok : Bool) (lag : Int) (hk : 3 ≤ k) (h0 : 0 ≤ c) (h1 : c ≤ 1000) : signalmanref12_Step.f k F P L is c ok lag = some (stp F P L is c ok lag) := by
  obtain ⟨k, rfl⟩ : ∃ m, k = m + 3 := ⟨k - 3, by omega⟩
  have e1 : wrap64 (c + 1) = c + 1 := by unfold wrap64; omega
  unfold signalmanref12_Step.f stp
  by_cases a : is < 1
  · cases ok <;> simp only [signalmanref12_Step.j0, signalmanref12_Step.j1, signalmanref12_Step.j2, e1] <;> simp [a, show ¬ is = 1 by omega, show ¬ is = 2 by omega, show ¬ is = 3 by omega]
  · by_cases b : is > 3
    · cases ok <;> simp only [signalmanref12_Step.j0, signalmanref12_Step.j1, signalmanref12_Step.j2, e1] <;> simp [a, b, show ¬ is = 1 by omega, show ¬ is = 2 by omega, show ¬ is = 3 by omega]
    · rcases (show is = 1 ∨ is = 2 ∨ is = 3 by omega) with rfl | rfl | rfl <;> cases ok <;> simp only [signalmanref12_Step.j0, signalmanref12_Step.j1, signalmanref12_Step.j2, e1] <;> by_cases hl : lag ≤ L <;> simp [hl]
      all_goals first | done | (split <;> rfl)

def rgt (F P L : Int) : Bool := decide (1 ≤ F ∧ F ≤ 1000 ∧ 1 ≤ P ∧ P ≤ 1000 ∧ L ≤ 1000)
theorem right_eq (F P L : Int) : health_Right.f F P L = some (rgt F P L) := by
  unfold health_Right.f rgt mn mx
  repeat' split
  all_goals (congr 1; first | (rw [decide_eq_decide]; omega) | (symm; rw [decide_eq_false_iff_not]; omega))
theorem ref_right_eq (F P L : Int) : signalmanref12_Right.f F P L = some (rgt F P L) := by
  unfold signalmanref12_Right.f rgt
  repeat' split
  all_goals (congr 1; first | (rw [decide_eq_decide]; omega) | (symm; rw [decide_eq_false_iff_not]; omega))
theorem awake_eq (k : Nat) (hk : 2 ≤ k) : signalmanlaw12_awake.f k = some true := by
  unfold signalmanlaw12_awake.f
  rw [step_eq k 2 2 3 1 0 false 0 hk (by decide) (by decide), step_eq k 2 2 3 1 1 false 0 hk (by decide) (by decide), step_eq k 2 2 3 2 0 true 3 hk (by decide) (by decide), step_eq k 2 2 3 3 1 true 0 hk (by decide) (by decide)]
  rfl

theorem stp_good (F P L is c : Int) (ok : Bool) (lag : Int) (hF : 1 ≤ F) (hP : 1 ≤ P) (hi : 1 ≤ is ∧ is ≤ 3) (hc : 0 ≤ c) :
    1 ≤ (stp F P L is c ok lag).1 ∧ (stp F P L is c ok lag).1 ≤ 3 ∧ 0 ≤ (stp F P L is c ok lag).2 ∧ ((stp F P L is c ok lag).2 < mx F P) := by
  have m1 : F ≤ mx F P := by unfold mx; split <;> omega
  have m2 : P ≤ mx F P := by unfold mx; split <;> omega
  unfold stp
  repeat' split
  all_goals (refine ⟨?_, ?_, ?_, ?_⟩ <;> simp <;> omega)

end Go.Proofs.Ytagmefjpnmjcjaa.Pure
