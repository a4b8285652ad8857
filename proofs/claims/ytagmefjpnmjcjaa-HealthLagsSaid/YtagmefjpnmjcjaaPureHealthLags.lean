/- The plain law of HealthLags: what the printed functions compute answers true, at every settings, state and probes. -/
import Derived.Test.YtagmefjpnmjcjaaHex7
import Derived.Test.YtagmefjpnmjcjaaPureHealthCore
namespace Go.Proofs.Ytagmefjpnmjcjaa.Pure
open Go.RowKit Go.Proofs.Ytagmefjpnmjcjaa.He Go.Proofs.YtagmefjpnmjcjaaW.PrintWords Go.Proofs.YtagmefjpnmjcjaaW.PrintLast Go.Proofs.YtagmefjpnmjcjaaW.PrintMore

theorem lags_tell (F P L lag : Int) (l : List S28) (hF : 1 ≤ F) (hF2 : F ≤ 1000) (hP : 1 ≤ P) (hP2 : P ≤ 1000) (hL : 0 ≤ L) (hL2 : L ≤ 1000) (hn : l.length ≤ 300) (d : Nat) : ∀ (k : Nat) (i is c : Int), 0 ≤ i → i ≤ l.length → (l.length : Int) - i = d → d + 20 ≤ k →
    0 ≤ c → c ≤ 1000 → 1 ≤ is → is ≤ 3 → signalmanlaw12_HealthLags.l0 k lag l (l.length : Int) i F P L is c 4 0 = some true := by
  have hm : mx F P ≤ 1000 := by unfold mx; split <;> omega
  induction d with
  | zero =>
    intro k i is c h0 h1 hd hk hc hc2 g1 g2
    obtain ⟨k, rfl⟩ : ∃ m, k = m + 1 := ⟨k - 1, by omega⟩
    have e2 : IntKind.u64.wrap (L + 1) = L + 1 := u64_small (by omega) (by omega)
    have hmx : ¬ mx lag (L + 1) ≤ L := by unfold mx; split <;> omega
    have hs : stp F P L is c true (mx lag (L + 1)) = (2, 0) := by
      unfold stp
      rcases (show is = 1 ∨ is = 2 ∨ is = 3 by omega) with rfl | rfl | rfl <;> simp [hmx]
    simp only [signalmanlaw12_HealthLags.l0]
    rw [if_neg (by omega), e2, step_eq k F P L is c _ _ (by omega) hc (by omega), hs]
    simp [health_On.f, health_Serves.f]
  | succ d ih =>
    intro k i is c h0 h1 hd hk hc hc2 g1 g2
    obtain ⟨k, rfl⟩ : ∃ m, k = m + 1 := ⟨k - 1, by omega⟩
    have e1 : wrap64 (i + 1) = i + 1 := by unfold wrap64; omega
    obtain ⟨q1, q2, q3, q4⟩ := stp_good F P L is c (rd_T28 l i).f0 (rd_T28 l i).f1 hF hP ⟨g1, g2⟩ hc
    have go := ih k (i + 1) _ _ (by omega) (by omega) (by omega) (by omega) q3 (by omega) q1 q2
    have h4 : stp F P L 4 0 (rd_T28 l i).f0 (rd_T28 l i).f1 = (4, 0) := by unfold stp; simp
    simp only [signalmanlaw12_HealthLags.l0]
    rw [if_pos (by omega), if_pos h0, if_pos (by omega), step_eq k F P L is c _ _ (by omega) hc (by omega), step_eq k F P L 4 0 _ _ (by omega) (by omega) (by omega), h4]
    simp only [Option.bind_some, e1, health_Serves.f]
    have h40 : (!((4 : Int) == 4) || (!((0 : Int) == 0))) = false := by decide
    by_cases c1 : (rd_T28 l i).f0 = true
    · rw [if_pos c1]
      by_cases c2 : (rd_T28 l i).f1 > L
      · rw [if_pos c2]
        have hns : ¬ (stp F P L is c (rd_T28 l i).f0 (rd_T28 l i).f1).1 = 1 := by
          unfold stp
          rw [c1]
          have : ¬ (rd_T28 l i).f1 ≤ L := by omega
          rcases (show is = 1 ∨ is = 2 ∨ is = 3 by omega) with rfl | rfl | rfl <;> simp [this]
        rw [if_neg (by simp [hns]), h40, if_neg (by simp)]
        exact go
      · rw [if_neg c2, h40, if_neg (by simp)]
        exact go
    · rw [if_neg c1, h40, if_neg (by simp)]
      exact go

theorem HealthLags (a0_0 : Int) (a0_1 : Int) (a0_2 : Int) (a1 : List S28) (a2 : Int) (h0 : (Lit.int .i64 a0_0).wf = true ∧ (Lit.int .i64 a0_1).wf = true ∧ (Lit.int .u64 a0_2).wf = true) (_h1 : (∀ x_ ∈ a1, (True ∧ (Lit.int .u64 x_.f1).wf = true))) (_h2 : (Lit.int .u64 a2).wf = true) :
    ∃ k, signalmanlaw12_HealthLags.f k a0_0 a0_1 a0_2 a1 a2 = some true := by
  have hL : 0 ≤ a0_2 := by exact u64_nonneg h0.2.2
  refine ⟨1000, ?_⟩
  unfold signalmanlaw12_HealthLags.f
  rw [awake_eq 1000 (by decide), ref_right_eq]
  simp only [Option.bind_some]
  have triv : ∀ k, signalmanlaw12_HealthLags.j0 (k + 1) a1 a2 true a0_0 a0_1 a0_2 = some true := fun k => by simp [signalmanlaw12_HealthLags.j0]
  by_cases hr : rgt a0_0 a0_1 a0_2 = true
  · rw [if_pos hr]
    have hr' : 1 ≤ a0_0 ∧ a0_0 ≤ 1000 ∧ 1 ≤ a0_1 ∧ a0_1 ≤ 1000 ∧ a0_2 ≤ 1000 := of_decide_eq_true hr
    by_cases c1 : (a1.length : Int) > 300
    · rw [show decide ((a1.length : Int) > 300) = true from decide_eq_true c1]; exact triv 999
    · rw [show decide ((a1.length : Int) > 300) = false from decide_eq_false c1]
      rw [show (1000 : Nat) = 999 + 1 from rfl]
      simp only [signalmanlaw12_HealthLags.j0, health_Off.f, Option.bind_some]
      rw [if_neg (by simp)]
      exact lags_tell a0_0 a0_1 a0_2 a2 a1 (by omega) (by omega) (by omega) (by omega) hL (by omega) (by omega) a1.length 999 0 1 0 (by omega) (by omega) (by omega) (by omega) (by omega) (by omega) (by omega) (by omega)
  · rw [if_neg hr]; exact triv 999
end Go.Proofs.Ytagmefjpnmjcjaa.Pure
