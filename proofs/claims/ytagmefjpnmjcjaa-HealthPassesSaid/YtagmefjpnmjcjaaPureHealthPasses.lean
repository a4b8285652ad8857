/- The plain law of HealthPasses: what the printed functions compute answers true, at every settings, state and probes. -/
import Derived.Test.YtagmefjpnmjcjaaHex6
import Derived.Test.YtagmefjpnmjcjaaPureHealthCore
namespace Go.Proofs.Ytagmefjpnmjcjaa.Pure
open Go.RowKit Go.Proofs.Ytagmefjpnmjcjaa.He Go.Proofs.YtagmefjpnmjcjaaW.PrintWords Go.Proofs.YtagmefjpnmjcjaaW.PrintLast Go.Proofs.YtagmefjpnmjcjaaW.PrintMore

/-- The failing probes. -/
theorem fails_tell (F P L : Int) (hF : 1 ≤ F) (hF2 : F ≤ 300) (d : Nat) : ∀ (k : Nat) (i is c : Int), 0 ≤ i → i ≤ F → F - i = d → d + 5 ≤ k → (i < F → is = 1 ∧ c = i) → (i = F → is = 2 ∧ c = 0) →
    signalmanlaw12_HealthPasses.l2 k F i F P L is c = some true := by
  induction d with
  | zero =>
    intro k i is c h0 h1 hd hk _ he
    obtain ⟨k, rfl⟩ : ∃ m, k = m + 1 := ⟨k - 1, by omega⟩
    obtain ⟨rfl, rfl⟩ := he (by omega)
    simp only [signalmanlaw12_HealthPasses.l2]; rw [if_neg (by omega)]; rfl
  | succ d ih =>
    intro k i is c h0 h1 hd hk hs he
    obtain ⟨k, rfl⟩ : ∃ m, k = m + 1 := ⟨k - 1, by omega⟩
    obtain ⟨rfl, rfl⟩ := hs (by omega)
    have e1 : wrap64 (c + 1) = c + 1 := by unfold wrap64; omega
    simp only [signalmanlaw12_HealthPasses.l2, health_Serves.f, Option.bind_some]
    rw [if_pos (show c < F by omega), if_pos (by rfl), step_eq k F P L 1 c false 0 (by omega) h0 (by omega)]
    simp only [Option.bind_some, e1]
    refine ih k (c + 1) _ _ (by omega) (by omega) (by omega) (by omega) ?_ ?_
    · intro h; unfold stp; simp [h]
    · intro h; unfold stp; simp [h]

theorem mn_le (a b : Int) : mn a b ≤ b := by unfold mn; split <;> omega

/-- The passing probes. -/
theorem passes_tell (F P L : Int) (good : List Int) (was wc : Int) (hF : 1 ≤ F) (hF2 : F ≤ 300) (hP : 1 ≤ P) (hP2 : P ≤ 300) (hL : 0 ≤ L) (d : Nat) : ∀ (k : Nat) (i is c : Int), 0 ≤ i → i ≤ P → P - i = d → 2 * d + 400 ≤ k →
    0 ≤ c → c ≤ 1000 → (is = 1 → 1 ≤ i → c = 0) → (was = 2 → (i = 0 ∧ is = 2) ∨ (1 ≤ i ∧ i < P ∧ is = 3 ∧ c = i) ∨ (i = P ∧ is = 1)) → (was = 1 → is = 1) → (was = 3 → is = 1 ∨ (is = 3 ∧ i ≤ c ∧ (1 ≤ i → c < P))) → 1 ≤ was → was ≤ 3 →
    signalmanlaw12_HealthPasses.l1 k good P i F P L is c was wc = some true := by
  induction d with
  | zero =>
    intro k i is c h0 h1 hd hk hc hc2 hz w2 w1 w3 g1 g2
    obtain ⟨k, rfl⟩ : ∃ m, k = m + 1 := ⟨k - 1, by omega⟩
    have hi : i = P := by omega
    have his : is = 1 := by
      rcases (show was = 1 ∨ was = 2 ∨ was = 3 by omega) with e | e | e
      · exact w1 e
      · rcases w2 e with h | h | h <;> omega
      · rcases w3 e with h | h <;> omega
    subst his
    have hcz := hz rfl (by omega)
    subst hcz
    simp only [signalmanlaw12_HealthPasses.l1, health_Serves.f, Option.bind_some]
    rw [if_neg (by omega), if_pos (by rfl)]
    exact fails_tell F P L hF hF2 F.toNat k 0 1 0 (by omega) (by omega) (by omega) (by omega) (fun _ => ⟨rfl, rfl⟩) (fun h => by omega)
  | succ d ih =>
    intro k i is c h0 h1 hd hk hc hc2 hz w2 w1 w3 g1 g2
    obtain ⟨k, rfl⟩ : ∃ m, k = m + 2 := ⟨k - 2, by omega⟩
    have e1 : wrap64 (i + 1) = i + 1 := by unfold wrap64; omega
    have key : ∀ lag, lag ≤ L → signalmanlaw12_HealthPasses.j3 (k + 1) good lag P i F P L is c was wc = some true := by
      intro lag hl
      have hst := step_eq k F P L is c true lag (by omega) hc hc2
      have hgo : signalmanlaw12_HealthPasses.l1 k good P (i + 1) F P L (stp F P L is c true lag).1 (stp F P L is c true lag).2 was wc = some true := by
        have hs : stp F P L is c true lag = if is = 1 then (1, 0) else if is = 2 then (if 1 ≥ P then (1, 0) else (3, 1)) else if is = 3 then (if c + 1 ≥ P then (1, 0) else (3, c + 1)) else (is, c) := by unfold stp; simp [hl]
        rcases (show was = 1 ∨ was = 2 ∨ was = 3 by omega) with e | e | e
        · have := w1 e
          subst this
          rw [hs]
          exact ih k (i + 1) 1 0 (by omega) (by omega) (by omega) (by omega) (by omega) (by omega) (fun _ _ => rfl) (fun h => by omega) (fun _ => rfl) (fun h => by omega) g1 g2
        · rcases w2 e with ⟨a, b⟩ | ⟨a, b, c1, c2⟩ | ⟨a, b⟩
          · subst a; subst b
            rw [hs]; simp only [show ¬ ((2 : Int) = 1) by decide, if_false, if_true]
            by_cases hp : 1 ≥ P
            · rw [if_pos hp]; exact ih k (0 + 1) 1 0 (by omega) (by omega) (by omega) (by omega) (by omega) (by omega) (fun _ _ => rfl) (fun h => by omega) (fun _ => rfl) (fun h => by omega) g1 g2
            · rw [if_neg hp]; exact ih k (0 + 1) 3 1 (by omega) (by omega) (by omega) (by omega) (by omega) (by omega) (fun h => by omega) (fun h => by omega) (fun h => by omega) (fun h => by omega) g1 g2
          · subst c1; subst c2
            rw [hs]; simp only [show ¬ ((3 : Int) = 1) by decide, show ¬ ((3 : Int) = 2) by decide, if_false, if_true]
            by_cases hp : c + 1 ≥ P
            · rw [if_pos hp]; exact ih k (c + 1) 1 0 (by omega) (by omega) (by omega) (by omega) (by omega) (by omega) (fun _ _ => rfl) (fun h => by omega) (fun _ => rfl) (fun h => by omega) g1 g2
            · rw [if_neg hp]; exact ih k (c + 1) 3 (c + 1) (by omega) (by omega) (by omega) (by omega) (by omega) (by omega) (fun h => by omega) (fun h => by omega) (fun h => by omega) (fun h => by omega) g1 g2
          · omega
        · rcases w3 e with a | ⟨a, b, c1⟩
          · subst a
            rw [hs]
            exact ih k (i + 1) 1 0 (by omega) (by omega) (by omega) (by omega) (by omega) (by omega) (fun _ _ => rfl) (fun h => by omega) (fun _ => rfl) (fun h => by omega) g1 g2
          · subst a
            rw [hs]; simp only [show ¬ ((3 : Int) = 1) by decide, show ¬ ((3 : Int) = 2) by decide, if_false, if_true]
            by_cases hp : c + 1 ≥ P
            · rw [if_pos hp]; exact ih k (i + 1) 1 0 (by omega) (by omega) (by omega) (by omega) (by omega) (by omega) (fun _ _ => rfl) (fun h => by omega) (fun _ => rfl) (fun h => by omega) g1 g2
            · rw [if_neg hp]; exact ih k (i + 1) 3 (c + 1) (by omega) (by omega) (by omega) (by omega) (by omega) (by omega) (fun h => by omega) (fun h => by omega) (fun h => by omega) (fun h => by omega) g1 g2
      simp only [signalmanlaw12_HealthPasses.j3, health_Serves.f, Option.bind_some, e1, hst]
      by_cases e : was = 2
      · have : ¬ is = 1 := by rcases w2 e with h | h | h <;> omega
        rw [if_pos e, if_neg (by simp [this])]
        exact hgo
      · rw [if_neg e]
        exact hgo
    simp only [signalmanlaw12_HealthPasses.l1]
    rw [if_pos (by omega)]
    by_cases hg : i < (good.length : Int)
    · rw [if_pos hg, if_pos h0]
      exact key _ (mn_le _ _)
    · rw [if_neg hg]
      exact key 0 hL

theorem ahead_tell (F P L : Int) (l : List S28) (good : List Int) (hF : 1 ≤ F) (hF2 : F ≤ 300) (hP : 1 ≤ P) (hP2 : P ≤ 300) (hL : 0 ≤ L) (hn : l.length ≤ 300) (d : Nat) : ∀ (k : Nat) (i is c : Int), 0 ≤ i → i ≤ l.length → (l.length : Int) - i = d → d + 2000 ≤ k →
    0 ≤ c → c < mx F P → 1 ≤ is → is ≤ 3 → signalmanlaw12_HealthPasses.l0 k good l (l.length : Int) i F P L is c = some true := by
  have hm : mx F P ≤ 300 := by unfold mx; split <;> omega
  induction d with
  | zero =>
    intro k i is c h0 h1 hd hk hc hc2 g1 g2
    obtain ⟨k, rfl⟩ : ∃ m, k = m + 1 := ⟨k - 1, by omega⟩
    simp only [signalmanlaw12_HealthPasses.l0]
    rw [if_neg (by omega)]
    exact passes_tell F P L good is c hF hF2 hP hP2 hL P.toNat k 0 is c (by omega) (by omega) (by omega) (by omega) hc (by omega) (fun _ h => by omega) (fun h => .inl ⟨rfl, h⟩) (fun h => h) (fun h => .inr ⟨h, hc, fun h => by omega⟩) g1 g2
  | succ d ih =>
    intro k i is c h0 h1 hd hk hc hc2 g1 g2
    obtain ⟨k, rfl⟩ : ∃ m, k = m + 1 := ⟨k - 1, by omega⟩
    have e1 : wrap64 (i + 1) = i + 1 := by unfold wrap64; omega
    obtain ⟨q1, q2, q3, q4⟩ := stp_good F P L is c (rd_T28 l i).f0 (rd_T28 l i).f1 hF hP ⟨g1, g2⟩ hc
    simp only [signalmanlaw12_HealthPasses.l0]
    rw [if_pos (by omega), if_pos h0, if_pos (by omega), step_eq k F P L is c _ _ (by omega) hc (by omega)]
    simp only [Option.bind_some, e1]
    rw [if_neg (by omega), if_neg (by omega), if_neg (by omega), if_neg (by omega)]
    exact ih k (i + 1) _ _ (by omega) (by omega) (by omega) (by omega) q3 q4 q1 q2

theorem HealthPasses (a0_0 : Int) (a0_1 : Int) (a0_2 : Int) (a1 : List S28) (a2 : List Int) (h0 : (Lit.int .i64 a0_0).wf = true ∧ (Lit.int .i64 a0_1).wf = true ∧ (Lit.int .u64 a0_2).wf = true) (_h1 : (∀ x_ ∈ a1, (True ∧ (Lit.int .u64 x_.f1).wf = true))) (_h2 : (∀ x_ ∈ a2, (Lit.int .u64 x_).wf = true)) :
    ∃ k, signalmanlaw12_HealthPasses.f k a0_0 a0_1 a0_2 a1 a2 = some true := by
  have hL : 0 ≤ a0_2 := by exact u64_nonneg h0.2.2
  refine ⟨3000, ?_⟩
  unfold signalmanlaw12_HealthPasses.f
  rw [awake_eq 3000 (by decide), ref_right_eq]
  simp only [Option.bind_some]
  have triv : ∀ k, signalmanlaw12_HealthPasses.j0 (k + 1) a1 a2 true a0_0 a0_1 a0_2 = some true := fun k => by simp [signalmanlaw12_HealthPasses.j0]
  by_cases hr : rgt a0_0 a0_1 a0_2 = true
  · rw [if_pos hr]
    have hr' : 1 ≤ a0_0 ∧ a0_0 ≤ 1000 ∧ 1 ≤ a0_1 ∧ a0_1 ≤ 1000 ∧ a0_2 ≤ 1000 := of_decide_eq_true hr
    by_cases c1 : (a1.length : Int) > 300
    · rw [if_pos c1]; exact triv 2999
    · rw [if_neg c1]
      by_cases c2 : (a2.length : Int) > 300
      · rw [if_pos c2]; exact triv 2999
      · rw [if_neg c2]
        by_cases c3 : a0_1 > 300
        · rw [if_pos c3]; exact triv 2999
        · rw [if_neg c3]
          by_cases c4 : a0_0 > 300
          · rw [show decide (a0_0 > 300) = true from decide_eq_true c4]; exact triv 2999
          · rw [show decide (a0_0 > 300) = false from decide_eq_false c4]
            rw [show (3000 : Nat) = 2999 + 1 from rfl]
            simp only [signalmanlaw12_HealthPasses.j0]
            rw [if_neg (by simp)]
            have hm : 1 ≤ mx a0_0 a0_1 := by unfold mx; split <;> omega
            exact ahead_tell a0_0 a0_1 a0_2 a1 a2 (by omega) (by omega) (by omega) (by omega) hL (by omega) a1.length 2999 0 1 0 (by omega) (by omega) (by omega) (by omega) (by omega) (by omega) (by omega) (by omega)
  · rw [if_neg hr]; exact triv 2999

end Go.Proofs.Ytagmefjpnmjcjaa.Pure
