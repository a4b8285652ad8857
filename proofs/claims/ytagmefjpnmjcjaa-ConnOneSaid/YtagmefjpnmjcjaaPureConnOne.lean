/- The plain law of ConnOne: what the printed functions compute answers true, at every list of acts. -/
import Derived.Test.YtagmefjpnmjcjaaCox9
import Derived.Test.YtagmefjpnmjcjaaPureConnCore
namespace Go.Proofs.Ytagmefjpnmjcjaa.Pure
open Go.RowKit Go.Proofs.Ytagmefjpnmjcjaa.Co Go.Proofs.YtagmefjpnmjcjaaW.PrintWords Go.Proofs.YtagmefjpnmjcjaaW.PrintLast Go.Proofs.YtagmefjpnmjcjaaW.PrintMore

theorem conn_awake1 : ∀ k, 1 ≤ k → signalmanlaw09_awake.f k = some true := by
  intro k hk
  obtain ⟨k, rfl⟩ : ∃ m, k = m + 1 := ⟨k - 1, by omega⟩
  simp [signalmanlaw09_awake.f, conn_New.f, conn_Conn_Lend.f, conn_Conn_Send.f, conn_Conn_Owner.f, conn_Conn_Flight.f, conn_Conn_Drain.f, conn_Conn_State.f, conn_Conn_Reply.f, conn_Conn_Reply.j0, conn_Conn_close.f, conn_Conn_Epoch.f, conn_Conn_Sent.f, stOf, mx, wrap64]

theorem one_tell (l : List S102) (hn : l.length ≤ 200) (d : Nat) : ∀ (k : Nat) (i e fl ow se : Int) (di dr : Bool), 0 ≤ i → i ≤ l.length → (l.length : Int) - i = d → 7 * d + 10 ≤ k → Inv fl ow dr →
    signalmanlaw09_ConnOne.l0 k se l (l.length : Int) i e fl ow se di dr = some true := by
  induction d with
  | zero =>
    intro k i e fl ow se di dr h0 h1 hd hk hI
    obtain ⟨k, rfl⟩ : ∃ m, k = m + 1 := ⟨k - 1, by omega⟩
    simp only [signalmanlaw09_ConnOne.l0]
    rw [if_neg (by omega)]
  | succ d ih =>
    intro k i e fl ow se di dr h0 h1 hd hk hI
    obtain ⟨k, rfl⟩ : ∃ m, k = m + 7 := ⟨k - 7, by omega⟩
    have e1 : wrap64 (i + 1) = i + 1 := by unfold wrap64; omega
    simp only [signalmanlaw09_ConnOne.l0, conn_Conn_Owner.f, conn_Conn_Flight.f, conn_Conn_State.f, Option.bind_some]
    rw [if_pos (by omega), if_pos h0, if_pos (by omega), do_eq _ (by omega)]
    rcases hr : act e fl ow se di dr (rd_T102 l i).f0 (rd_T102 l i).f1 (rd_T102 l i).f2 with ⟨is, er, nn, e', fl', ow', se', di', dr'⟩
    obtain ⟨hI', g1, g2, g3, g4, g5, g6, -, -, -, -⟩ := act_facts e fl ow se di dr _ _ _ hI _ _ _ _ _ _ _ _ _ hr
    simp only [Option.bind_some]
    generalize (rd_T102 l i).f0 = D at *
    generalize (rd_T102 l i).f1 = SS at *
    generalize (rd_T102 l i).f2 = NN at *
    have h6 : ∀ m, k ≤ m → signalmanlaw09_ConnOne.j6 (m + 1) se' l (l.length : Int) i false e' fl' ow' se' di' dr' = some true := by
      intro m hm
      simp only [signalmanlaw09_ConnOne.j6]
      rw [if_neg (by simp), e1]
      exact ih m (i + 1) _ _ _ _ _ _ (by omega) (by omega) (by omega) (by omega) hI'
    have h5 : ∀ m, k ≤ m → signalmanlaw09_ConnOne.j5 (m + 2) se' fl (mx ow' 0) l (l.length : Int) i e' fl' ow' se' di' dr' D SS NN is er nn = some true := by
      intro m hm
      have t : (if fl' = 0 then signalmanlaw09_ConnOne.j6 (m + 1) se' l (l.length : Int) i false e' fl' ow' se' di' dr' else signalmanlaw09_ConnOne.j6 (m + 1) se' l (l.length : Int) i (mx ow' 0 == 0) e' fl' ow' se' di' dr') = some true := by
        by_cases c : fl' = 0
        · rw [if_pos c]; exact h6 m hm
        · rw [if_neg c, show (mx ow' 0 == 0) = false from by have := g6.resolve_left c; simp [this]]; exact h6 m hm
      simp only [signalmanlaw09_ConnOne.j5, conn_Conn_Sent.f, conn_Conn_Flight.f, Option.bind_some]
      by_cases c1 : D = 2
      · rw [if_pos c1]
        have is_ := g5 c1
        by_cases c2 : fl = 0
        · rw [if_pos c2, if_neg (by rw [is_]; simp [c2])]
          first | (rw [if_pos rfl]; exact t) | (rw [if_pos trivial]; exact t) | exact t
        · rw [if_neg c2, if_neg (by rw [is_]; simp [c2])]
          first | (rw [if_pos rfl]; exact t) | (rw [if_pos trivial]; exact t) | exact t
      · rw [if_neg c1]
        first | (rw [if_pos rfl]; exact t) | (rw [if_pos trivial]; exact t) | exact t
    have h3 : signalmanlaw09_ConnOne.j3 (k + 4) se (mx ow 0) fl (mx ow' 0) l (l.length : Int) i (decide (D = 1 ∧ er = 0)) e' fl' ow' se' di' dr' D SS NN is er nn = some true := by
      simp only [signalmanlaw09_ConnOne.j3, conn_Conn_Flight.f, Option.bind_some]
      by_cases c : D = 1 ∧ er = 0
      · obtain ⟨q1, q2, q3, q4⟩ := g3 c.1 c.2
        rw [show decide (D = 1 ∧ er = 0) = true from decide_eq_true c, if_pos rfl, if_neg q1, if_pos q2]
        simp only [signalmanlaw09_ConnOne.j4]
        rw [if_neg (by simp [q3]), ← q4]
        exact h5 k (by omega)
      · rw [show decide (D = 1 ∧ er = 0) = false from decide_eq_false c, if_neg (by simp), ← g4 c]
        exact h5 (k + 1) (by omega)
    have h2 : signalmanlaw09_ConnOne.j2 (k + 5) se (mx ow 0) fl (mx ow' 0) l (l.length : Int) i false e' fl' ow' se' di' dr' D SS NN is er nn = some true := by
      simp only [signalmanlaw09_ConnOne.j2]
      rw [if_neg (by simp)]
      by_cases c1 : D = 1
      · rw [if_pos c1]
        by_cases c2 : er = 0
        · rw [show decide (D = 1 ∧ er = 0) = true from decide_eq_true ⟨c1, c2⟩] at h3
          rw [show (er == 0) = true from by simp [c2]]; exact h3
        · rw [show decide (D = 1 ∧ er = 0) = false from decide_eq_false fun z => c2 z.2] at h3
          rw [show (er == 0) = false from by simp [c2]]; exact h3
      · rw [if_neg c1]
        rw [show decide (D = 1 ∧ er = 0) = false from decide_eq_false fun z => c1 z.1] at h3
        exact h3
    have hj1 : signalmanlaw09_ConnOne.j1 (k + 6) se (mx ow 0) fl (stOf ow dr) (mx ow' 0) l (l.length : Int) i false e' fl' ow' se' di' dr' D SS NN is er nn = some true := by
      simp only [signalmanlaw09_ConnOne.j1]
      rw [if_neg (by simp)]
      by_cases c1 : mx ow' 0 = 0
      · rw [if_pos c1]; exact h2
      · rw [if_neg c1]
        by_cases c2 : mx ow 0 = 0
        · obtain ⟨q1, q2, q3, q4⟩ := g2 c1 c2
          rw [if_pos c2, if_pos q1, if_pos q2, if_pos q3, show (stOf ow dr != 1) = false from by simp [q4]]; exact h2
        · rw [if_neg c2]; exact h2
    by_cases c1 : mx ow 0 = mx ow' 0
    · rw [if_pos c1]; exact hj1
    · rw [if_neg c1]
      by_cases c2 : mx ow 0 = 0
      · rw [if_pos c2]; exact hj1
      · rw [if_neg c2, show (mx ow' 0 != 0) = false from by have := (g1.resolve_left c1).resolve_left c2; simp [this]]; exact hj1

theorem ConnOne (a0 : List S102) (_h0 : (∀ x_ ∈ a0, ((Lit.int .i64 x_.f0).wf = true ∧ (Lit.int .i64 x_.f1).wf = true ∧ (Lit.int .u64 x_.f2).wf = true))) :
    ∃ k, signalmanlaw09_ConnOne.f k a0 = some true := by
  refine ⟨2000, ?_⟩
  unfold signalmanlaw09_ConnOne.f
  rw [conn_awake1 2000 (by decide)]
  simp only [Option.bind_some, conn_New.f]
  by_cases c0 : (a0.length : Int) > 200
  · rw [if_pos c0]
  · rw [if_neg c0]
    exact one_tell a0 (by omega) a0.length 2000 0 1 0 0 0 false false (by omega) (by omega) (by omega) (by omega) ⟨by omega, by simp, by simp⟩
end Go.Proofs.Ytagmefjpnmjcjaa.Pure
