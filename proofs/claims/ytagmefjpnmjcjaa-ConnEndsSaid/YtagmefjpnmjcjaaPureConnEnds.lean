/- The plain law of ConnEnds: what the printed functions compute answers true, at every two lists of acts. -/
import Derived.Test.YtagmefjpnmjcjaaCox10
import Derived.Test.YtagmefjpnmjcjaaPureConnCore
namespace Go.Proofs.Ytagmefjpnmjcjaa.Pure
open Go.RowKit Go.Proofs.Ytagmefjpnmjcjaa.Co Go.Proofs.YtagmefjpnmjcjaaW.PrintWords Go.Proofs.YtagmefjpnmjcjaaW.PrintLast Go.Proofs.YtagmefjpnmjcjaaW.PrintMore

theorem ends_more (x2 x10 : Bool) (l : List S102) (hn : l.length ≤ 200) (d : Nat) : ∀ (k : Nat) (i e fl ow se : Int) (di dr : Bool), 0 ≤ i → i ≤ l.length → (l.length : Int) - i = d → 3 * d + 3 ≤ k → Inv fl ow dr →
    (x2 = false → x10 = false ∧ (ow = -1 ∨ dr = true)) → (x10 = true → di = true ∧ ow ≠ 0) → signalmanlaw09_ConnEnds.l1 k x2 x10 (stOf ow dr == 4) l (l.length : Int) i e fl ow se di dr = some true := by
  induction d with
  | zero =>
    intro k i e fl ow se di dr h0 h1 hd hk hI hq hdi
    obtain ⟨k, rfl⟩ : ∃ m, k = m + 1 := ⟨k - 1, by omega⟩
    simp only [signalmanlaw09_ConnEnds.l1]
    rw [if_neg (by omega)]
  | succ d ih =>
    intro k i e fl ow se di dr h0 h1 hd hk hI hq hdi
    obtain ⟨k, rfl⟩ : ∃ m, k = m + 3 := ⟨k - 3, by omega⟩
    have e1 : wrap64 (i + 1) = i + 1 := by unfold wrap64; omega
    simp only [signalmanlaw09_ConnEnds.l1]
    rw [if_pos (by omega), if_pos h0, if_pos (by omega), do_eq _ (by omega)]
    rcases hr : act e fl ow se di dr (rd_T102 l i).f0 (rd_T102 l i).f1 (rd_T102 l i).f2 with ⟨is, er, nn, e', fl', ow', se', di', dr'⟩
    obtain ⟨hI', -, -, -, -, -, -, g1, g2, g3, g4⟩ := act_facts e fl ow se di dr _ _ _ hI _ _ _ _ _ _ _ _ _ hr
    have h6 : signalmanlaw09_ConnEnds.j6 (k + 2) x2 x10 l (l.length : Int) i false e' fl' ow' se' di' dr' = some true := by
      simp only [signalmanlaw09_ConnEnds.j6, conn_Conn_State.f, Option.bind_some]
      rw [if_neg (by simp), e1]
      refine ih (k + 1) (i + 1) _ _ _ _ _ _ (by omega) (by omega) (by omega) (by omega) hI' (fun q => ⟨(hq q).1, ?_⟩) (fun q => ?_)
      · rcases (hq q).2 with q | q
        · exact .inl (g1 q)
        · exact .inr (g2 q)
      · exact g4 (hdi q).1 (hdi q).2
    have s1 : x10 = true → (stOf ow' dr' == 1) = false := fun q => by
      have := (g4 (hdi q).1 (hdi q).2).2
      have : stOf ow' dr' ≠ 1 := fun z => this ((stOf_1 _ _).1 z)
      simp [this]
    have s4 : (stOf ow dr == 4) = true → stOf ow' dr' = 4 := fun q => (stOf_4 _ _).2 (g1 ((stOf_4 _ _).1 (by simpa using q)))
    simp only [Option.bind_some, conn_Conn_State.f]
    have t : (if (stOf ow dr == 4) = true then (if stOf ow' dr' = 4 then (if x10 = true then signalmanlaw09_ConnEnds.j6 (k + 2) x2 x10 l (l.length : Int) i (stOf ow' dr' == 1) e' fl' ow' se' di' dr' else signalmanlaw09_ConnEnds.j6 (k + 2) x2 x10 l (l.length : Int) i false e' fl' ow' se' di' dr') else signalmanlaw09_ConnEnds.j6 (k + 2) x2 x10 l (l.length : Int) i true e' fl' ow' se' di' dr')
        else (if x10 = true then signalmanlaw09_ConnEnds.j6 (k + 2) x2 x10 l (l.length : Int) i (stOf ow' dr' == 1) e' fl' ow' se' di' dr' else signalmanlaw09_ConnEnds.j6 (k + 2) x2 x10 l (l.length : Int) i false e' fl' ow' se' di' dr')) = some true := by
      by_cases c1 : (stOf ow dr == 4) = true
      · rw [if_pos c1, if_pos (s4 c1)]
        by_cases c2 : x10 = true
        · rw [if_pos c2, s1 c2]; exact h6
        · rw [if_neg c2]; exact h6
      · rw [if_neg c1]
        by_cases c2 : x10 = true
        · rw [if_pos c2, s1 c2]; exact h6
        · rw [if_neg c2]; exact h6
    by_cases c0 : x2 = true
    · rw [if_pos c0]; exact t
    · rw [if_neg c0]
      by_cases c1 : (rd_T102 l i).f0 = 1
      · rw [if_pos c1, if_neg (g3 c1 (hq (by simpa using c0)).2)]; exact t
      · rw [if_neg c1]; exact t

theorem ends_j4 (x2 x10 : Bool) (l : List S102) (hn : l.length ≤ 200) (k : Nat) (hk : 700 ≤ k) (e fl ow se : Int) (di dr : Bool) (hI : Inv fl ow dr)
    (hq : x2 = false → x10 = false ∧ (ow = -1 ∨ dr = true)) (hdi : x10 = true → di = true ∧ ow ≠ 0) : signalmanlaw09_ConnEnds.j4 k l x2 x10 e fl ow se di dr = some true := by
  obtain ⟨k, rfl⟩ : ∃ m, k = m + 1 := ⟨k - 1, by omega⟩
  simp only [signalmanlaw09_ConnEnds.j4, conn_Conn_State.f, Option.bind_some]
  exact ends_more x2 x10 l hn l.length k 0 e fl ow se di dr (by omega) (by omega) (by omega) (by omega) hI hq hdi

theorem ends_j2 (x2 : Bool) (l : List S102) (hn : l.length ≤ 200) (k : Nat) (hk : 710 ≤ k) (e fl ow se : Int) (di dr : Bool) (hI : Inv fl ow dr) (x10 : Bool)
    (hs : x2 = true → x10 = true → di = true ∧ ow ≠ 0) (hx : x2 = false → x10 = false) : signalmanlaw09_ConnEnds.j2 k l x2 x10 e fl ow se di dr = some true := by
  obtain ⟨k, rfl⟩ : ∃ m, k = m + 2 := ⟨k - 2, by omega⟩
  simp only [signalmanlaw09_ConnEnds.j2]
  by_cases c0 : x2 = true
  · rw [if_pos c0]
    exact ends_j4 x2 x10 l hn (k + 1) (by omega) e fl ow se di dr hI (fun q => by rw [c0] at q; cases q) (hs c0)
  · rw [if_neg c0]
    have c0' : x2 = false := by simpa using c0
    have hx := hx c0'
    subst hx
    obtain ⟨i1, i2, i3⟩ := hI
    unfold conn_Conn_Drain.f conn_Conn_close.f
    by_cases c1 : fl = 0
    · rw [if_pos c1]
      have q4 : stOf (-1) dr = 4 := (stOf_4 _ _).2 rfl
      simp only [Option.bind_some, conn_Conn_State.f, conn_Conn_Flight.f, q4]
      first | rw [if_neg (by decide), if_pos rfl] | simp only [Int.reduceEq, if_true, if_false]
      simp only [signalmanlaw09_ConnEnds.j3]
      rw [if_neg (by decide)]
      exact ends_j4 x2 false l hn k (by omega) _ _ _ _ _ _ ⟨by omega, by simp, by simp⟩ (fun _ => ⟨rfl, .inl rfl⟩) (fun q => by cases q)
    · rw [if_neg c1]
      have hp := i2 c1
      have q3 : stOf ow true = 3 := (stOf_3 _ _).2 ⟨by omega, by omega, rfl⟩
      simp only [Option.bind_some, conn_Conn_State.f, conn_Conn_Flight.f, q3]
      rw [if_pos trivial]
      simp only [signalmanlaw09_ConnEnds.j3]
      rw [if_neg (by simp [c1])]
      exact ends_j4 x2 false l hn k (by omega) _ _ _ _ _ _ ⟨i1, i2, fun _ => .inr c1⟩ (fun _ => ⟨rfl, .inr rfl⟩) (fun q => by cases q)

theorem ends_first (x2 : Bool) (l more : List S102) (hn : l.length ≤ 200) (hm : more.length ≤ 200) (d : Nat) : ∀ (k : Nat) (i e fl ow se : Int) (di dr : Bool), 0 ≤ i → i ≤ l.length → (l.length : Int) - i = d → d + 720 ≤ k → Inv fl ow dr →
    signalmanlaw09_ConnEnds.l0 k more x2 l (l.length : Int) i e fl ow se di dr = some true := by
  induction d with
  | zero =>
    intro k i e fl ow se di dr h0 h1 hd hk hI
    obtain ⟨k, rfl⟩ : ∃ m, k = m + 1 := ⟨k - 1, by omega⟩
    simp only [signalmanlaw09_ConnEnds.l0]
    rw [if_neg (by omega)]
    by_cases c0 : x2 = true
    · rw [if_pos c0]
      have hs : conn_Conn_Soil.f e fl ow se di dr = some (stOf ow dr == 2, e, fl, ow, se, di || (stOf ow dr == 2), dr) := by
        unfold conn_Conn_Soil.f
        simp only [conn_Conn_State.f, Option.bind_some]
        cases di <;> simp
      rw [hs]
      simp only [Option.bind_some]
      refine ends_j2 x2 more hm k (by omega) _ _ _ _ _ _ hI _ (fun _ q => ?_) (fun q => by rw [c0] at q; cases q)
      rw [q]
      exact ⟨by simp, ((stOf_2 ow dr).1 (by simpa using q)).2.1⟩
    · rw [if_neg c0]
      exact ends_j2 x2 more hm k (by omega) _ _ _ _ _ _ hI _ (fun q => absurd q c0) (fun _ => rfl)
  | succ d ih =>
    intro k i e fl ow se di dr h0 h1 hd hk hI
    obtain ⟨k, rfl⟩ : ∃ m, k = m + 1 := ⟨k - 1, by omega⟩
    have e1 : wrap64 (i + 1) = i + 1 := by unfold wrap64; omega
    simp only [signalmanlaw09_ConnEnds.l0]
    rw [if_pos (by omega), if_pos h0, if_pos (by omega), do_eq _ (by omega)]
    rcases hr : act e fl ow se di dr (rd_T102 l i).f0 (rd_T102 l i).f1 (rd_T102 l i).f2 with ⟨is, er, nn, e', fl', ow', se', di', dr'⟩
    obtain ⟨hI', -⟩ := act_facts e fl ow se di dr _ _ _ hI _ _ _ _ _ _ _ _ _ hr
    simp only [Option.bind_some, e1]
    exact ih k (i + 1) _ _ _ _ _ _ (by omega) (by omega) (by omega) (by omega) hI'

theorem conn_awake : ∀ k, 1 ≤ k → signalmanlaw09_awake.f k = some true := by
  intro k hk
  obtain ⟨k, rfl⟩ : ∃ m, k = m + 1 := ⟨k - 1, by omega⟩
  simp [signalmanlaw09_awake.f, conn_New.f, conn_Conn_Lend.f, conn_Conn_Send.f, conn_Conn_Owner.f, conn_Conn_Flight.f, conn_Conn_Drain.f, conn_Conn_State.f, conn_Conn_Reply.f, conn_Conn_Reply.j0, conn_Conn_close.f, conn_Conn_Epoch.f, conn_Conn_Sent.f, stOf, mx, wrap64]

theorem ConnEnds (a0 : List S102) (a1 : List S102) (a2 : Bool) (_h0 : (∀ x_ ∈ a0, ((Lit.int .i64 x_.f0).wf = true ∧ (Lit.int .i64 x_.f1).wf = true ∧ (Lit.int .u64 x_.f2).wf = true))) (_h1 : (∀ x_ ∈ a1, ((Lit.int .i64 x_.f0).wf = true ∧ (Lit.int .i64 x_.f1).wf = true ∧ (Lit.int .u64 x_.f2).wf = true))) (_h2 : True) :
    ∃ k, signalmanlaw09_ConnEnds.f k a0 a1 a2 = some true := by
  refine ⟨1000, ?_⟩
  unfold signalmanlaw09_ConnEnds.f
  rw [conn_awake 1000 (by decide)]
  simp only [Option.bind_some]
  have triv : ∀ k, signalmanlaw09_ConnEnds.j0 (k + 1) a0 a1 a2 true = some true := fun k => by simp [signalmanlaw09_ConnEnds.j0]
  by_cases c0 : (a0.length : Int) > 200
  · rw [if_pos c0]; exact triv 999
  · rw [if_neg c0]
    by_cases c1 : (a1.length : Int) > 200
    · rw [show decide ((a1.length : Int) > 200) = true from decide_eq_true c1]; exact triv 999
    · rw [show decide ((a1.length : Int) > 200) = false from decide_eq_false c1, show (1000 : Nat) = 999 + 1 from rfl]
      simp only [signalmanlaw09_ConnEnds.j0, conn_New.f, Option.bind_some]
      rw [if_neg (by simp)]
      exact ends_first a2 a0 a1 (by omega) (by omega) a0.length 999 0 1 0 0 0 false false (by omega) (by omega) (by omega) (by omega) ⟨by omega, by simp, by simp⟩
end Go.Proofs.Ytagmefjpnmjcjaa.Pure
