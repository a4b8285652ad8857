/- The plain law of ConnDoes: what the printed functions compute answers true, at every epoch and list of acts. -/
import Derived.Test.YtagmefjpnmjcjaaCoDoes
import Derived.Test.YtagmefjpnmjcjaaPureConnCore
namespace Go.Proofs.Ytagmefjpnmjcjaa.Pure
open Go.RowKit Go.Proofs.Ytagmefjpnmjcjaa.Co Go.Proofs.YtagmefjpnmjcjaaW.PrintWords Go.Proofs.YtagmefjpnmjcjaaW.PrintLast Go.Proofs.YtagmefjpnmjcjaaW.PrintMore

set_option linter.unusedSimpArgs false

theorem conn_awake2 : ∀ k, 1 ≤ k → signalmanlaw09_awake.f k = some true := by
  intro k hk
  obtain ⟨k, rfl⟩ : ∃ m, k = m + 1 := ⟨k - 1, by omega⟩
  simp [signalmanlaw09_awake.f, conn_New.f, conn_Conn_Lend.f, conn_Conn_Send.f, conn_Conn_Owner.f, conn_Conn_Flight.f, conn_Conn_Drain.f, conn_Conn_State.f, conn_Conn_Reply.f, conn_Conn_Reply.j0, conn_Conn_close.f, conn_Conn_Epoch.f, conn_Conn_Sent.f, stOf, mx, wrap64]

theorem st_pos {o : Int} (h : 0 < o) (d : Bool) : stOf o d = if d = true then 3 else 2 := by unfold stOf; rw [if_neg (by omega), if_neg (by omega)]
theorem st_zero (d : Bool) : stOf 0 d = 1 := by unfold stOf; simp
theorem st_gone (d : Bool) : stOf (-1) d = 4 := by unfold stOf; simp
theorem mx_pos {o : Int} (h : 0 < o) : mx o 0 = o := by unfold mx; split <;> omega
theorem mx_zero : mx 0 0 = 0 := by unfold mx; simp
theorem mx_gone : mx (-1) 0 = 0 := by unfold mx; simp

/-- The document's acts are the program's. -/
theorem own_eq (k : Nat) (hk : 2 ≤ k) (e fl ow se : Int) (di dr : Bool) (d s n : Int) (hI : Inv fl ow dr) (is : Bool) (er nn e' fl' ow' se' : Int) (di' dr' : Bool) (h : act e fl ow se di dr d s n = (is, er, nn, e', fl', ow', se', di', dr')) :
    signalmanlaw09_own.f k e (stOf ow dr) (mx ow 0) fl di se d s n = some (is, er, nn, e', stOf ow' dr', mx ow' 0, fl', di', se') := by
  obtain ⟨k, rfl⟩ : ∃ m, k = m + 2 := ⟨k - 2, by omega⟩
  obtain ⟨i1, i2, i3⟩ := hI
  have cases4 : (ow = -1 ∧ fl = 0) ∨ (ow = 0 ∧ fl = 0 ∧ dr = false) ∨ (0 < ow ∧ dr = false) ∨ (0 < ow ∧ dr = true ∧ fl ≠ 0) := by
    by_cases f0 : fl = 0
    · cases dr
      · rcases (show ow = -1 ∨ ow = 0 ∨ 0 < ow by omega) with q | q | q
        · exact .inl ⟨q, f0⟩
        · exact .inr (.inl ⟨q, f0, rfl⟩)
        · exact .inr (.inr (.inl ⟨q, rfl⟩))
      · rcases i3 rfl with q | q
        · exact .inl ⟨q, f0⟩
        · exact absurd f0 q
    · have := i2 f0
      cases dr
      · exact .inr (.inr (.inl ⟨this, rfl⟩))
      · exact .inr (.inr (.inr ⟨this, rfl, f0⟩))
  unfold act at h
  unfold signalmanlaw09_own.f
  by_cases d0 : d = 0
  · subst d0
    rw [if_pos rfl] at h ⊢
    unfold signalmanref09_Conn_Lend.f
    by_cases s0 : s > 0
    · have s1 : ¬ s < 1 := by omega
      rcases cases4 with ⟨rfl, rfl⟩ | ⟨rfl, rfl, rfl⟩ | ⟨q, rfl⟩ | ⟨q, rfl, f0⟩
      · simp [st_gone, mx_gone] at h ⊢
        obtain ⟨rfl, rfl, rfl, rfl, rfl, rfl, rfl, rfl, rfl⟩ := h
        simp [st_gone, mx_gone]
      · simp [st_zero, mx_zero, s0, s1] at h ⊢
        obtain ⟨rfl, rfl, rfl, rfl, rfl, rfl, rfl, rfl, rfl⟩ := h
        simp [st_pos s0, mx_pos s0]
      · have q0 : ow ≠ 0 := by omega
        simp [st_pos q, mx_pos q, s0, q0] at h ⊢
        obtain ⟨rfl, rfl, rfl, rfl, rfl, rfl, rfl, rfl, rfl⟩ := h
        simp [st_pos q, mx_pos q]
      · have q0 : ow ≠ 0 := by omega
        simp [st_pos q, mx_pos q, s0, q0] at h ⊢
        obtain ⟨rfl, rfl, rfl, rfl, rfl, rfl, rfl, rfl, rfl⟩ := h
        simp [st_pos q, mx_pos q]
    · have s1 : s < 1 := by omega
      simp [s0] at h
      obtain ⟨rfl, rfl, rfl, rfl, rfl, rfl, rfl, rfl, rfl⟩ := h
      by_cases z : stOf ow dr = 1
      · rw [if_pos z, if_pos s1]; simp
      · rw [if_neg z]; simp
  rw [if_neg d0] at h ⊢
  by_cases d1 : d = 1
  · subst d1
    rw [if_pos rfl] at h ⊢
    unfold signalmanref09_Conn_Send.f
    by_cases n0 : n = 0
    · simp [n0] at h ⊢
      obtain ⟨rfl, rfl, rfl, rfl, rfl, rfl, rfl, rfl, rfl⟩ := h
      simp
    · by_cases z : stOf ow dr = 2
      · by_cases f0 : fl = 0
        · simp [n0, z, f0] at h ⊢
          obtain ⟨rfl, rfl, rfl, rfl, rfl, rfl, rfl, rfl, rfl⟩ := h
          simp [z]
        · simp [n0, z, f0] at h ⊢
          obtain ⟨rfl, rfl, rfl, rfl, rfl, rfl, rfl, rfl, rfl⟩ := h
          simp [z]
      · simp [n0, z] at h ⊢
        obtain ⟨rfl, rfl, rfl, rfl, rfl, rfl, rfl, rfl, rfl⟩ := h
        simp
  rw [if_neg d1] at h ⊢
  by_cases d2 : d = 2
  · subst d2
    rw [if_pos rfl] at h ⊢
    unfold signalmanref09_Conn_Reply.f
    simp only [signalmanref09_Conn_Reply.j0, signalmanref09_Conn_shut.f]
    by_cases n0 : n = 0
    · simp [n0] at h ⊢
      obtain ⟨rfl, rfl, rfl, rfl, rfl, rfl, rfl, rfl, rfl⟩ := h
      simp
    · by_cases f1 : fl = n
      · by_cases z : stOf ow dr = 3
        · simp [n0, z, f1] at h ⊢
          obtain ⟨rfl, rfl, rfl, rfl, rfl, rfl, rfl, rfl, rfl⟩ := h
          simp [st_gone, mx_gone]
        · simp [n0, z, f1] at h ⊢
          obtain ⟨rfl, rfl, rfl, rfl, rfl, rfl, rfl, rfl, rfl⟩ := h
          simp
      · simp [n0, f1] at h ⊢
        obtain ⟨rfl, rfl, rfl, rfl, rfl, rfl, rfl, rfl, rfl⟩ := h
        simp
  rw [if_neg d2] at h ⊢
  by_cases d3 : d = 3
  · subst d3
    rw [if_pos rfl] at h ⊢
    unfold signalmanref09_Conn_Soil.f
    by_cases z : stOf ow dr = 2
    · simp [z] at h ⊢
      obtain ⟨rfl, rfl, rfl, rfl, rfl, rfl, rfl, rfl, rfl⟩ := h
      simp [z]
    · simp [z] at h ⊢
      obtain ⟨rfl, rfl, rfl, rfl, rfl, rfl, rfl, rfl, rfl⟩ := h
      simp [z]
  rw [if_neg d3] at h ⊢
  by_cases d4 : d = 4
  · subst d4
    rw [if_pos rfl] at h ⊢
    unfold signalmanref09_Conn_Release.f
    simp only [signalmanref09_Conn_Release.j0, signalmanref09_Conn_shut.f]
    by_cases z : stOf ow dr = 2
    · by_cases f0 : fl = 0
      · cases di
        · simp [z, f0] at h ⊢
          obtain ⟨rfl, rfl, rfl, rfl, rfl, rfl, rfl, rfl, rfl⟩ := h
          simp [st_zero, mx_zero]
        · simp [z, f0] at h ⊢
          obtain ⟨rfl, rfl, rfl, rfl, rfl, rfl, rfl, rfl, rfl⟩ := h
          simp [st_gone, mx_gone]
      · simp [z, f0] at h ⊢
        obtain ⟨rfl, rfl, rfl, rfl, rfl, rfl, rfl, rfl, rfl⟩ := h
        simp [z]
    · simp [z] at h ⊢
      obtain ⟨rfl, rfl, rfl, rfl, rfl, rfl, rfl, rfl, rfl⟩ := h
      simp
  rw [if_neg d4] at h ⊢
  by_cases d5 : d = 5
  · subst d5
    rw [if_pos rfl] at h ⊢
    unfold signalmanref09_Conn_Drain.f
    simp only [signalmanref09_Conn_Drain.j0, signalmanref09_Conn_Drain.j1, signalmanref09_Conn_shut.f]
    rcases cases4 with ⟨rfl, rfl⟩ | ⟨rfl, rfl, rfl⟩ | ⟨q, rfl⟩ | ⟨q, rfl, f0⟩
    · simp [st_gone, mx_gone] at h ⊢
      obtain ⟨rfl, rfl, rfl, rfl, rfl, rfl, rfl, rfl, rfl⟩ := h
      simp [st_gone, mx_gone]
    · simp [st_zero, mx_zero] at h ⊢
      obtain ⟨rfl, rfl, rfl, rfl, rfl, rfl, rfl, rfl, rfl⟩ := h
      simp [st_gone, mx_gone]
    · by_cases f0 : fl = 0
      · simp [st_pos q, mx_pos q, f0] at h ⊢
        obtain ⟨rfl, rfl, rfl, rfl, rfl, rfl, rfl, rfl, rfl⟩ := h
        simp [st_gone, mx_gone]
      · simp [st_pos q, mx_pos q, f0] at h ⊢
        obtain ⟨rfl, rfl, rfl, rfl, rfl, rfl, rfl, rfl, rfl⟩ := h
        simp [st_pos q, mx_pos q]
    · simp [st_pos q, mx_pos q, f0] at h ⊢
      obtain ⟨rfl, rfl, rfl, rfl, rfl, rfl, rfl, rfl, rfl⟩ := h
      simp [st_pos q, mx_pos q]
  rw [if_neg d5] at h ⊢
  by_cases d6 : d = 6
  · subst d6
    rw [if_pos rfl] at h ⊢
    unfold signalmanref09_Conn_Break.f
    simp only [signalmanref09_Conn_shut.f]
    simp at h ⊢
    obtain ⟨rfl, rfl, rfl, rfl, rfl, rfl, rfl, rfl, rfl⟩ := h
    simp [st_gone, mx_gone]
  rw [if_neg d6] at h ⊢
  simp at h
  obtain ⟨rfl, rfl, rfl, rfl, rfl, rfl, rfl, rfl, rfl⟩ := h
  rfl

theorem does_tell (l : List S102) (hn : l.length ≤ 200) (d : Nat) : ∀ (k : Nat) (i e fl ow se : Int) (di dr : Bool), 0 ≤ i → i ≤ l.length → (l.length : Int) - i = d → 2 * d + 3 ≤ k → Inv fl ow dr →
    signalmanlaw09_ConnDoes.l0 k l (l.length : Int) i e fl ow se di dr e (stOf ow dr) (mx ow 0) fl di se = some true := by
  induction d with
  | zero =>
    intro k i e fl ow se di dr h0 h1 hd hk hI
    obtain ⟨k, rfl⟩ : ∃ m, k = m + 1 := ⟨k - 1, by omega⟩
    simp only [signalmanlaw09_ConnDoes.l0]
    rw [if_neg (by omega)]
  | succ d ih =>
    intro k i e fl ow se di dr h0 h1 hd hk hI
    obtain ⟨k, rfl⟩ : ∃ m, k = m + 2 := ⟨k - 2, by omega⟩
    have e1 : wrap64 (i + 1) = i + 1 := by unfold wrap64; omega
    simp only [signalmanlaw09_ConnDoes.l0, conn_Conn_Owner.f, conn_Conn_Flight.f, conn_Conn_State.f, conn_Conn_Sent.f, conn_Conn_Epoch.f]
    rcases hr : act e fl ow se di dr (rd_T102 l i).f0 (rd_T102 l i).f1 (rd_T102 l i).f2 with ⟨is, er, nn, e', fl', ow', se', di', dr'⟩
    obtain ⟨hI', -⟩ := act_facts e fl ow se di dr _ _ _ hI _ _ _ _ _ _ _ _ _ hr
    rw [if_pos (by omega), if_pos h0, if_pos (by omega), do_eq _ (by omega), hr, own_eq (k + 1) (by omega) e fl ow se di dr _ _ _ hI _ _ _ _ _ _ _ _ _ hr]
    simp only [Option.bind_some]
    have h1 : signalmanlaw09_ConnDoes.j1 (k + 1) l (l.length : Int) i false e' fl' ow' se' di' dr' e' (stOf ow' dr') (mx ow' 0) fl' di' se' = some true := by
      simp only [signalmanlaw09_ConnDoes.j1]
      rw [if_neg (by simp), e1]
      exact ih k (i + 1) _ _ _ _ _ _ (by omega) (by omega) (by omega) (by omega) hI'
    rw [if_neg (by simp)]
    simpa using h1

theorem ConnDoes (a0 : Int) (a1 : List S102) (_h0 : (Lit.int .u64 a0).wf = true) (_h1 : (∀ x_ ∈ a1, ((Lit.int .i64 x_.f0).wf = true ∧ (Lit.int .i64 x_.f1).wf = true ∧ (Lit.int .u64 x_.f2).wf = true))) :
    ∃ k, signalmanlaw09_ConnDoes.f k a0 a1 = some true := by
  refine ⟨1000, ?_⟩
  unfold signalmanlaw09_ConnDoes.f
  rw [conn_awake2 1000 (by decide)]
  simp only [Option.bind_some, conn_New.f, signalmanref09_New.f]
  by_cases c0 : (a1.length : Int) > 200
  · rw [if_pos c0]
  · rw [if_neg c0]
    have := does_tell a1 (by omega) a1.length 1000 0 a0 0 0 0 false false (by omega) (by omega) (by omega) (by omega) ⟨by omega, by simp, by simp⟩
    rw [st_zero, mx_zero] at this
    exact this
end Go.Proofs.Ytagmefjpnmjcjaa.Pure
