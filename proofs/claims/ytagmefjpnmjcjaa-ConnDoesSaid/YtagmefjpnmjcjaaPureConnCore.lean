/- What the acts of a connection do, in plain Lean: one function of the state and the act, and what it keeps. -/
import Derived.Test.YtagmefjpnmjcjaaCox7
namespace Go.Proofs.Ytagmefjpnmjcjaa.Pure
open Go.RowKit Go.Proofs.Ytagmefjpnmjcjaa.Co Go.Proofs.YtagmefjpnmjcjaaW.PrintWords Go.Proofs.YtagmefjpnmjcjaaW.PrintLast Go.Proofs.YtagmefjpnmjcjaaW.PrintMore

/-- Act d (session s, request n) at a state: what is told, and the state behind it. -/
def act (e fl ow se : Int) (di dr : Bool) (d s n : Int) : Bool × Int × Int × Int × Int × Int × Int × Bool × Bool :=
  if d = 0 then (if s > 0 ∧ ow = 0 then (true, 0, 0, e, fl, s, se, di, dr) else (false, 0, 0, e, fl, ow, se, di, dr))
  else if d = 1 then (if n = 0 then (false, 1, 0, e, fl, ow, se, di, dr) else if stOf ow dr = 2 ∧ fl = 0 then (false, 0, 0, e, n, ow, wrap64 (se + 1), di, dr) else (false, 7, 0, e, fl, ow, se, di, dr))
  else if d = 2 then (if n = 0 ∨ fl ≠ n then (false, 0, 0, e, fl, ow, se, di, dr) else if stOf ow dr = 3 then (true, 0, 0, e, 0, -1, se, di, dr) else (true, 0, 0, e, 0, ow, se, di, dr))
  else if d = 3 then (stOf ow dr == 2, 0, 0, e, fl, ow, se, di || (stOf ow dr == 2), dr)
  else if d = 4 then (if stOf ow dr = 2 ∧ fl = 0 then (if di = true then (true, 0, 0, e, 0, -1, se, di, dr) else (true, 0, 0, e, fl, 0, se, di, dr)) else (false, 0, 0, e, fl, ow, se, di, dr))
  else if d = 5 then (if fl = 0 then (false, 0, 0, e, 0, -1, se, di, dr) else (false, 0, 0, e, fl, ow, se, di, true))
  else if d = 6 then (false, 0, fl, e, 0, -1, se, di, dr)
  else (false, 0, 0, e, fl, ow, se, di, dr)

theorem do_eq (k : Nat) (hk : 1 ≤ k) (e fl ow se : Int) (di dr : Bool) (d s n : Int) : signalmanlaw09_do.f k e fl ow se di dr d s n = some (act e fl ow se di dr d s n) := by
  obtain ⟨k, rfl⟩ : ∃ m, k = m + 1 := ⟨k - 1, by omega⟩
  unfold signalmanlaw09_do.f act
  split
  · unfold conn_Conn_Lend.f
    by_cases c1 : s > 0
    · by_cases c2 : ow = 0 <;> simp [c1, c2]
    · simp [c1]
  split
  · unfold conn_Conn_Send.f
    by_cases c0 : n = 0
    · simp [c0]
    · by_cases c1 : stOf ow dr = 2
      · by_cases c2 : fl = 0 <;> simp [c0, c1, c2]
      · simp [c0, c1]
  split
  · unfold conn_Conn_Reply.f
    simp only [conn_Conn_Reply.j0, conn_Conn_State.f, conn_Conn_close.f, Option.bind_some]
    by_cases c0 : n = 0
    · simp [c0]
    · by_cases c1 : fl = n
      · by_cases c2 : stOf ow dr = 3 <;> simp [c0, c1, c2]
      · simp [c0, c1]
  split
  · unfold conn_Conn_Soil.f
    simp only [conn_Conn_State.f, Option.bind_some]
    cases di <;> simp
  split
  · unfold conn_Conn_Release.f
    by_cases c1 : stOf ow dr = 2
    · by_cases c2 : fl = 0
      · cases di <;> simp [c1, c2]
      · simp [c1, c2]
    · simp [c1]
  split
  · unfold conn_Conn_Drain.f conn_Conn_close.f
    by_cases c2 : fl = 0 <;> simp [c2]
  split
  · unfold conn_Conn_Break.f conn_Conn_close.f
    simp
  · rfl

/-- What holds of every state that was reached. -/
def Inv (fl ow : Int) (dr : Bool) : Prop := -1 ≤ ow ∧ (fl ≠ 0 → 0 < ow) ∧ (dr = true → ow = -1 ∨ fl ≠ 0)

theorem stOf_4 (ow : Int) (dr : Bool) : stOf ow dr = 4 ↔ ow = -1 := by unfold stOf; by_cases a : ow = -1 <;> by_cases b : ow = 0 <;> cases dr <;> simp_all
theorem stOf_1 (ow : Int) (dr : Bool) : stOf ow dr = 1 ↔ ow = 0 := by unfold stOf; by_cases a : ow = -1 <;> by_cases b : ow = 0 <;> cases dr <;> simp_all
theorem stOf_2 (ow : Int) (dr : Bool) : stOf ow dr = 2 ↔ ow ≠ -1 ∧ ow ≠ 0 ∧ dr = false := by unfold stOf; by_cases a : ow = -1 <;> by_cases b : ow = 0 <;> cases dr <;> simp_all
theorem stOf_3 (ow : Int) (dr : Bool) : stOf ow dr = 3 ↔ ow ≠ -1 ∧ ow ≠ 0 ∧ dr = true := by unfold stOf; by_cases a : ow = -1 <;> by_cases b : ow = 0 <;> cases dr <;> simp_all

/-- What an act does to a state that was reached. -/
theorem act_facts (e fl ow se : Int) (di dr : Bool) (d s n : Int) (hI : Inv fl ow dr) (is : Bool) (er nn e' fl' ow' se' : Int) (di' dr' : Bool) (h : act e fl ow se di dr d s n = (is, er, nn, e', fl', ow', se', di', dr')) :
    Inv fl' ow' dr' ∧ (mx ow 0 = mx ow' 0 ∨ mx ow 0 = 0 ∨ mx ow' 0 = 0) ∧ (mx ow' 0 ≠ 0 → mx ow 0 = 0 → d = 0 ∧ is = true ∧ mx ow' 0 = s ∧ stOf ow dr = 1) ∧
    (d = 1 → er = 0 → mx ow 0 ≠ 0 ∧ fl = 0 ∧ fl' = n ∧ se' = wrap64 (se + 1)) ∧ (¬ (d = 1 ∧ er = 0) → se' = se) ∧ (d = 2 → is = (fl != 0 && fl == n)) ∧ (fl' = 0 ∨ mx ow' 0 ≠ 0) ∧
    (ow = -1 → ow' = -1) ∧ (dr = true → dr' = true) ∧ (d = 1 → ow = -1 ∨ dr = true → er ≠ 0) ∧ (di = true → ow ≠ 0 → di' = true ∧ ow' ≠ 0) := by
  obtain ⟨i1, i2, i3⟩ := hI
  have m1 : mx ow 0 = if ow ≤ 0 then 0 else ow := by unfold mx; split <;> split <;> omega
  have m2 : mx ow' 0 = if ow' ≤ 0 then 0 else ow' := by unfold mx; split <;> split <;> omega
  rw [m1, m2, stOf_1]
  clear m1 m2
  unfold act at h
  unfold Inv
  by_cases d0 : d = 0
  · subst d0
    rw [if_pos rfl] at h
    split at h
    · rename_i c
      simp only [Prod.mk.injEq] at h
      obtain ⟨rfl, rfl, rfl, rfl, rfl, rfl, rfl, rfl, rfl⟩ := h
      obtain ⟨c1, rfl⟩ := c
      have hf : fl = 0 := Classical.byContradiction fun q => absurd (i2 q) (by omega)
      subst hf
      simp at i3
      refine ⟨⟨by omega, by simp, by simp [i3]⟩, by simp, ?_, by simp, by simp, by simp, by simp, by simp, by simp, by simp, fun a b => ⟨by first | exact a | simp [a], by first | exact b | decide | omega⟩⟩
      rw [if_neg (by omega)]; simp
    · simp only [Prod.mk.injEq] at h
      obtain ⟨rfl, rfl, rfl, rfl, rfl, rfl, rfl, rfl, rfl⟩ := h
      refine ⟨⟨i1, i2, i3⟩, by simp, fun a b => absurd b a, by simp, by simp, by simp, ?_, by simp, by simp, by simp, fun a b => ⟨by first | exact a | simp [a], by first | exact b | decide | omega⟩⟩
      by_cases q : fl = 0
      · exact .inl q
      · have := i2 q; right; rw [if_neg (by omega)]; omega
  rw [if_neg d0] at h
  by_cases d1 : d = 1
  · subst d1
    rw [if_pos rfl] at h
    have same : fl = 0 ∨ (if ow ≤ 0 then 0 else ow) ≠ 0 := by
      by_cases q : fl = 0
      · exact .inl q
      · have := i2 q; right; rw [if_neg (by omega)]; omega
    split at h
    · simp only [Prod.mk.injEq] at h
      obtain ⟨rfl, rfl, rfl, rfl, rfl, rfl, rfl, rfl, rfl⟩ := h
      exact ⟨⟨i1, i2, i3⟩, by simp, fun a b => absurd b a, by simp, by simp, by simp, same, by simp, by simp, by simp, fun a b => ⟨by first | exact a | simp [a], by first | exact b | decide | omega⟩⟩
    · rename_i c
      split at h
      · rename_i c2
        obtain ⟨c2, c6⟩ := c2
        obtain ⟨c3, c4, c5⟩ := (stOf_2 _ _).1 c2
        simp only [Prod.mk.injEq] at h
        obtain ⟨rfl, rfl, rfl, rfl, rfl, rfl, rfl, rfl, rfl⟩ := h
        have hp : 0 < ow := by omega
        refine ⟨⟨i1, fun _ => hp, fun _ => .inr c⟩, by simp, fun a b => absurd b a, fun _ _ => ⟨?_, c6, rfl, rfl⟩, by simp, by simp, .inr ?_, by simp, by simp, ?_, fun a b => ⟨by first | exact a | simp [a], by first | exact b | decide | omega⟩⟩
        · rw [if_neg (by omega)]; omega
        · rw [if_neg (by omega)]; omega
        · rintro - (q | q)
          · exact absurd q c3
          · rw [c5] at q; cases q
      · simp only [Prod.mk.injEq] at h
        obtain ⟨rfl, rfl, rfl, rfl, rfl, rfl, rfl, rfl, rfl⟩ := h
        exact ⟨⟨i1, i2, i3⟩, by simp, fun a b => absurd b a, by simp, by simp, by simp, same, by simp, by simp, by simp, fun a b => ⟨by first | exact a | simp [a], by first | exact b | decide | omega⟩⟩
  rw [if_neg d1] at h
  have same : fl = 0 ∨ (if ow ≤ 0 then 0 else ow) ≠ 0 := by
    by_cases q : fl = 0
    · exact .inl q
    · have := i2 q; right; rw [if_neg (by omega)]; omega
  by_cases d2 : d = 2
  · subst d2
    rw [if_pos rfl] at h
    split at h
    · rename_i c
      simp only [Prod.mk.injEq] at h
      obtain ⟨rfl, rfl, rfl, rfl, rfl, rfl, rfl, rfl, rfl⟩ := h
      refine ⟨⟨i1, i2, i3⟩, by simp, fun a b => absurd b a, by simp, by simp, fun _ => ?_, same, by simp, by simp, by simp, fun a b => ⟨by first | exact a | simp [a], by first | exact b | decide | omega⟩⟩
      rcases c with rfl | c
      · by_cases q : fl = 0 <;> simp [q]
      · simp [c]
    · rename_i c
      simp only [not_or, Classical.not_not] at c
      obtain ⟨c1, rfl⟩ := c
      have hp := i2 c1
      split at h
      · simp only [Prod.mk.injEq] at h
        obtain ⟨rfl, rfl, rfl, rfl, rfl, rfl, rfl, rfl, rfl⟩ := h
        exact ⟨⟨by omega, by simp, by simp⟩, by simp, by simp, by simp, by simp, by simp [c1], by simp, by simp, by simp, by simp, fun a b => ⟨by first | exact a | simp [a], by first | exact b | decide | omega⟩⟩
      · rename_i c2
        simp only [Prod.mk.injEq] at h
        obtain ⟨rfl, rfl, rfl, rfl, rfl, rfl, rfl, rfl, rfl⟩ := h
        have hd : dr ≠ true := fun q => c2 ((stOf_3 _ _).2 ⟨by omega, by omega, q⟩)
        exact ⟨⟨by omega, by simp, fun q => absurd q hd⟩, by simp, fun a b => absurd b a, by simp, by simp, by simp [c1], by simp, by simp, by simp, by simp, fun a b => ⟨by first | exact a | simp [a], by first | exact b | decide | omega⟩⟩
  rw [if_neg d2] at h
  by_cases d3 : d = 3
  · subst d3
    rw [if_pos rfl] at h
    simp only [Prod.mk.injEq] at h
    obtain ⟨rfl, rfl, rfl, rfl, rfl, rfl, rfl, rfl, rfl⟩ := h
    exact ⟨⟨i1, i2, i3⟩, by simp, fun a b => absurd b a, by simp, by simp, by simp, same, by simp, by simp, by simp, fun a b => ⟨by simp [a], b⟩⟩
  rw [if_neg d3] at h
  by_cases d4 : d = 4
  · subst d4
    rw [if_pos rfl] at h
    split at h
    · rename_i c
      obtain ⟨c, rfl⟩ := c
      obtain ⟨c1, c2, c3⟩ := (stOf_2 _ _).1 c
      split at h
      · simp only [Prod.mk.injEq] at h
        obtain ⟨rfl, rfl, rfl, rfl, rfl, rfl, rfl, rfl, rfl⟩ := h
        exact ⟨⟨by omega, by simp, by simp⟩, by simp, by simp, by simp, by simp, by simp, by simp, by simp, by simp, by simp, fun a b => ⟨by first | exact a | simp [a], by first | exact b | decide | omega⟩⟩
      · rename_i c4
        simp only [Prod.mk.injEq] at h
        obtain ⟨rfl, rfl, rfl, rfl, rfl, rfl, rfl, rfl, rfl⟩ := h
        exact ⟨⟨by omega, by simp, by simp [c3]⟩, by simp, by simp, by simp, by simp, by simp, by simp, by omega, by simp, by simp, fun q => absurd q c4⟩
    · simp only [Prod.mk.injEq] at h
      obtain ⟨rfl, rfl, rfl, rfl, rfl, rfl, rfl, rfl, rfl⟩ := h
      exact ⟨⟨i1, i2, i3⟩, by simp, fun a b => absurd b a, by simp, by simp, by simp, same, by simp, by simp, by simp, fun a b => ⟨by first | exact a | simp [a], by first | exact b | decide | omega⟩⟩
  rw [if_neg d4] at h
  by_cases d5 : d = 5
  · subst d5
    rw [if_pos rfl] at h
    split at h
    · simp only [Prod.mk.injEq] at h
      obtain ⟨rfl, rfl, rfl, rfl, rfl, rfl, rfl, rfl, rfl⟩ := h
      exact ⟨⟨by omega, by simp, by simp⟩, by simp, by simp, by simp, by simp, by simp, by simp, by simp, by simp, by simp, fun a b => ⟨by first | exact a | simp [a], by first | exact b | decide | omega⟩⟩
    · rename_i c
      simp only [Prod.mk.injEq] at h
      obtain ⟨rfl, rfl, rfl, rfl, rfl, rfl, rfl, rfl, rfl⟩ := h
      exact ⟨⟨i1, i2, fun _ => .inr c⟩, by simp, fun a b => absurd b a, by simp, by simp, by simp, same, by simp, by simp, by simp, fun a b => ⟨by first | exact a | simp [a], by first | exact b | decide | omega⟩⟩
  rw [if_neg d5] at h
  by_cases d6 : d = 6
  · subst d6
    rw [if_pos rfl] at h
    simp only [Prod.mk.injEq] at h
    obtain ⟨rfl, rfl, rfl, rfl, rfl, rfl, rfl, rfl, rfl⟩ := h
    exact ⟨⟨by omega, by simp, by simp⟩, by simp, by simp, by simp, by simp, by simp, by simp, by simp, by simp, by simp, fun a b => ⟨by first | exact a | simp [a], by first | exact b | decide | omega⟩⟩
  rw [if_neg d6] at h
  simp only [Prod.mk.injEq] at h
  obtain ⟨rfl, rfl, rfl, rfl, rfl, rfl, rfl, rfl, rfl⟩ := h
  exact ⟨⟨i1, i2, i3⟩, by simp, fun a b => absurd b a, by simp [d1], by simp, by simp [d2], same, by simp, by simp, by simp [d1], fun a b => ⟨by first | exact a | simp [a], by first | exact b | decide | omega⟩⟩
end Go.Proofs.Ytagmefjpnmjcjaa.Pure
