/- ProbeAll in plain words: what holds between the times. No program in sight. -/
import Derived.Test.YtagmefjpnmjcjaaPrPure
namespace Go.Proofs.Ytagmefjpnmjcjaa.Pr
open Go.RowKit
set_option linter.unusedVariables false
set_option linter.unusedSimpArgs false

section
variable {now ev la : Int} {D : List Int} {ls : Int}
/-- How many were asked ahead of node i. -/
def aheadOf (now ev la : Int) (D : List Int) (ls : Int) (i : Nat) : Nat := (ticks now ev la ⟨D, ls, [], []⟩ i).asks.length
theorem T_prefix (hl : D.length = 18) (i : Nat) : ∀ n, i ≤ n → n ≤ 6 → ∃ R, (ticks now ev la ⟨D, ls, [], []⟩ n).asks = (ticks now ev la ⟨D, ls, [], []⟩ i).asks ++ R
  | 0, h, _ => ⟨[], by have : i = 0 := by omega
                       subst this; simp⟩
  | n + 1, h, hn => by
    by_cases c : i = n + 1
    · subst c; exact ⟨[], by simp⟩
    · obtain ⟨R, hR⟩ := T_prefix hl i n (by omega) (by omega)
      obtain ⟨_, h5, _⟩ := T_succ (now := now) (ev := ev) (la := la) (ls := ls) hl n (by omega)
      rw [h5, hR]
      split
      · exact ⟨R ++ _, by rw [List.append_assoc]⟩
      · exact ⟨R, rfl⟩
theorem ahead_succ (hl : D.length = 18) (i : Nat) (hi : i < 6) : aheadOf now ev la D ls (i + 1) = aheadOf now ev la D ls i + if askB now la D i then 1 else 0 := by
  obtain ⟨_, h5, _⟩ := T_succ (now := now) (ev := ev) (la := la) (ls := ls) hl i hi
  unfold aheadOf
  rw [h5]
  split <;> simp
/-- Is the next that was asked node i? -/
theorem T_next (hl : D.length = 18) (n i : Nat) (hi : i < n) (hn : n ≤ 6) {T : TS} (hT : ticks now ev la ⟨D, ls, [], []⟩ n = T) (hk : aheadOf now ev la D ls i < T.asks.length) :
    (T.asks[aheadOf now ev la D ls i].1 == (i : Int)) = askB now la D i := by
  subst hT
  cases hb : askB now la D i with
  | true =>
    obtain ⟨R, hR⟩ := T_prefix (now := now) (ev := ev) (la := la) (ls := ls) hl (i + 1) n (by omega) hn
    obtain ⟨_, h5, _⟩ := T_succ (now := now) (ev := ev) (la := la) (ls := ls) hl i (by omega)
    rw [hb, if_pos rfl] at h5
    have : (ticks now ev la ⟨D, ls, [], []⟩ n).asks[aheadOf now ev la D ls i]? = some ((i : Int), (ticks now ev la ⟨D, ls, [], []⟩ i).ls + 1) := by
      rw [hR, h5]; unfold aheadOf; simp
    rw [List.getElem?_eq_getElem hk] at this
    rw [Option.some.inj this]; simp
  | false =>
    by_cases c : (ticks now ev la ⟨D, ls, [], []⟩ n).asks[aheadOf now ev la D ls i].1 = (i : Int)
    · have := (T_asked (now := now) (ev := ev) (la := la) (ls := ls) hl n hn i).1 ⟨_, List.getElem_mem hk, c⟩
      rw [hb] at this; exact absurd this.2 (by decide)
    · simpa using c
theorem T_more (hl : D.length = 18) (n i : Nat) (hi : i < n) (hn : n ≤ 6) {T : TS} (hT : ticks now ev la ⟨D, ls, [], []⟩ n = T) (hb : askB now la D i = true) : aheadOf now ev la D ls i < T.asks.length := by
  subst hT
  obtain ⟨R, hR⟩ := T_prefix (now := now) (ev := ev) (la := la) (ls := ls) hl (i + 1) n (by omega) hn
  have h := ahead_succ (now := now) (ev := ev) (la := la) (ls := ls) hl i (by omega)
  rw [hb, if_pos rfl] at h
  have : (ticks now ev la ⟨D, ls, [], []⟩ n).asks.length = aheadOf now ev la D ls (i + 1) + R.length := by rw [hR, List.length_append]; rfl
  omega
end
def stepOf (ev la : Int) (ans : Bool) : Int := if ans then ev else if ev < la then la else ev
/-- Of node j ahead of time now. -/
def Node (ev la : Int) (ans : Bool) (now : Int) (D : List Int) (j : Nat) : Prop :=
  if ans then nd D (j * 3 + 1) = 0 ∧ (j : Int) ≤ nd D (j * 3) ∧ now ≤ nd D (j * 3) ∧ (nd D (j * 3) - j) % ev = 0 ∧ (nd D (j * 3) = j ∨ nd D (j * 3) < now + ev)
  else (now ≤ j ∧ nd D (j * 3) = j ∧ nd D (j * 3 + 1) = 0) ∨
    ((j : Int) ≤ nd D (j * 3 + 2) ∧ nd D (j * 3 + 2) < now ∧ (nd D (j * 3 + 2) - j) % stepOf ev la false = 0 ∧ nd D (j * 3) = nd D (j * 3 + 2) + ev ∧ now ≤ nd D (j * 3 + 2) + stepOf ev la false ∧
      ((nd D (j * 3 + 1) ≠ 0 ∧ now ≤ nd D (j * 3 + 2) + la) ∨ (nd D (j * 3 + 1) = 0 ∧ nd D (j * 3 + 2) + la < now)))
def All (mn : Nat) (ev la : Int) (ans : Bool) (now ls : Int) (D : List Int) : Prop :=
  D.length = 18 ∧ 0 ≤ now ∧ 0 ≤ ls ∧ ls ≤ now * 6 ∧ (∀ j : Nat, j < 6 → 0 ≤ nd D (j * 3 + 2) ∧ nd D (j * 3 + 2) ≤ now) ∧ ∀ j : Nat, j < mn → Node ev la ans now D j
theorem emod_same {a b s : Int} (hs : 0 < s) (ha : a % s = 0) (hb : b % s = 0) (h1 : a ≤ b) (h2 : b < a + s) : a = b := by
  have h := Int.emod_emod_of_dvd
  have e1 := Int.mul_ediv_add_emod a s
  have e2 := Int.mul_ediv_add_emod b s
  rw [ha] at e1
  rw [hb] at e2
  have h3 : s * (b / s) - s * (a / s) < s := by omega
  have h4 : 0 ≤ s * (b / s) - s * (a / s) := by omega
  rw [← Int.mul_sub] at h3 h4
  have h5 : b / s - a / s < 1 := by
    by_cases c : b / s - a / s < 1
    · exact c
    · have := Int.mul_le_mul_of_nonneg_left (show 1 ≤ b / s - a / s by omega) (show 0 ≤ s by omega)
      omega
  have h6 : 0 ≤ b / s - a / s := by
    by_cases c : 0 ≤ b / s - a / s
    · exact c
    · have := Int.mul_le_mul_of_nonneg_left (show b / s - a / s ≤ -1 by omega) (show 0 ≤ s by omega)
      omega
  have h7 : b / s = a / s := by omega
  rw [h7] at e2
  omega
theorem emod_add_self_ {a s : Int} (h : a % s = 0) : (a + s) % s = 0 := by rw [Int.add_emod_right]; exact h
theorem Node.late {ev la : Int} {now : Int} {D : List Int} {j : Nat} (h : Node ev la true now D j) : isLate now la D j = false := by
  unfold Node at h
  rw [if_pos rfl] at h
  unfold isLate
  rw [h.1]; rfl
/-- Each is asked just then. -/
theorem Node.asks {ev la : Int} {ans : Bool} {now : Int} {D : List Int} {j : Nat} (h : Node ev la ans now D j) (hev : 1 ≤ ev) (hla : 1 ≤ la) (hn : 0 ≤ now) :
    askB now la D j = decide ((j : Int) ≤ now ∧ (now - j) % stepOf ev la ans = 0) := by
  unfold Node at h
  cases ans with
  | true =>
    rw [if_pos rfl] at h
    obtain ⟨h1, h2, h3, h4, h5⟩ := h
    have hs : stepOf ev la true = ev := rfl
    unfold askB
    rw [h1, hs, Bool.eq_iff_iff]
    simp only [beq_self_eq_true, Bool.true_or, Bool.true_and, decide_eq_true_eq]
    constructor
    · intro h
      have e : nd D (j * 3) = now := by omega
      rw [e] at h4 h2
      exact ⟨h2, h4⟩
    · rintro ⟨g1, g2⟩
      rcases h5 with h5 | h5
      · omega
      · have := emod_same (a := now - j) (b := nd D (j * 3) - j) (by omega) g2 h4 (by omega) (by omega)
        omega
  | false =>
    rw [if_neg (by decide)] at h
    have hS : 1 ≤ stepOf ev la false ∧ ev ≤ stepOf ev la false ∧ la ≤ stepOf ev la false ∧ (stepOf ev la false = ev ∨ stepOf ev la false = la) := by
      unfold stepOf; simp only [if_neg (show ¬ (false = true) by decide)]; split <;> omega
    obtain ⟨S, hSe⟩ : ∃ S, stepOf ev la false = S := ⟨_, rfl⟩
    rw [hSe] at h hS ⊢
    unfold askB isLate
    rw [Bool.eq_iff_iff]
    simp only [Bool.and_eq_true, Bool.or_eq_true, beq_iff_eq, bne_iff_ne, decide_eq_true_eq, ne_eq]
    rcases h with ⟨g1, g2, g3⟩ | ⟨g1, g2, g3, g4, g5, g6⟩
    · rw [g3, g2]
      constructor
      · rintro ⟨_, h⟩
        have e : now = j := by omega
        rw [e]; simp
      · rintro ⟨a, _⟩; exact ⟨.inl rfl, a⟩
    · have key : ((j : Int) ≤ now ∧ (now - j) % S = 0) ↔ now = nd D (j * 3 + 2) + S := by
        constructor
        · rintro ⟨a, b⟩
          have := emod_same (a := now - j) (b := nd D (j * 3 + 2) + S - j) (by omega) b (by have := emod_add_self_ g3; rw [show nd D (j * 3 + 2) + S - (j : Int) = nd D (j * 3 + 2) - j + S by omega]; exact this) (by omega) (by omega)
          omega
        · intro e
          refine ⟨by omega, ?_⟩
          rw [e, show nd D (j * 3 + 2) + S - (j : Int) = nd D (j * 3 + 2) - j + S by omega]
          exact emod_add_self_ g3
      rw [key, g4]
      constructor
      · rintro ⟨a, b⟩
        rcases g6 with ⟨g6, g7⟩ | ⟨g6, g7⟩
        · rcases a with a | ⟨a, a2⟩
          · exact absurd a g6
          · omega
        · omega
      · intro e
        rcases g6 with ⟨g6, g7⟩ | ⟨g6, g7⟩
        · exact ⟨.inr ⟨g6, by omega⟩, by omega⟩
        · exact ⟨.inl g6, by omega⟩
/-- A time later, where each that was asked has answered (if they do). -/
theorem All.next {mn : Nat} {ev la : Int} {ans : Bool} {now ls : Int} {D D2 : List Int} (h : All mn ev la ans now ls D) (hm : mn ≤ 6) (hev : 1 ≤ ev) (hla : 1 ≤ la) (hl2 : D2.length = 18)
    (hD0 : ∀ j : Nat, j < 6 → nd D2 (j * 3) = nd (ticks now ev la ⟨D, ls, [], []⟩ mn).D (j * 3)) (hD2 : ∀ j : Nat, j < 6 → nd D2 (j * 3 + 2) = nd (ticks now ev la ⟨D, ls, [], []⟩ mn).D (j * 3 + 2))
    (hD1 : ∀ j : Nat, j < mn → nd D2 (j * 3 + 1) = if ans then 0 else nd (ticks now ev la ⟨D, ls, [], []⟩ mn).D (j * 3 + 1)) :
    All mn ev la ans (now + 1) (ls + (ticks now ev la ⟨D, ls, [], []⟩ mn).asks.length) D2 := by
  obtain ⟨h1, h2, h3, h4, h5, h6⟩ := h
  have hal := ticks_asks (now := now) (ev := ev) (la := la) (s := ⟨D, ls, [], []⟩) mn
  simp only [List.length_nil] at hal
  have hD := T_D (now := now) (ev := ev) (la := la) (ls := ls) h1 mn hm
  refine ⟨hl2, by omega, by omega, by omega, fun j hj => ?_, fun j hj => ?_⟩
  · rw [hD2 j hj]
    by_cases c : j < mn
    · rw [(hD j c).2.1]
      split
      · omega
      · have := h5 j hj; omega
    · rw [nd_ticks h1 mn _ hm (by omega)]; have := h5 j hj; simp only; omega
  · have hN := h6 j hj
    have hask := hN.asks hev hla h2
    obtain ⟨d0, d2, d1⟩ := hD j hj
    rw [← hD0 j (by omega)] at d0
    rw [← hD2 j (by omega)] at d2
    have e1 := hD1 j hj
    have h5j := h5 j (by omega)
    unfold Node at hN ⊢
    cases ans with
    | true =>
      rw [if_pos rfl] at hN ⊢
      rw [if_pos rfl] at e1
      obtain ⟨g1, g2, g3, g4, g5⟩ := hN
      rw [d0, e1]
      cases hb : askB now la D j with
      | true =>
        rw [hb] at hask
        have hd := of_decide_eq_true hask.symm
        simp only [if_true]
        have hs : stepOf ev la true = ev := rfl
        rw [hs] at hd
        refine ⟨trivial, by omega, by omega, ?_, .inr (by omega)⟩
        rw [show now + ev - (j : Int) = now - j + ev by omega]
        exact emod_add_self_ hd.2
      | false =>
        simp only [if_neg (show ¬ (false = true) by decide)]
        have : ¬ nd D (j * 3) ≤ now := by
          intro hle
          unfold askB at hb
          rw [g1] at hb
          simp at hb
          omega
        refine ⟨trivial, g2, by omega, g4, ?_⟩
        rcases g5 with g5 | g5
        · exact .inl g5
        · exact .inr (by omega)
    | false =>
      rw [if_neg (by decide)] at hN ⊢
      rw [if_neg (by decide)] at e1
      have hS : 1 ≤ stepOf ev la false ∧ ev ≤ stepOf ev la false ∧ la ≤ stepOf ev la false ∧ (stepOf ev la false = ev ∨ stepOf ev la false = la) := by
        unfold stepOf; simp only [if_neg (show ¬ (false = true) by decide)]; split <;> omega
      obtain ⟨S, hSe⟩ : ∃ S, stepOf ev la false = S := ⟨_, rfl⟩
      rw [hSe] at hN hS hask ⊢
      rw [d0, d2, e1]
      cases hb : askB now la D j with
      | true =>
        rw [hb] at hask d1
        have hd := of_decide_eq_true hask.symm
        simp only [if_true] at d1 ⊢
        exact .inr ⟨hd.1, by omega, hd.2, by first | trivial | rfl, by omega, .inl ⟨by omega, by omega⟩⟩
      | false =>
        rw [hb] at d1 hask
        simp only [if_neg (show ¬ (false = true) by decide)] at d1 ⊢
        rw [d1]
        have hnd : ¬ ((j : Int) ≤ now ∧ (now - j) % S = 0) := of_decide_eq_false hask.symm
        rcases hN with ⟨g1, g2, g3⟩ | ⟨g1, g2, g3, g4, g5, g6⟩
        · left
          have : now ≠ j := fun e => hnd ⟨by omega, by rw [e]; simp⟩
          refine ⟨by omega, g2, ?_⟩
          split
          · rfl
          · exact g3
        · right
          have hne : now ≠ nd D (j * 3 + 2) + S := fun e => hnd ⟨by omega, by rw [e, show nd D (j * 3 + 2) + S - (j : Int) = nd D (j * 3 + 2) - j + S by omega]; exact emod_add_self_ g3⟩
          refine ⟨g1, by omega, g3, g4, by omega, ?_⟩
          rcases g6 with ⟨g6, g7⟩ | ⟨g6, g7⟩
          · by_cases cl : now = nd D (j * 3 + 2) + la
            · have : isLate now la D j = true := by unfold isLate; simp; exact ⟨g6, by omega⟩
              rw [this, if_pos rfl]
              exact .inr ⟨rfl, by omega⟩
            · have : isLate now la D j = false := by unfold isLate; simp; intro _; omega
              rw [this, if_neg (by decide)]
              exact .inl ⟨g6, by omega⟩
          · have : isLate now la D j = false := by unfold isLate; rw [g6]; rfl
            rw [this, if_neg (by decide)]
            exact .inr ⟨g6, by omega⟩
theorem All.start (mn : Nat) (ev la : Int) (ans : Bool) (hm : mn ≤ 6) : All mn ev la ans 0 0 (newD 6) := by
  have h1 : ∀ j : Nat, j < 6 → nd (newD 6) (j * 3) = j ∧ nd (newD 6) (j * 3 + 1) = 0 ∧ nd (newD 6) (j * 3 + 2) = 0 := by
    intro j hj
    have : j = 0 ∨ j = 1 ∨ j = 2 ∨ j = 3 ∨ j = 4 ∨ j = 5 := by omega
    rcases this with rfl | rfl | rfl | rfl | rfl | rfl <;> exact ⟨rfl, rfl, rfl⟩
  refine ⟨rfl, by omega, by omega, by omega, fun j hj => by rw [(h1 j hj).2.2]; omega, fun j hj => ?_⟩
  obtain ⟨a, b, c⟩ := h1 j (by omega)
  unfold Node
  cases ans with
  | true =>
    rw [if_pos rfl, a, b]
    exact ⟨rfl, by omega, by omega, by simp, .inl rfl⟩
  | false =>
    rw [if_neg (by decide), a, b]
    exact .inl ⟨by omega, rfl, rfl⟩
end Go.Proofs.Ytagmefjpnmjcjaa.Pr
