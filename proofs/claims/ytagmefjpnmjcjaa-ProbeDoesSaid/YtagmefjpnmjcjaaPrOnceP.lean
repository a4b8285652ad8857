/- ProbeOnce in plain words: what holds between the acts. No program in sight. -/
import Derived.Test.YtagmefjpnmjcjaaPrPure
import Derived.Test.YtagmefjpnmjcjaaPxAsks
namespace Go.Proofs.Ytagmefjpnmjcjaa.Pr
open Go.RowKit
open Go.Proofs.Ytagmefjpnmjcjaa.Px (signalmanlaw13_large.calls signalmanlaw13_large.f signalmanlaw13_large.l0 S56 k56 rd_T56 at_T56 z56)
set_option linter.unusedVariables false
set_option linter.unusedSimpArgs false

theorem large_l0 (l : List S56) (hl : l.length ≤ 200) : ∀ (k i : Nat), i ≤ l.length → l.length < k + i → ∃ r, signalmanlaw13_large.l0 k l (l.length : Int) (i : Int) = some r ∧ (r = false → ∀ j, i ≤ j → j < l.length → (rd_T56 l (j : Int)).f0 = 0 → (rd_T56 l (j : Int)).f2 ≤ 1048576)
  | 0, i, h1, h2 => absurd h2 (by omega)
  | k + 1, i, h1, h2 => by
    unfold signalmanlaw13_large.l0
    by_cases c : i < l.length
    · have hw : wrap64 ((i : Int) + 1) = ((i + 1 : Nat) : Int) := by unfold wrap64; omega
      obtain ⟨r, hr, hr2⟩ := large_l0 l hl k (i + 1) (by omega) (by omega)
      rw [if_pos (by omega), if_pos (by omega), if_pos (by omega), hw]
      by_cases c0 : (rd_T56 l (i : Int)).f0 = 0
      · rw [if_pos c0]
        by_cases c1 : (rd_T56 l (i : Int)).f2 > 1048576
        · rw [if_pos c1]; exact ⟨true, rfl, fun h => by cases h⟩
        · rw [if_neg c1]
          refine ⟨r, hr, fun h j hj hjl h0 => ?_⟩
          by_cases e : j = i
          · subst e; omega
          · exact hr2 h j (by omega) hjl h0
      · rw [if_neg c0]
        refine ⟨r, hr, fun h j hj hjl h0 => ?_⟩
        by_cases e : j = i
        · subst e; exact absurd h0 c0
        · exact hr2 h j (by omega) hjl h0
    · rw [if_neg (by omega)]
      exact ⟨false, rfl, fun _ j hj hjl => by omega⟩
theorem large_f (l : List S56) : ∃ k r, signalmanlaw13_large.f k l = some r ∧ (r = false → l.length ≤ 200 ∧ ∀ j, j < l.length → (rd_T56 l (j : Int)).f0 = 0 → (rd_T56 l (j : Int)).f2 ≤ 1048576) := by
  by_cases c : l.length ≤ 200
  · obtain ⟨r, h1, h2⟩ := large_l0 l c (l.length + 1) 0 (by omega) (by omega)
    refine ⟨l.length + 1, r, ?_, fun h => ⟨c, fun j hj h0 => h2 h j (by omega) hj h0⟩⟩
    unfold signalmanlaw13_large.f
    rw [if_neg (by omega)]
    exact h1
  · refine ⟨0, true, ?_, fun h => by cases h⟩
    unfold signalmanlaw13_large.f
    rw [if_pos (by omega)]
/-- What holds between the acts: K tells when each was asked, and 1. -/
def Inv (mn : Nat) (ev : Int) (i : Nat) (now last opn : Int) (D K : List Int) : Prop :=
  D.length = 18 ∧ K.length = 6 ∧ 0 ≤ now ∧ now ≤ (i : Int) * 1048576 ∧ 0 ≤ last ∧ last ≤ (i : Int) * 6 ∧ opn = cnt D mn ∧
  (∀ j : Nat, j < 6 → 0 ≤ nd D (j * 3 + 2) ∧ nd D (j * 3 + 2) ≤ now) ∧
  (∀ j : Nat, j < mn → nd K j ≠ 0 → nd K j = nd D (j * 3 + 2) + 1 ∧ nd D (j * 3) = nd D (j * 3 + 2) + ev) ∧
  (∀ j : Nat, j < mn → nd K j = 0 → nd D (j * 3 + 1) = 0)
theorem Inv.answer {mn : Nat} {ev : Int} {i : Nat} {now last opn : Int} {D K : List Int} (h : Inv mn ev i now last opn D K) (n : Nat) (hn : n < mn) (hm : mn ≤ 6) (ho : nd D (n * 3 + 1) ≠ 0) : Inv mn ev (i + 1) now last (opn - 1) (D.set (n * 3 + 1) 0) K := by
  obtain ⟨h1, h2, h3, h4, h5, h6, h7, h8, h9, h10⟩ := h
  have hs : ∀ j, nd (D.set (n * 3 + 1) 0) j = if n * 3 + 1 = j then 0 else nd D j := fun j => nd_set (by omega)
  refine ⟨by simpa using h1, h2, h3, by omega, h5, by omega, ?_, fun j hj => ?_, fun j hj hk => ?_, fun j hj hk => ?_⟩
  · have hc := cnt_change (D := D) (D' := D.set (n * 3 + 1) 0) (i := n) mn hn (fun j hj hne => by rw [hs, if_neg (by omega)])
    rw [hs, if_pos rfl, if_neg ho, if_pos rfl] at hc
    omega
  · rw [hs, if_neg (by omega)]; exact h8 j hj
  · rw [hs, hs, if_neg (by omega), if_neg (by omega)]; exact h9 j hj hk
  · rw [hs]
    split
    · rfl
    · exact h10 j hj hk
theorem Inv.stay {mn : Nat} {ev : Int} {i : Nat} {now last opn : Int} {D K : List Int} (h : Inv mn ev i now last opn D K) : Inv mn ev (i + 1) now last opn D K := by
  obtain ⟨h1, h2, h3, h4, h5, h6, h7, h8, h9, h10⟩ := h
  exact ⟨h1, h2, h3, by omega, h5, by omega, h7, h8, h9, h10⟩
theorem Inv.tick {mn : Nat} {ev la : Int} {i : Nat} {now last opn N : Int} {D K K2 : List Int} (h : Inv mn ev i now last opn D K) (hm : mn ≤ 6) (hN : 0 ≤ N) (hN2 : N ≤ 1048576) (hK2 : K2.length = 6)
    (hk : ∀ j : Nat, j < mn → nd K2 j = if askB (now + N) la D j then now + N + 1 else nd K j) :
    Inv mn ev (i + 1) (now + N) (last + (ticks (now + N) ev la ⟨D, last, [], []⟩ mn).asks.length) (opn - (ticks (now + N) ev la ⟨D, last, [], []⟩ mn).lates.length + (ticks (now + N) ev la ⟨D, last, [], []⟩ mn).asks.length) (ticks (now + N) ev la ⟨D, last, [], []⟩ mn).D K2 := by
  obtain ⟨h1, h2, h3, h4, h5, h6, h7, h8, h9, h10⟩ := h
  have hD := T_D (now := now + N) (ev := ev) (la := la) (ls := last) h1 mn hm
  have hc := cnt_ticks (now := now + N) (ev := ev) (la := la) (ls := last) h1 h5 mn hm mn (Nat.le_refl _)
  have hal := ticks_asks (now := now + N) (ev := ev) (la := la) (s := ⟨D, last, [], []⟩) mn
  simp only [List.length_nil] at hal
  refine ⟨by rw [ticks_len]; exact h1, hK2, by omega, by omega, by omega, by omega, by rw [hc, h7], fun j hj => ?_, fun j hj hkn => ?_, fun j hj hkz => ?_⟩
  · by_cases c : j < mn
    · rw [(hD j c).2.1]
      split
      · omega
      · have := h8 j hj; omega
    · rw [nd_ticks h1 mn _ hm (by omega)]; have := h8 j hj; simp only; omega
  · obtain ⟨d0, d2, _⟩ := hD j hj
    rw [hk j hj] at hkn ⊢
    rw [d0, d2]
    cases hb : askB (now + N) la D j with
    | true => simp
    | false =>
      rw [hb] at hkn
      simp only [if_neg (show ¬ (false = true) by decide)] at hkn ⊢
      exact h9 j hj hkn
  · obtain ⟨_, _, d1⟩ := hD j hj
    rw [hk j hj] at hkz
    cases hb : askB (now + N) la D j with
    | true => rw [hb, if_pos rfl] at hkz; omega
    | false =>
      rw [hb] at hkz d1
      simp only [if_neg (show ¬ (false = true) by decide)] at hkz d1
      rw [d1]
      split
      · rfl
      · exact h10 j hj hkz
/-- Who is asked again was asked long enough ago. -/
theorem Inv.once {mn : Nat} {ev la : Int} {i : Nat} {now last opn N : Int} {D K : List Int} (h : Inv mn ev i now last opn D K) {j : Nat} (hj : j < mn) (hb : askB (now + N) la D j = true) (hk : nd K j ≠ 0) : ev ≤ now + N - (nd K j - 1) ∧ 1 ≤ nd K j ∧ nd K j ≤ now + 1 := by
  obtain ⟨h1, h2, h3, h4, h5, h6, h7, h8, h9, h10⟩ := h
  have := h9 j hj hk
  unfold askB at hb
  simp at hb
  have hm6 := h8
  by_cases c : j < 6
  · have := h8 j c; omega
  · have e1 : nd D (j * 3 + 2) = 0 := by unfold nd; rw [List.getD_eq_getElem?_getD, List.getElem?_eq_none (by omega)]; rfl
    omega
theorem Inv.lateK {mn : Nat} {ev la : Int} {i : Nat} {now last opn : Int} {D K : List Int} (h : Inv mn ev i now last opn D K) {j : Nat} (hj : j < mn) {x : Int} (hb : isLate x la D j = true) : nd K j ≠ 0 := by
  obtain ⟨h1, h2, h3, h4, h5, h6, h7, h8, h9, h10⟩ := h
  intro e
  have := h10 j hj e
  unfold isLate at hb
  simp at hb
  exact hb.1 this
end Go.Proofs.Ytagmefjpnmjcjaa.Pr
