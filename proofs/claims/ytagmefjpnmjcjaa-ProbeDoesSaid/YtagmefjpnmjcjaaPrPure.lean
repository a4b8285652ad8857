/- What a Tick tells, in plain words: who is late, who is asked, with what numbers. No program in sight. -/
import Derived.Test.YtagmefjpnmjcjaaPrTick
namespace Go.Proofs.Ytagmefjpnmjcjaa.Pr
open Go.RowKit
set_option linter.unusedVariables false
set_option linter.unusedSimpArgs false

/-- Is node i asked now? -/
def askB (now la : Int) (D : List Int) (i : Nat) : Bool := ((nd D (i * 3 + 1) == 0) || isLate now la D i) && decide (nd D (i * 3) ≤ now)
theorem isAsk_eq {now la : Int} {s : TS} {i : Nat} (hl : s.D.length = 18) (hi : i < 6) : isAsk now la s i = askB now la s.D i := by
  unfold isAsk askB
  rw [nd_lateD (j := i * 3) hl hi (by omega)]
  congr 1
  unfold lateD
  cases h : isLate now la s.D i with
  | true => rw [if_pos rfl, nd_set (by omega), if_pos rfl]; simp
  | false => rw [if_neg (by decide)]; simp
theorem isLate_congr {now la : Int} {D D' : List Int} {i : Nat} (h1 : nd D (i * 3 + 1) = nd D' (i * 3 + 1)) (h2 : nd D (i * 3 + 2) = nd D' (i * 3 + 2)) : isLate now la D i = isLate now la D' i := by
  unfold isLate; rw [h1, h2]
theorem askB_congr {now la : Int} {D D' : List Int} {i : Nat} (h0 : nd D (i * 3) = nd D' (i * 3)) (h1 : nd D (i * 3 + 1) = nd D' (i * 3 + 1)) (h2 : nd D (i * 3 + 2) = nd D' (i * 3 + 2)) : askB now la D i = askB now la D' i := by
  unfold askB; rw [h0, h1, isLate_congr h1 h2]
/-- What one step does to its own node. -/
theorem tstep_own {now ev la : Int} {s : TS} {i : Nat} (hl : s.D.length = 18) (hi : i < 6) :
    nd (tstep now ev la s i).D (i * 3) = (if askB now la s.D i then now + ev else nd s.D (i * 3)) ∧
    nd (tstep now ev la s i).D (i * 3 + 2) = (if askB now la s.D i then now else nd s.D (i * 3 + 2)) ∧
    nd (tstep now ev la s i).D (i * 3 + 1) = (if askB now la s.D i then s.ls + 1 else if isLate now la s.D i then 0 else nd s.D (i * 3 + 1)) ∧
    (tstep now ev la s i).ls = (if askB now la s.D i then s.ls + 1 else s.ls) ∧
    (tstep now ev la s i).asks = (if askB now la s.D i then s.asks ++ [((i : Int), s.ls + 1)] else s.asks) ∧
    (tstep now ev la s i).lates = (if isLate now la s.D i then s.lates ++ [(i : Int)] else s.lates) := by
  have h1 := isAsk_eq (now := now) (la := la) hl hi
  have hL : (lateD now la s i).length = 18 := by rw [lateD_len, hl]
  have e1 : nd (lateD now la s i) (i * 3 + 1) = if isLate now la s.D i then 0 else nd s.D (i * 3 + 1) := by
    unfold lateD; split
    · rw [nd_set (by omega), if_pos rfl]
    · rfl
  have e0 : nd (lateD now la s i) (i * 3) = nd s.D (i * 3) := nd_lateD hl hi (by omega)
  have e2 : nd (lateD now la s i) (i * 3 + 2) = nd s.D (i * 3 + 2) := nd_lateD hl hi (by omega)
  unfold tstep
  rw [h1]
  cases askB now la s.D i with
  | true =>
    simp only [if_true, askD]
    refine ⟨?_, ?_, ?_, by first | trivial | rfl, by first | trivial | rfl, by first | trivial | rfl⟩
    · rw [nd_set (by simp; omega), if_pos rfl]
    · rw [nd_set (by simp; omega), if_neg (by omega), nd_set (by simp; omega), if_pos rfl]
    · rw [nd_set (by simp; omega), if_neg (by omega), nd_set (by simp; omega), if_neg (by omega), nd_set (by omega), if_pos rfl]
  | false =>
    simp only [if_neg (show ¬ (false = true) by decide)]
    exact ⟨e0, e2, e1, by first | trivial | rfl, by first | trivial | rfl, by first | trivial | rfl⟩

section
variable {now ev la : Int} {D : List Int} {ls : Int}
/-- The state ahead of node n's step. -/
theorem T_node (hl : D.length = 18) (n : Nat) (hn : n < 6) : askB now la (ticks now ev la ⟨D, ls, [], []⟩ n).D n = askB now la D n ∧ isLate now la (ticks now ev la ⟨D, ls, [], []⟩ n).D n = isLate now la D n ∧ (ticks now ev la ⟨D, ls, [], []⟩ n).D.length = 18 :=
  ⟨askB_congr (nd_ticks hl n _ (by omega) (by omega)) (nd_ticks hl n _ (by omega) (by omega)) (nd_ticks hl n _ (by omega) (by omega)), isLate_congr (nd_ticks hl n _ (by omega) (by omega)) (nd_ticks hl n _ (by omega) (by omega)), by rw [ticks_len]; exact hl⟩
theorem T_succ (hl : D.length = 18) (n : Nat) (hn : n < 6) :
    (ticks now ev la ⟨D, ls, [], []⟩ (n + 1)).ls = (if askB now la D n then (ticks now ev la ⟨D, ls, [], []⟩ n).ls + 1 else (ticks now ev la ⟨D, ls, [], []⟩ n).ls) ∧
    (ticks now ev la ⟨D, ls, [], []⟩ (n + 1)).asks = (if askB now la D n then (ticks now ev la ⟨D, ls, [], []⟩ n).asks ++ [((n : Int), (ticks now ev la ⟨D, ls, [], []⟩ n).ls + 1)] else (ticks now ev la ⟨D, ls, [], []⟩ n).asks) ∧
    (ticks now ev la ⟨D, ls, [], []⟩ (n + 1)).lates = (if isLate now la D n then (ticks now ev la ⟨D, ls, [], []⟩ n).lates ++ [(n : Int)] else (ticks now ev la ⟨D, ls, [], []⟩ n).lates) := by
  obtain ⟨h1, h2, h3⟩ := T_node (now := now) (ev := ev) (la := la) (ls := ls) hl n hn
  obtain ⟨_, _, _, h4, h5, h6⟩ := tstep_own (now := now) (ev := ev) (la := la) h3 hn
  rw [h1] at h4 h5
  rw [h2] at h6
  exact ⟨h4, h5, h6⟩
/-- Each node's fields behind n steps. -/
theorem T_D (hl : D.length = 18) : ∀ n, n ≤ 6 → ∀ j, j < n →
    nd (ticks now ev la ⟨D, ls, [], []⟩ n).D (j * 3) = (if askB now la D j then now + ev else nd D (j * 3)) ∧
    nd (ticks now ev la ⟨D, ls, [], []⟩ n).D (j * 3 + 2) = (if askB now la D j then now else nd D (j * 3 + 2)) ∧
    (if askB now la D j then ls < nd (ticks now ev la ⟨D, ls, [], []⟩ n).D (j * 3 + 1) else nd (ticks now ev la ⟨D, ls, [], []⟩ n).D (j * 3 + 1) = if isLate now la D j then 0 else nd D (j * 3 + 1))
  | 0, _, j, hj => absurd hj (by omega)
  | n + 1, hn, j, hj => by
    obtain ⟨h1, h2, h3⟩ := T_node (now := now) (ev := ev) (la := la) (ls := ls) hl n (by omega)
    by_cases c : j = n
    · subst c
      obtain ⟨g0, g2, g1, _⟩ := tstep_own (now := now) (ev := ev) (la := la) h3 (show j < 6 by omega)
      have hls := (ticks_ls (now := now) (ev := ev) (la := la) (s := ⟨D, ls, [], []⟩) j).1
      rw [h1] at g0 g2 g1
      rw [h2] at g1
      rw [nd_ticks hl j _ (by omega) (by omega)] at g0 g2 g1
      refine ⟨g0, g2, ?_⟩
      show (if askB now la D j then ls < nd (tstep now ev la _ j).D (j * 3 + 1) else nd (tstep now ev la _ j).D (j * 3 + 1) = _)
      rw [g1]
      cases askB now la D j with
      | true => simp only [if_true]; simp only at hls; omega
      | false => simp
    · have ih := T_D hl n (by omega) j (by omega)
      rw [ticks, nd_tstep h3 (by omega) (.inl (by omega)), nd_tstep h3 (by omega) (.inl (by omega)), nd_tstep h3 (by omega) (.inl (by omega))]
      exact ih
theorem T_ls (hl : D.length = 18) : ∀ n, n ≤ 6 → (ticks now ev la ⟨D, ls, [], []⟩ n).ls = ls + (ticks now ev la ⟨D, ls, [], []⟩ n).asks.length
  | 0, _ => by simp [ticks]
  | n + 1, hn => by
    obtain ⟨h4, h5, _⟩ := T_succ (now := now) (ev := ev) (la := la) (ls := ls) hl n (by omega)
    have ih := T_ls hl n (by omega)
    rw [h4, h5]
    cases askB now la D n with
    | true => simp only [if_true, List.length_append, List.length_singleton]; omega
    | false => simpa using ih
/-- Who is asked, with what number: each node once, in their order. -/
theorem T_asks (hl : D.length = 18) : ∀ n, n ≤ 6 → ∀ k (hk : k < (ticks now ev la ⟨D, ls, [], []⟩ n).asks.length),
    ((ticks now ev la ⟨D, ls, [], []⟩ n).asks[k]).2 = ls + k + 1 ∧ ∃ i : Nat, ((ticks now ev la ⟨D, ls, [], []⟩ n).asks[k]).1 = i ∧ i < n ∧ askB now la D i = true ∧ ∀ k' (hk' : k' < k), ((ticks now ev la ⟨D, ls, [], []⟩ n).asks[k']).1 < i
  | 0, _, k, hk => absurd hk (by simp [ticks])
  | n + 1, hn, k, hk => by
    obtain ⟨h4, h5, _⟩ := T_succ (now := now) (ev := ev) (la := la) (ls := ls) hl n (by omega)
    have hlS := T_ls (now := now) (ev := ev) (la := la) (ls := ls) hl n (by omega)
    have ih := T_asks hl n (by omega)
    cases hb : askB now la D n with
    | false =>
      rw [hb, if_neg (by decide)] at h5
      simp only [h5] at hk ⊢
      obtain ⟨g1, i, g2, g3, g4, g5⟩ := ih k hk
      exact ⟨g1, i, g2, by omega, g4, g5⟩
    | true =>
      rw [hb, if_pos rfl] at h5
      simp only [h5] at hk ⊢
      rw [List.length_append, List.length_singleton] at hk
      by_cases c : k < (ticks now ev la ⟨D, ls, [], []⟩ n).asks.length
      · obtain ⟨g1, i, g2, g3, g4, g5⟩ := ih k c
        rw [List.getElem_append_left c]
        refine ⟨g1, i, g2, by omega, g4, fun k' hk' => ?_⟩
        rw [List.getElem_append_left (by omega)]
        exact g5 k' hk'
      · have : k = (ticks now ev la ⟨D, ls, [], []⟩ n).asks.length := by omega
        subst this
        rw [List.getElem_append_right (by omega)]
        simp only [Nat.sub_self, List.getElem_singleton]
        refine ⟨by omega, n, rfl, by omega, hb, fun k' hk' => ?_⟩
        rw [List.getElem_append_left hk']
        obtain ⟨_, i, g2, g3, _⟩ := ih k' hk'
        rw [g2]; omega
theorem T_asked (hl : D.length = 18) : ∀ n, n ≤ 6 → ∀ i : Nat, (∃ q ∈ (ticks now ev la ⟨D, ls, [], []⟩ n).asks, q.1 = (i : Int)) ↔ (i < n ∧ askB now la D i = true)
  | 0, _, i => by simp [ticks]
  | n + 1, hn, i => by
    obtain ⟨h4, h5, _⟩ := T_succ (now := now) (ev := ev) (la := la) (ls := ls) hl n (by omega)
    have ih := T_asked hl n (by omega) i
    rw [h5]
    cases hb : askB now la D n with
    | false =>
      rw [if_neg (by decide), ih]
      constructor
      · rintro ⟨a, b⟩; exact ⟨by omega, b⟩
      · rintro ⟨a, b⟩
        refine ⟨?_, b⟩
        by_cases c : i = n
        · subst c; rw [hb] at b; cases b
        · omega
    | true =>
      rw [if_pos rfl]
      constructor
      · rintro ⟨q, hq, he⟩
        rcases List.mem_append.1 hq with h | h
        · have := ih.1 ⟨q, h, he⟩; exact ⟨by omega, this.2⟩
        · simp at h; subst h
          have : i = n := by simp at he; omega
          subst this; exact ⟨by omega, hb⟩
      · rintro ⟨a, b⟩
        by_cases c : i = n
        · subst c; exact ⟨_, List.mem_append.2 (.inr (List.mem_singleton.2 rfl)), rfl⟩
        · obtain ⟨q, hq, he⟩ := ih.2 ⟨by omega, b⟩
          exact ⟨q, List.mem_append.2 (.inl hq), he⟩
theorem T_lates (hl : D.length = 18) : ∀ n, n ≤ 6 → ∀ x ∈ (ticks now ev la ⟨D, ls, [], []⟩ n).lates, ∃ i : Nat, x = i ∧ i < n ∧ isLate now la D i = true
  | 0, _, x, hx => by simp [ticks] at hx
  | n + 1, hn, x, hx => by
    obtain ⟨_, _, h6⟩ := T_succ (now := now) (ev := ev) (la := la) (ls := ls) hl n (by omega)
    have ih := T_lates hl n (by omega)
    rw [h6] at hx
    cases hb : isLate now la D n with
    | false =>
      rw [hb, if_neg (by decide)] at hx
      obtain ⟨i, g1, g2, g3⟩ := ih x hx
      exact ⟨i, g1, by omega, g3⟩
    | true =>
      rw [hb, if_pos rfl] at hx
      rcases List.mem_append.1 hx with h | h
      · obtain ⟨i, g1, g2, g3⟩ := ih x h
        exact ⟨i, g1, by omega, g3⟩
      · simp at h; exact ⟨n, h, by omega, hb⟩
end
/-- How many probes are out. -/
def cnt (D : List Int) : Nat → Int
  | 0 => 0
  | n + 1 => cnt D n + if nd D (n * 3 + 1) = 0 then 0 else 1
theorem cnt_same {D D' : List Int} : ∀ n, (∀ j, j < n → nd D' (j * 3 + 1) = nd D (j * 3 + 1)) → cnt D' n = cnt D n
  | 0, _ => rfl
  | n + 1, h => by rw [cnt, cnt, cnt_same n (fun j hj => h j (by omega)), h n (by omega)]
theorem cnt_change {D D' : List Int} {i : Nat} : ∀ n, i < n → (∀ j, j < n → j ≠ i → nd D' (j * 3 + 1) = nd D (j * 3 + 1)) → cnt D' n + (if nd D (i * 3 + 1) = 0 then 0 else 1) = cnt D n + (if nd D' (i * 3 + 1) = 0 then 0 else 1)
  | 0, hi, _ => absurd hi (by omega)
  | n + 1, hi, h => by
    by_cases c : i = n
    · subst c
      rw [cnt, cnt, cnt_same i (fun j hj => h j (by omega) (by omega))]
      omega
    · have ih := cnt_change n (by omega) (fun j hj hne => h j (by omega) hne)
      rw [cnt, cnt, h n (by omega) (fun e => c e.symm)]
      omega
theorem cnt_ticks {now ev la : Int} {D : List Int} {ls : Int} (hl : D.length = 18) (hls : 0 ≤ ls) (m : Nat) (hm : m ≤ 6) : ∀ n, n ≤ m →
    cnt (ticks now ev la ⟨D, ls, [], []⟩ n).D m = cnt D m - (ticks now ev la ⟨D, ls, [], []⟩ n).lates.length + (ticks now ev la ⟨D, ls, [], []⟩ n).asks.length
  | 0, _ => by simp [ticks]
  | n + 1, hn => by
    obtain ⟨h1, h2, h3⟩ := T_node (now := now) (ev := ev) (la := la) (ls := ls) hl n (by omega)
    obtain ⟨_, h5, h6⟩ := T_succ (now := now) (ev := ev) (la := la) (ls := ls) hl n (by omega)
    have ih := cnt_ticks (now := now) (ev := ev) (la := la) hl hls m hm n (by omega)
    have hls2 := (ticks_ls (now := now) (ev := ev) (la := la) (s := ⟨D, ls, [], []⟩) n).1
    simp only at hls2
    obtain ⟨_, _, g1, _⟩ := tstep_own (now := now) (ev := ev) (la := la) h3 (show n < 6 by omega)
    have hc := cnt_change (D := (ticks now ev la ⟨D, ls, [], []⟩ n).D) (D' := (tstep now ev la (ticks now ev la ⟨D, ls, [], []⟩ n) n).D) (i := n) m (by omega) (fun j hj hne => nd_tstep h3 (by omega) (by omega))
    rw [h5, h6]
    show cnt (tstep now ev la (ticks now ev la ⟨D, ls, [], []⟩ n) n).D m = _
    rw [h1, h2] at g1
    rw [nd_ticks hl n _ (by omega) (by omega)] at g1 hc
    cases hb : askB now la D n with
    | true =>
      rw [hb, if_pos rfl] at g1
      rw [g1, if_neg (show ¬ ((ticks now ev la ⟨D, ls, [], []⟩ n).ls + 1 = 0) by omega)] at hc
      rw [if_pos rfl]
      cases hL : isLate now la D n with
      | true =>
        have ho : nd D (n * 3 + 1) ≠ 0 := by unfold isLate at hL; simp at hL; exact hL.1
        rw [if_neg ho] at hc
        simp only [if_true, List.length_append, List.length_singleton] at *
        omega
      | false =>
        have ho : nd D (n * 3 + 1) = 0 := by unfold askB at hb; rw [hL] at hb; simp at hb; exact hb.1
        rw [if_pos ho] at hc
        simp only [List.length_append, List.length_singleton] at *
        simp only [if_neg (show ¬ (false = true) by decide)]
        omega
    | false =>
      rw [hb, if_neg (by decide)] at g1
      simp only [if_neg (show ¬ (false = true) by decide)]
      cases hL : isLate now la D n with
      | true =>
        have ho : nd D (n * 3 + 1) ≠ 0 := by unfold isLate at hL; simp at hL; exact hL.1
        rw [hL, if_pos rfl] at g1
        rw [g1, if_neg ho, if_pos rfl] at hc
        simp only [if_true, List.length_append, List.length_singleton] at *
        omega
      | false =>
        rw [hL, if_neg (by decide)] at g1
        rw [g1] at hc
        (try simp only [if_neg (show ¬ (false = true) by decide)])
        omega
end Go.Proofs.Ytagmefjpnmjcjaa.Pr
