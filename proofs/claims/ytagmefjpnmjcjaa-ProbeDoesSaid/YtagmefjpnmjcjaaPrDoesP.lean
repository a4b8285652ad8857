/- The document's Tick in two passes tells what the program's Tick tells in one. No program in sight. -/
import Derived.Test.YtagmefjpnmjcjaaPrPure
namespace Go.Proofs.Ytagmefjpnmjcjaa.Pr
open Go.RowKit
set_option linter.unusedVariables false
set_option linter.unusedSimpArgs false

def lateOne (now la : Int) (D : List Int) (i : Nat) : List Int := if isLate now la D i then D.set (i * 3 + 1) 0 else D
structure P1 where
  D : List Int
  lates : List Int
def pass1 (now la : Int) (D : List Int) : Nat → P1
  | 0 => ⟨D, []⟩
  | n + 1 => ⟨lateOne now la (pass1 now la D n).D n, if isLate now la (pass1 now la D n).D n then (pass1 now la D n).lates ++ [(n : Int)] else (pass1 now la D n).lates⟩
structure P2 where
  D : List Int
  ls : Int
  asks : List (Int × Int)
def aB (now : Int) (D : List Int) (i : Nat) : Bool := decide (nd D (i * 3) ≤ now) && (nd D (i * 3 + 1) == 0)
def pass2 (now ev : Int) (D : List Int) (ls : Int) : Nat → P2
  | 0 => ⟨D, ls, []⟩
  | n + 1 => if aB now (pass2 now ev D ls n).D n then ⟨askD now ev (pass2 now ev D ls n).ls (pass2 now ev D ls n).D n, (pass2 now ev D ls n).ls + 1, (pass2 now ev D ls n).asks ++ [((n : Int), (pass2 now ev D ls n).ls + 1)]⟩ else pass2 now ev D ls n
theorem pass1_len {now la : Int} {D : List Int} : ∀ n, (pass1 now la D n).D.length = D.length
  | 0 => rfl
  | n + 1 => by rw [pass1]; simp only [lateOne]; split <;> simp [pass1_len n]
theorem pass2_len {now ev : Int} {D : List Int} {ls : Int} : ∀ n, (pass2 now ev D ls n).D.length = D.length
  | 0 => rfl
  | n + 1 => by rw [pass2]; split <;> simp [askD_len, pass2_len n]
theorem pass1_nd {now la : Int} {D : List Int} (hl : D.length = 18) : ∀ n, n ≤ 6 → ∀ j, (∀ i, i < n → j ≠ i * 3 + 1) → nd (pass1 now la D n).D j = nd D j
  | 0, _, j, _ => rfl
  | n + 1, hn, j, hj => by
    rw [pass1]; simp only [lateOne]
    split
    · rw [nd_set (by rw [pass1_len]; omega), if_neg (fun e => hj n (by omega) e.symm), pass1_nd hl n (by omega) j (fun i hi => hj i (by omega))]
    · exact pass1_nd hl n (by omega) j (fun i hi => hj i (by omega))
theorem pass1_late {now la : Int} {D : List Int} (hl : D.length = 18) (n : Nat) (hn : n < 6) : isLate now la (pass1 now la D n).D n = isLate now la D n :=
  isLate_congr (pass1_nd hl n (by omega) _ (fun i hi => by omega)) (pass1_nd hl n (by omega) _ (fun i hi => by omega))
theorem pass1_out {now la : Int} {D : List Int} (hl : D.length = 18) : ∀ n, n ≤ 6 → ∀ i, i < n → nd (pass1 now la D n).D (i * 3 + 1) = if isLate now la D i then 0 else nd D (i * 3 + 1)
  | 0, _, i, hi => absurd hi (by omega)
  | n + 1, hn, i, hi => by
    have h1 := pass1_late (now := now) (la := la) hl n (by omega)
    rw [pass1]; simp only [lateOne]
    rw [h1]
    by_cases c : i = n
    · subst c
      split
      · rw [nd_set (by rw [pass1_len]; omega), if_pos rfl]
      · exact pass1_nd hl i (by omega) _ (fun k hk => by omega)
    · have ih := pass1_out (now := now) (la := la) hl n (by omega) i (by omega)
      split
      · rw [nd_set (by rw [pass1_len]; omega), if_neg (by omega)]; exact ih
      · exact ih
theorem pass1_lates {now ev la : Int} {D : List Int} {ls : Int} (hl : D.length = 18) : ∀ n, n ≤ 6 → (pass1 now la D n).lates = (ticks now ev la ⟨D, ls, [], []⟩ n).lates
  | 0, _ => rfl
  | n + 1, hn => by
    obtain ⟨_, _, h6⟩ := T_succ (now := now) (ev := ev) (la := la) (ls := ls) hl n (by omega)
    rw [h6, pass1]
    simp only
    rw [pass1_late hl n (by omega), pass1_lates (ev := ev) (ls := ls) hl n (by omega)]
/-- The second pass, behind the first. -/
theorem pass2_T {now ev la : Int} {D : List Int} {ls : Int} (hl : D.length = 18) (m : Nat) (hm : m ≤ 6) : ∀ n, n ≤ m →
    (pass2 now ev (pass1 now la D m).D ls n).ls = (ticks now ev la ⟨D, ls, [], []⟩ n).ls ∧ (pass2 now ev (pass1 now la D m).D ls n).asks = (ticks now ev la ⟨D, ls, [], []⟩ n).asks ∧
    (∀ j, j < n * 3 → nd (pass2 now ev (pass1 now la D m).D ls n).D j = nd (ticks now ev la ⟨D, ls, [], []⟩ n).D j) ∧ (∀ j, n * 3 ≤ j → nd (pass2 now ev (pass1 now la D m).D ls n).D j = nd (pass1 now la D m).D j)
  | 0, _ => ⟨rfl, rfl, fun j hj => absurd hj (by omega), fun _ _ => rfl⟩
  | n + 1, hn => by
    obtain ⟨i1, i2, i3, i4⟩ := pass2_T hl m hm n (by omega)
    obtain ⟨h1, h2, h3⟩ := T_node (now := now) (ev := ev) (la := la) (ls := ls) hl n (by omega)
    obtain ⟨g0, g2, g1, gl, ga, _⟩ := tstep_own (now := now) (ev := ev) (la := la) h3 (show n < 6 by omega)
    have hL : (pass2 now ev (pass1 now la D m).D ls n).D.length = 18 := by rw [pass2_len, pass1_len, hl]
    have p0 : nd (pass2 now ev (pass1 now la D m).D ls n).D (n * 3) = nd D (n * 3) := by rw [i4 _ (by omega), pass1_nd hl m hm _ (fun i hi => by omega)]
    have p2 : nd (pass2 now ev (pass1 now la D m).D ls n).D (n * 3 + 2) = nd D (n * 3 + 2) := by rw [i4 _ (by omega), pass1_nd hl m hm _ (fun i hi => by omega)]
    have p1 : nd (pass2 now ev (pass1 now la D m).D ls n).D (n * 3 + 1) = if isLate now la D n then 0 else nd D (n * 3 + 1) := by rw [i4 _ (by omega), pass1_out hl m hm n (by omega)]
    have hab : aB now (pass2 now ev (pass1 now la D m).D ls n).D n = askB now la D n := by
      unfold aB askB
      rw [p0, p1, Bool.and_comm]
      congr 1
      cases isLate now la D n with
      | true => simp
      | false => simp
    rw [h1] at g0 g2 g1 gl ga
    rw [h2] at g1
    rw [nd_ticks hl n _ (by omega) (by omega)] at g0 g2 g1
    rw [pass2, hab]
    have hT : ticks now ev la ⟨D, ls, [], []⟩ (n + 1) = tstep now ev la (ticks now ev la ⟨D, ls, [], []⟩ n) n := rfl
    rw [hT, gl, ga]
    cases hb : askB now la D n with
    | true =>
      rw [hb] at g0 g2 g1
      simp only [if_true] at g0 g2 g1 ⊢
      refine ⟨by rw [i1], by rw [i2, i1], fun j hj => ?_, fun j hj => ?_⟩
      · simp only [askD]
        rw [nd_set (by simp; omega), nd_set (by simp; omega), nd_set (by omega)]
        by_cases c0 : n * 3 = j
        · rw [if_pos c0, ← c0, g0]
        · by_cases c2 : n * 3 + 2 = j
          · rw [if_neg c0, if_pos c2, ← c2, g2]
          · by_cases c1 : n * 3 + 1 = j
            · rw [if_neg c0, if_neg c2, if_pos c1, ← c1, g1, i1]
            · rw [if_neg c0, if_neg c2, if_neg c1, i3 j (by omega), nd_tstep h3 (by omega) (by omega)]
      · simp only [askD]
        rw [nd_set (by simp; omega), if_neg (by omega), nd_set (by simp; omega), if_neg (by omega), nd_set (by omega), if_neg (by omega)]
        exact i4 j (by omega)
    | false =>
      rw [hb] at g0 g2 g1
      simp only [if_neg (show ¬ (false = true) by decide)] at g0 g2 g1 ⊢
      refine ⟨i1, i2, fun j hj => ?_, fun j hj => i4 j (by omega)⟩
      by_cases c0 : j = n * 3
      · rw [c0, g0, p0]
      · by_cases c2 : j = n * 3 + 2
        · rw [c2, g2, p2]
        · by_cases c1 : j = n * 3 + 1
          · rw [c1, g1, p1]
          · rw [i3 j (by omega), nd_tstep h3 (by omega) (by omega)]
/-- The columns of the document's plan. -/
def col (D : List Int) (n k : Nat) : List Int := (List.range n).map fun j => nd D (j * 3 + k)
theorem col_len {D : List Int} {n k : Nat} : (col D n k).length = n := by simp [col]
theorem col_get {D : List Int} {n k i : Nat} (hi : i < n) : (col D n k)[i]? = some (nd D (i * 3 + k)) := by simp [col, hi]
theorem col_set {D : List Int} {n k i : Nat} (hl : D.length = 18) (hn : n ≤ 6) (hi : i < n) (hk : k < 3) (x : Int) : (col D n k).set i x = col (D.set (i * 3 + k) x) n k := by
  apply List.ext_getElem?
  intro j
  by_cases hj : j < n
  · rw [List.getElem?_set, col_get hj, col_get hj, nd_set (by omega), col_len]
    by_cases c : i = j
    · subst c; simp [hi]
    · rw [if_neg c, if_neg (by omega)]
  · rw [List.getElem?_eq_none (by simp [col_len]; omega), List.getElem?_eq_none (by simp [col_len]; omega)]
theorem col_other {D : List Int} {n k k' i : Nat} (hl : D.length = 18) (hn : n ≤ 6) (hi : i < n) (hk : k < 3) (hk' : k' < 3) (hne : k ≠ k') (x : Int) : col (D.set (i * 3 + k') x) n k = col D n k := by
  unfold col
  apply List.map_congr_left
  intro j hj
  rw [List.mem_range] at hj
  rw [nd_set (by omega), if_neg (by omega)]
theorem col_congr {D E : List Int} {n k : Nat} (hk : k < 3) (h : ∀ j, j < n * 3 → nd D j = nd E j) : col D n k = col E n k := by
  unfold col
  apply List.map_congr_left
  intro j hj
  rw [List.mem_range] at hj
  exact h _ (by omega)
end Go.Proofs.Ytagmefjpnmjcjaa.Pr
