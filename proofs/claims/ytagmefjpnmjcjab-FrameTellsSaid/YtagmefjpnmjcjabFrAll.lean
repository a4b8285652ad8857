/- All frames of bytes, plain. -/
import Derived.Test.YtagmefjpnmjcjabFrHand2
namespace Go.Proofs.Ytagmefjpnmjcjab.Fh
open Go.RowKit Go.Proofs.YtagmefjpnmjcjabW.PrintWords Go.Proofs.YtagmefjpnmjcjabW.PrintLast Go.Proofs.YtagmefjpnmjcjabW.PrintMore
open Go.Proofs.Ytagmefjpnmjcjab.Fr (info5 info38 info41 S38 k38 k38_mkM k38_openM S41 k41 frame_Read.f frame_Read.calls)
open Go.Proofs.Ytagmefjpnmjcjab.FrNum (readS lenS bodyS readS_two read_eq Bytes)
set_option linter.unusedVariables false
set_option linter.unusedSimpArgs false

/-- The frames that bytes begin with, what is left, the error. -/
def allS : Nat → List Int → List S38 × List Int × Int
  | 0, _ => ([], [], 0)
  | k + 1, b =>
    if (readS b).2.2.2 = 0 then ((⟨(readS b).1, (readS b).2.1⟩ : S38) :: (allS k (b.drop (readS b).2.2.1.toNat)).1, (allS k (b.drop (readS b).2.2.1.toNat)).2)
    else if (readS b).2.2.2 = 3 then ([], b, 0) else ([], [], (readS b).2.2.2)
theorem bt_drop {b : List Int} (h : Bytes b) (n : Nat) : Bytes (b.drop n) := fun x hx => h x (List.mem_of_mem_drop hx)
theorem bt_take {b : List Int} (h : Bytes b) (n : Nat) : Bytes (b.take n) := fun x hx => h x (List.mem_of_mem_take hx)
theorem bt_append {b c : List Int} (h : Bytes b) (h2 : Bytes c) : Bytes (b ++ c) := fun x hx => (List.mem_append.1 hx).elim (h x) (h2 x)
theorem bt_left {b c : List Int} (h : Bytes (b ++ c)) : Bytes b := fun x hx => h x (List.mem_append_left _ hx)
theorem bt_right {b c : List Int} (h : Bytes (b ++ c)) : Bytes c := fun x hx => h x (List.mem_append_right _ hx)
/-- A frame that is read: its kind, its body, and how many bytes. -/
theorem readS_ok {b : List Int} (hb : Bytes b) (h : (readS b).2.2.2 = 0) : ∃ x y c t n, b = x :: y :: c :: t ∧ n = 256 * x + y ∧ 1 ≤ n ∧ n ≤ 301 ∧ n ≤ t.length + 1 ∧ c ≠ 0 ∧ readS b = (c, t.take (n - 1).toNat, 2 + n, 0) := by
  match b, hb, h with
  | [], _, h => simp [readS] at h
  | [x], _, h => simp [readS] at h
  | x :: y :: r, hb, h =>
    have hx := hb x (by simp)
    have hy := hb y (by simp)
    rw [readS_two] at h ⊢
    unfold lenS at h ⊢
    obtain ⟨n, hn⟩ : ∃ n, 256 * x + y = n := ⟨_, rfl⟩
    rw [hn] at h ⊢
    by_cases c0 : n = 0
    · rw [if_pos c0] at h; simp at h
    · rw [if_neg c0] at h ⊢
      by_cases c1 : n > 301
      · rw [if_pos c1] at h; simp at h
      · rw [if_neg c1] at h ⊢
        by_cases c2 : (r.length : Int) < n
        · rw [if_pos c2] at h; simp at h
        · rw [if_neg c2] at h ⊢
          match r, c2, h with
          | [], c2, h => simp [bodyS] at h
          | c :: t, c2, h =>
            unfold bodyS at h ⊢
            by_cases c3 : c = 0
            · simp only [if_pos c3] at h; simp at h
            · simp only [if_neg c3]
              exact ⟨x, y, c, t, n, rfl, hn.symm, by omega, by omega, by simp at c2; omega, c3, rfl⟩
theorem readS_n {b : List Int} (hb : Bytes b) (h : (readS b).2.2.2 = 0) : 3 ≤ (readS b).2.2.1 ∧ (readS b).2.2.1 ≤ b.length := by
  obtain ⟨x, y, c, t, n, rfl, _, h1, h2, h3, _, he⟩ := readS_ok hb h
  rw [he]
  simp only [List.length_cons]
  omega
theorem allS_fuel {k k2 : Nat} {b : List Int} (hb : Bytes b) (h : b.length < k) (h2 : b.length < k2) : allS k b = allS k2 b := by
  induction k generalizing k2 b with
  | zero => omega
  | succ k ih =>
    cases k2 with
    | zero => omega
    | succ k2 =>
      unfold allS
      by_cases c : (readS b).2.2.2 = 0
      · have hn := readS_n hb c
        rw [if_pos c, if_pos c, ih (k2 := k2) (bt_drop hb _) (by rw [List.length_drop]; omega) (by rw [List.length_drop]; omega)]
      · rw [if_neg c, if_neg c]
/-- All frames of bytes. -/
def framesS (b : List Int) : List S38 × List Int × Int := allS (b.length + 1) b
/-- What a decoder does. -/
def feedS (b : List Int) (e : Int) (l : List Int) : List S38 × List Int × Int := if e = 0 then framesS (b ++ l) else ([], b, e)
theorem framesS_step {b : List Int} (hb : Bytes b) : framesS b =
    if (readS b).2.2.2 = 0 then ((⟨(readS b).1, (readS b).2.1⟩ : S38) :: (framesS (b.drop (readS b).2.2.1.toNat)).1, (framesS (b.drop (readS b).2.2.1.toNat)).2)
    else if (readS b).2.2.2 = 3 then ([], b, 0) else ([], [], (readS b).2.2.2) := by
  unfold framesS
  rw [show allS (b.length + 1) b = _ from rfl, allS]
  by_cases c : (readS b).2.2.2 = 0
  · have hn := readS_n hb c
    rw [if_pos c, if_pos c, allS_fuel (bt_drop hb _) (k := b.length) (k2 := (b.drop (readS b).2.2.1.toNat).length + 1) (by rw [List.length_drop]; omega) (by omega)]
  · rw [if_neg c, if_neg c]
end Go.Proofs.Ytagmefjpnmjcjab.Fh
