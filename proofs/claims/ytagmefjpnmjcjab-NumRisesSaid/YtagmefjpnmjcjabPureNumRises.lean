/- The plain law of NumRises: of one size the greater number has the greater bytes, and each has just one row of them; at any two numbers and any size. -/
import Derived.Test.YtagmefjpnmjcjabNux7
import Derived.Test.YtagmefjpnmjcjabNumText
namespace Go.Proofs.Ytagmefjpnmjcjab.Pure
open Go.RowKit Go.Proofs.Ytagmefjpnmjcjab.Nu Go.Proofs.Ytagmefjpnmjcjab.Num Go.Proofs.YtagmefjpnmjcjabW.PrintWords Go.Proofs.YtagmefjpnmjcjabW.PrintLast Go.Proofs.YtagmefjpnmjcjabW.PrintMore

def ltl : List Int → List Int → Bool
  | x :: xs, y :: ys => if x = y then ltl xs ys else decide (x < y)
  | _, _ => false
theorem less_loop (a b : List Int) (hab : a.length = b.length) (ha : a.length < 1000) (d : Nat) : ∀ (k i : Nat), i ≤ a.length → a.length - i = d → 2 * d + 2 ≤ k → signalmanref01_Less.l0 k a b (i : Int) = some (ltl (a.drop i) (b.drop i)) := by
  induction d with
  | zero =>
    intro k i h1 hd hk
    obtain ⟨k, rfl⟩ : ∃ m, k = m + 2 := ⟨k - 2, by omega⟩
    have e1 : a.drop i = [] := List.drop_eq_nil_of_le (by omega)
    simp only [signalmanref01_Less.l0, signalmanref01_Less.j1]
    rw [if_neg (by omega), if_neg (by simp), e1]; rfl
  | succ d ih =>
    intro k i h1 hd hk
    obtain ⟨k, rfl⟩ : ∃ m, k = m + 2 := ⟨k - 2, by omega⟩
    simp only [signalmanref01_Less.l0, signalmanref01_Less.j1]
    rw [if_pos (by omega), if_pos (by simp; omega), if_pos (by omega), if_pos (by omega), if_pos (by omega), rd_drop a i (by omega), rd_drop b i (by omega), wrap_succ i (by omega)]
    by_cases e : rd a (i : Int) = rd b (i : Int)
    · rw [if_pos e, ih k (i + 1) (by omega) (by omega) (by omega)]
      simp [ltl, e]
    · rw [if_neg e]
      simp [ltl, e]
theorem less_eq (k : Nat) (a b : List Int) (hab : a.length = b.length) (ha : a.length < 1000) (hk : 3000 ≤ k) : signalmanref01_Less.f k a b = some (ltl a b) := by
  have := less_loop a b hab ha a.length k 0 (by omega) (by omega) (by omega)
  unfold signalmanref01_Less.f
  simpa using this
theorem ltl_be (m : Nat) (a b : Int) : ltl (be m a) (be m b) = decide (a % 256 ^ m < b % 256 ^ m) := by
  induction m with
  | zero => simp [be, ltl, Int.emod_one]
  | succ m ih =>
    simp only [be, ltl]
    rw [ih, Int.pow_succ, digit a (256 ^ m) (pow_pos' m), digit b (256 ^ m) (pow_pos' m)]
    have ha := Int.emod_lt_of_pos a (pow_pos' m)
    have hb := Int.emod_lt_of_pos b (pow_pos' m)
    have ha0 := Int.emod_nonneg a (show (256 : Int) ^ m ≠ 0 from Int.ne_of_gt (pow_pos' m))
    have hb0 := Int.emod_nonneg b (show (256 : Int) ^ m ≠ 0 from Int.ne_of_gt (pow_pos' m))
    revert ha hb ha0 hb0
    generalize a / 256 ^ m % 256 = x
    generalize b / 256 ^ m % 256 = y
    generalize a % 256 ^ m = u
    generalize b % 256 ^ m = v
    generalize (256 : Int) ^ m = P
    intro ha hb ha0 hb0
    by_cases e : x = y
    · subst e
      rw [if_pos rfl, decide_eq_decide]
      omega
    · rw [if_neg e, decide_eq_decide]
      constructor
      · intro h
        have h1 : (x + 1) * P ≤ y * P := Int.mul_le_mul_of_nonneg_right (by omega) (by omega)
        rw [Int.add_mul, Int.one_mul] at h1
        omega
      · intro h
        rcases Int.lt_or_gt_of_ne e with h1 | h1
        · exact h1
        · have h2 : (y + 1) * P ≤ x * P := Int.mul_le_mul_of_nonneg_right (by omega) (by omega)
          rw [Int.add_mul, Int.one_mul] at h2
          omega
theorem be_inj (m : Nat) (a b : Int) (ha : 0 ≤ a ∧ a < 256 ^ m) (hb : 0 ≤ b ∧ b < 256 ^ m) : be m a = be m b ↔ a = b := by
  constructor
  · intro h
    have h1 := vl_number m a ha.1 ha.2
    rw [h, vl_number m b hb.1 hb.2] at h1
    exact h1.symm
  · intro h; rw [h]
theorem shl_eq (s : Nat) (h : s ≤ 7) : shl .u64 1 (wrap64 (8 * (s : Int))) = 256 ^ s := by
  have h : s = 0 ∨ s = 1 ∨ s = 2 ∨ s = 3 ∨ s = 4 ∨ s = 5 ∨ s = 6 ∨ s = 7 := by omega
  rcases h with rfl | rfl | rfl | rfl | rfl | rfl | rfl | rfl <;> decide +kernel
theorem mx_ge (a b c : Int) (h : c ≤ a ∨ c ≤ b) : mx a b ≥ c := by unfold mx; split <;> omega
theorem rises_no (k : Nat) (size a b : Int) (p q : List Int) (h : ¬ (fits size a = true ∧ fits size b = true)) (ha : 0 ≤ a ∧ a ≤ 18446744073709551615) (hb : 0 ≤ b ∧ b ≤ 18446744073709551615) :
    signalmanlaw01_NumRises.j0 (k + 1) size a b p q true = some true := by
  simp only [signalmanlaw01_NumRises.j0]
  rw [if_pos trivial]
  by_cases c1 : size < 1
  · rw [if_pos c1]
  · rw [if_neg c1]
    by_cases c2 : size > 8
    · rw [if_pos c2]
    · rw [if_neg c2]
      obtain ⟨s, rfl⟩ := Int.eq_ofNat_of_zero_le (show 0 ≤ size by omega)
      have hor : (256 : Int) ^ s ≤ a ∨ (256 : Int) ^ s ≤ b := by
        rw [fits_iff, fits_iff, Int.toNat_natCast] at h
        rcases Int.lt_or_le a (256 ^ s) with h1 | h1
        · rcases Int.lt_or_le b (256 ^ s) with h2 | h2
          · exact absurd ⟨⟨by omega, by omega, h1⟩, ⟨by omega, by omega, h2⟩⟩ h
          · exact .inr h2
        · exact .inl h1
      by_cases c3 : (s : Int) < 8
      · rw [if_pos c3]
        have hm : mx (s : Int) 1 = s := by unfold mx; split <;> omega
        rw [hm, shl_eq s (by omega), if_pos (by unfold wrap64; omega)]
        congr 1
        exact decide_eq_true (mx_ge _ _ _ hor)
      · have : s = 8 := by omega
        subst this
        have e : (256 : Int) ^ 8 = 18446744073709551616 := by decide
        omega
theorem NumRises : signalmanlaw01_NumRises.Pure := by
  intro size a b _ ha hb
  have ha := u64_range ha
  have hb := u64_range hb
  refine ⟨5001, ?_⟩
  unfold signalmanlaw01_NumRises.f
  rw [awake_eq 5001 (by decide)]
  simp only [Option.bind_some]
  rw [if_pos trivial, put_eq 5001 [] size a ha.1 ha.2 (by simp) (by omega), put_eq 5001 [] size b hb.1 hb.2 (by simp) (by omega)]
  simp only [Option.bind_some, List.nil_append]
  by_cases h : fits size a = true ∧ fits size b = true
  · rw [if_pos h.1, if_pos h.2]
    simp only
    rw [if_pos trivial]
    have fa := (fits_iff size a).1 h.1
    have fb := (fits_iff size b).1 h.2
    obtain ⟨s, rfl⟩ := Int.eq_ofNat_of_zero_le (show 0 ≤ size by omega)
    rw [Int.toNat_natCast] at fa fb ⊢
    have la : (be s a).length = s := be_length _ _
    have lb : (be s b).length = s := be_length _ _
    rw [show (5001 : Nat) = 5000 + 1 from rfl]
    simp only [signalmanlaw01_NumRises.j0]
    rw [if_neg (by simp), less_eq 5000 _ _ (by rw [la, lb]) (by omega) (by omega), same_eq 5000 _ _ (by omega) (by omega), ltl_be, Int.emod_eq_of_lt ha.1 fa.2.2, Int.emod_eq_of_lt hb.1 fb.2.2]
    simp only [Option.bind_some]
    rw [if_pos (by simp)]
    congr 1
    rw [beq_iff_eq, Bool.eq_iff_iff, beq_iff_eq, decide_eq_true_eq, be_inj s a b ⟨ha.1, fa.2.2⟩ ⟨hb.1, fb.2.2⟩]
  · have go := fun p q => rises_no 5000 size a b p q h ha hb
    by_cases f1 : fits size a = true
    · have f2 : ¬ fits size b = true := fun f2 => h ⟨f1, f2⟩
      rw [if_pos f1, if_neg f2]
      simp only
      rw [if_pos trivial]
      exact go _ _
    · rw [if_neg f1]
      simp only
      rw [if_neg (by decide)]
      exact go _ _
end Go.Proofs.Ytagmefjpnmjcjab.Pure
