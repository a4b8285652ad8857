/- Cut to what this claim names. -/
import Derived.Test.YtagmefjpnmjcjabQNux2
import Derived.Lib.BitFns
import Derived.Laws.BitsLemmas
/- What the printed functions of the num package compute, in plain words: the bytes of a number, the number of bytes, and that the two are each other's turn. -/
namespace Go.Proofs.Ytagmefjpnmjcjab.FrNum
open Go.RowKit Go.Proofs.Ytagmefjpnmjcjab.Nu Go.Proofs.YtagmefjpnmjcjabW.PrintWords Go.Proofs.YtagmefjpnmjcjabW.PrintLast Go.Proofs.YtagmefjpnmjcjabW.PrintMore

/-- The m bytes of a number, the greatest first. -/
def be : Nat → Int → List Int
  | 0, _ => []
  | m + 1, n => (n / 256 ^ m % 256) :: be m n
/-- The number of bytes, behind a. -/
def vl : Int → List Int → Int
  | a, [] => a
  | a, c :: l => vl (256 * a + c) l
def Bytes (l : List Int) : Prop := ∀ x ∈ l, 0 ≤ x ∧ x < 256

theorem pow_pos' (m : Nat) : (0 : Int) < 256 ^ m := Int.pow_pos (by decide)
theorem be_length (m : Nat) (n : Int) : (be m n).length = m := by
  induction m with
  | zero => rfl
  | succ m ih => simp [be, ih]
theorem vl_acc (l : List Int) : ∀ a, vl a l = a * 256 ^ l.length + vl 0 l := by
  induction l with
  | nil => intro a; simp [vl]
  | cons c l ih =>
    intro a
    simp only [vl, List.length_cons]
    rw [ih (256 * a + c), ih (256 * 0 + c), Int.pow_succ]
    generalize (256 : Int) ^ l.length = P
    generalize vl 0 l = v
    have e : (256 * a + c) * P = a * (P * 256) + c * P := by rw [Int.add_mul, Int.mul_comm 256 a, Int.mul_assoc, Int.mul_comm 256 P]
    rw [e, Int.mul_zero, Int.zero_add, Int.add_assoc]
theorem vl_bound (l : List Int) (h : Bytes l) : 0 ≤ vl 0 l ∧ vl 0 l < 256 ^ l.length := by
  induction l with
  | nil => simp [vl]
  | cons c l ih =>
    have h1 := ih (fun x hx => h x (List.mem_cons_of_mem _ hx))
    have hc := h c List.mem_cons_self
    simp only [vl, List.length_cons]
    rw [vl_acc l, Int.pow_succ]
    have hp := pow_pos' l.length
    revert h1 hp
    generalize (256 : Int) ^ l.length = P
    generalize vl 0 l = v
    intro h1 hp
    have e0 : 256 * 0 + c = c := by omega
    rw [e0]
    have a1 : 0 ≤ c * P := Int.mul_nonneg hc.1 (by omega)
    have a2 : c * P ≤ 255 * P := Int.mul_le_mul_of_nonneg_right (by omega) (by omega)
    omega
theorem be_vl (l : List Int) (h : Bytes l) : ∀ a, be l.length (vl a l) = l := by
  induction l with
  | nil => intro a; rfl
  | cons c l ih =>
    intro a
    have hl : Bytes l := fun x hx => h x (List.mem_cons_of_mem _ hx)
    have hc := h c List.mem_cons_self
    have hb := vl_bound l hl
    simp only [be, vl, List.length_cons]
    rw [ih hl]
    congr 1
    rw [vl_acc l (256 * a + c)]
    have hp := pow_pos' l.length
    revert hb hp
    generalize (256 : Int) ^ l.length = P
    generalize vl 0 l = v
    intro hb hp
    have e : ((256 * a + c) * P + v) / P = 256 * a + c := by
      rw [Int.add_comm, Int.add_mul_ediv_right _ _ (by omega), Int.ediv_eq_zero_of_lt hb.1 hb.2, Int.zero_add]
    rw [e]
    omega

theorem wrap_succ (i : Nat) (h : i < 9223372036854775807) : wrap64 ((i : Int) + 1) = ((i + 1 : Nat) : Int) := by
  unfold wrap64; omega
theorem rd_drop (l : List Int) (i : Nat) (h : i < l.length) : l.drop i = rd l (i : Int) :: l.drop (i + 1) := by
  rw [List.drop_eq_getElem_cons h]
  congr 1
  simp [rd, List.getD, h]
theorem rd_mem (l : List Int) (i : Nat) (h : i < l.length) : rd l (i : Int) ∈ l := by
  simp [rd, List.getD, h]

/-! The same. -/
theorem same_loop (a b : List Int) (hab : a.length = b.length) (ha : a.length < 9223372036854775807) (d : Nat) : ∀ (k i : Nat), i ≤ a.length → a.length - i = d → d < k → signalmanref01_Same.l0 k a b (i : Int) = some (decide (a.drop i = b.drop i)) := by
  induction d with
  | zero =>
    intro k i h1 hd hk
    obtain ⟨k, rfl⟩ : ∃ m, k = m + 1 := ⟨k - 1, by omega⟩
    have e1 : a.drop i = [] := List.drop_eq_nil_of_le (by omega)
    have e2 : b.drop i = [] := List.drop_eq_nil_of_le (by omega)
    simp only [signalmanref01_Same.l0]
    rw [if_neg (by omega), e1, e2]; rfl
  | succ d ih =>
    intro k i h1 hd hk
    obtain ⟨k, rfl⟩ : ∃ m, k = m + 1 := ⟨k - 1, by omega⟩
    simp only [signalmanref01_Same.l0]
    rw [if_pos (by omega), if_pos (by omega), if_pos (by omega), rd_drop a i (by omega), rd_drop b i (by omega), wrap_succ i (by omega)]
    by_cases e : rd a (i : Int) = rd b (i : Int)
    · rw [if_pos e, ih k (i + 1) (by omega) (by omega) (by omega)]
      congr 1
      rw [decide_eq_decide]
      simp [e]
    · rw [if_neg e]
      congr 1
      symm
      rw [decide_eq_false_iff_not]
      simp [e]
theorem same_eq (k : Nat) (a b : List Int) (ha : a.length < 9223372036854775807) (hk : a.length < k) : signalmanref01_Same.f k a b = some (decide (a = b)) := by
  unfold signalmanref01_Same.f
  by_cases h : a.length = b.length
  · rw [if_pos (by omega)]
    have := same_loop a b h ha a.length k 0 (by omega) (by omega) hk
    simpa using this
  · rw [if_neg (by omega)]
    congr 1
    symm
    rw [decide_eq_false_iff_not]
    intro e
    exact h (by rw [e])

/-! The bits. -/
theorem bitLen_pos (x : Nat) (h0 : 1 ≤ x) (h : x < 2 ^ 64) : 1 ≤ Lib.bitLen x := by
  rw [Lib.bitLen_half x (by omega) h]; omega
theorem bitLen_iff (x s : Nat) (hs : s ≤ 8) (hx : x < 2 ^ 64) : Lib.bitLen x > 8 * s ↔ 256 ^ s ≤ x := by
  have e : (256 : Nat) ^ s = 2 ^ (8 * s) := by rw [Nat.pow_mul]
  rw [e]
  constructor
  · intro h
    rcases Nat.lt_or_ge x (2 ^ (8 * s)) with h1 | h1
    · have := Lib.bitLen_le x (8 * s) (by omega) h1; omega
    · exact h1
  · intro h
    rw [Lib.bitLen_shift (8 * s) x h hx]
    have h2 : 1 ≤ x / 2 ^ (8 * s) := (Nat.le_div_iff_mul_le (Nat.pow_pos (by decide))).2 (by omega)
    have h3 : x / 2 ^ (8 * s) < 2 ^ 64 := Nat.lt_of_le_of_lt (Nat.div_le_self _ _) hx
    have := bitLen_pos _ h2 h3
    omega

def fits (size n : Int) : Bool := decide (1 ≤ size ∧ size ≤ 8 ∧ n < 256 ^ size.toNat)

theorem shr_eq (n : Int) (j : Nat) (hj : j ≤ 7) : shr .u64 n (8 * (j : Int)) = n / 256 ^ j := by
  have h : j = 0 ∨ j = 1 ∨ j = 2 ∨ j = 3 ∨ j = 4 ∨ j = 5 ∨ j = 6 ∨ j = 7 := by omega
  rcases h with rfl | rfl | rfl | rfl | rfl | rfl | rfl | rfl <;> rfl

theorem put_loop (size : Nat) (n : Int) (hs : size ≤ 8) (d : Nat) : ∀ (k i : Nat) (acc : List Int), i ≤ size → size - i = d → d < k → acc.length + d < 140737488355328 →
    num_Put.l0 k (size : Int) n acc (size : Int) (i : Int) = some (acc ++ be d n, 0) := by
  induction d with
  | zero =>
    intro k i acc h1 hd hk ha
    obtain ⟨k, rfl⟩ : ∃ m, k = m + 1 := ⟨k - 1, by omega⟩
    simp only [num_Put.l0]
    rw [if_neg (by omega)]
    simp [be]
  | succ d ih =>
    intro k i acc h1 hd hk ha
    obtain ⟨k, rfl⟩ : ∃ m, k = m + 1 := ⟨k - 1, by omega⟩
    have e1 : wrap64 (8 * wrap64 (wrap64 ((size : Int) - 1) - (i : Int))) = 8 * (d : Int) := by unfold wrap64; omega
    simp only [num_Put.l0, e1]
    rw [if_pos (by omega), if_pos (by omega), if_pos (by omega), wrap_succ i (by omega), shr_eq n d (by omega), ih k (i + 1) _ (by omega) (by omega) (by omega) (by simp; omega)]
    simp [be]
theorem clone_eq (l : List Int) (h : l.length < 140737488355328) : slices_Clone_byte_byte.f l = some l := by
  unfold slices_Clone_byte_byte.f
  simp [h]
theorem sized_eq (size : Int) : num_sized.f size = some (decide (1 ≤ size ∧ size ≤ 8)) := by
  unfold num_sized.f
  by_cases h : size ≥ 1
  · rw [if_pos h]; congr 1; rw [decide_eq_decide]; omega
  · rw [if_neg h]; congr 1; symm; rw [decide_eq_false_iff_not]; omega
theorem len_gt (n : Int) (s : Nat) (hs : s ≤ 8) (hn0 : 0 ≤ n) (hn : n < 18446744073709551616) : (Lib.bitLen n.toNat : Int) > 8 * (s : Int) ↔ ¬ n < 256 ^ s := by
  have hx : n.toNat < 2 ^ 64 := by
    have e : (2 : Nat) ^ 64 = 18446744073709551616 := by decide
    rw [e]; omega
  have hb := bitLen_iff n.toNat s hs hx
  have hc : ((256 ^ s : Nat) : Int) = (256 : Int) ^ s := by simp
  rw [← hc]
  generalize Lib.bitLen n.toNat = b at hb ⊢
  generalize (256 : Nat) ^ s = P at hb ⊢
  omega
theorem put_no (k : Nat) (l : List Int) (size n : Int) (h : ¬ (1 ≤ size ∧ size ≤ 8)) : num_Put.f (k + 1) l size n = some ([], 1) := by
  unfold num_Put.f
  rw [sized_eq]
  simp only [Option.bind_some]
  rw [if_neg (by simpa using h)]
  simp only [num_Put.j0]
  rfl
theorem len_ex (n : Int) (s : Nat) (hs : s ≤ 8) (hn0 : 0 ≤ n) (hn : n ≤ 18446744073709551615) : ∃ b : Int, bits_Len64.f n = some b ∧ (b > 8 * (s : Int) ↔ ¬ n < 256 ^ s) := by
  refine ⟨(Lib.bitLen n.toNat : Int), ?_, len_gt n s hs hn0 (by omega)⟩
  unfold bits_Len64.f
  rw [if_pos hn0, if_pos hn]
theorem put_yes (k : Nat) (l : List Int) (s : Nat) (n : Int) (h : 1 ≤ s ∧ s ≤ 8) (hn0 : 0 ≤ n) (hn : n ≤ 18446744073709551615) (hl : l.length < 140737488355000) (hk : 10 ≤ k) :
    num_Put.f (k + 1) l (s : Int) n = some (if n < 256 ^ s then (l ++ be s n, 0) else ([], 1)) := by
  obtain ⟨b, hlen1, hlen⟩ := len_ex n s h.2 hn0 hn
  have hloop := put_loop s n (by omega) s k 0 l (by omega) (by omega) (by omega) (by omega)
  have e1 : wrap64 (8 * (s : Int)) = 8 * (s : Int) := by unfold wrap64; omega
  unfold num_Put.f
  rw [sized_eq]
  simp only [Option.bind_some]
  rw [if_pos (by simp; omega), hlen1]
  simp only [Option.bind_some]
  rw [e1]
  simp only [num_Put.j0]
  by_cases hf : n < 256 ^ s
  · have hb : ¬ b > 8 * (s : Int) := fun hh => (hlen.1 hh) hf
    rw [if_pos hf, if_neg (by simpa using hb), clone_eq l (by omega)]
    simp only [Option.bind_some]
    exact hloop
  · have hb : b > 8 * (s : Int) := hlen.2 hf
    rw [if_neg hf, if_pos (by simpa using hb)]
theorem put_eq (k : Nat) (l : List Int) (size n : Int) (hn0 : 0 ≤ n) (hn : n ≤ 18446744073709551615) (hl : l.length < 140737488355000) (hk : 11 ≤ k) :
    num_Put.f k l size n = some (if fits size n = true then (l ++ be size.toNat n, 0) else ([], 1)) := by
  obtain ⟨k, rfl⟩ : ∃ m, k = m + 1 := ⟨k - 1, by omega⟩
  by_cases h : 1 ≤ size ∧ size ≤ 8
  · obtain ⟨s, rfl⟩ := Int.eq_ofNat_of_zero_le (show 0 ≤ size by omega)
    rw [put_yes k l s n (by omega) hn0 hn hl (by omega), Int.toNat_natCast]
    have hfit : fits (s : Int) n = decide (n < 256 ^ s) := by
      unfold fits
      rw [decide_eq_decide, Int.toNat_natCast]
      exact ⟨fun x => x.2.2, fun x => ⟨h.1, h.2, x⟩⟩
    rw [hfit]
    by_cases hf : n < 256 ^ s
    · rw [if_pos hf, if_pos (decide_eq_true hf)]
    · rw [if_neg hf, if_neg (by simpa using hf)]
  · rw [put_no k l size n h]
    have hfit : ¬ fits size n = true := by unfold fits; simp; intro a b; omega
    rw [if_neg hfit]
theorem u64_wraps (n : Int) (h0 : 0 ≤ n) (h1 : n < 2 ^ 64) : IntKind.u64.wrap n = n := by
  have e64 : (2 : Int) ^ 64 = 18446744073709551616 := by decide
  rw [e64] at h1
  simp [IntKind.wrap, IntKind.signed, IntKind.bits]
  omega
theorem or_eq (a c : Int) (h0 : 0 ≤ a) (h1 : a < 18446744073709551616) (hm : a % 256 = 0) (c0 : 0 ≤ c) (c1 : c < 256) : Go.bits .or .u64 a c = a + c := by
  have e8 : (2 : Int) ^ 8 = 256 := by decide
  have e64 : (2 : Int) ^ 64 = 18446744073709551616 := by decide
  refine bits_join .u64 64 (by decide) u64_wraps 8 a c h0 ?_ ?_ c0 ?_ ?_
  · rw [e8]; exact hm
  · rw [e64]; exact h1
  · rw [e8]; exact c1
  · rw [e64]; omega
theorem u64_small {n : Int} (h0 : 0 ≤ n) (h1 : n < 18446744073709551616) : IntKind.u64.wrap n = n := by
  simp [IntKind.wrap, IntKind.signed, IntKind.bits]
  omega
theorem pow_le_8 (i : Nat) (hi : i ≤ 7) : (256 : Int) ^ i * 256 ≤ 18446744073709551616 := by
  have h : i = 0 ∨ i = 1 ∨ i = 2 ∨ i = 3 ∨ i = 4 ∨ i = 5 ∨ i = 6 ∨ i = 7 := by omega
  rcases h with rfl | rfl | rfl | rfl | rfl | rfl | rfl | rfl <;> decide
theorem take_loop (l tk : List Int) (size : Nat) (hs : size ≤ 8) (hsl : size ≤ l.length) (htk : tk.length = size) (hb : Bytes tk) (hl : l.length < 140737488355328) (d : Nat) : ∀ (k i : Nat) (acc : Int), i ≤ size → size - i = d → d < k → 0 ≤ acc → acc < 256 ^ i →
    num_Take.l0 k l (size : Int) acc tk (tk.length : Int) (i : Int) = some (vl acc (tk.drop i), l.drop size, 0) := by
  induction d with
  | zero =>
    intro k i acc h1 hd hk h0 ha
    obtain ⟨k, rfl⟩ : ∃ m, k = m + 1 := ⟨k - 1, by omega⟩
    simp only [num_Take.l0]
    rw [if_neg (by omega), if_pos (by omega), if_pos (by omega), Int.toNat_natCast, clone_eq _ (by simp; omega)]
    rw [show tk.drop i = [] from List.drop_eq_nil_of_le (by omega)]
    rfl
  | succ d ih =>
    intro k i acc h1 hd hk h0 ha
    obtain ⟨k, rfl⟩ : ∃ m, k = m + 1 := ⟨k - 1, by omega⟩
    have hp := pow_le_8 i (by omega)
    have hc := hb _ (rd_mem tk i (by omega))
    have hlt : acc * 256 + 256 ≤ 256 ^ i * 256 := by omega
    simp only [num_Take.l0]
    rw [if_pos (by omega), if_pos (by omega), if_pos (by omega), wrap_succ i (by omega), u64_small (n := acc * 256) (by omega) (by omega), u64_small (n := rd tk (i : Int)) hc.1 (by omega),
      or_eq (acc * 256) _ (by omega) (by omega) (by omega) hc.1 hc.2, ih k (i + 1) _ (by omega) (by omega) (by omega) (by omega) (by rw [Int.pow_succ]; omega), rd_drop tk i (by omega)]
    simp only [vl]
    rw [Int.mul_comm acc 256]
theorem take_eq (k : Nat) (l : List Int) (size : Int) (hb : Bytes l) (hl : l.length < 140737488355328) (hk : 11 ≤ k) :
    num_Take.f k l size = some (if 1 ≤ size ∧ size ≤ 8 then (if (l.length : Int) < size then (0, [], 3) else (vl 0 (l.take size.toNat), l.drop size.toNat, 0)) else (0, [], 1)) := by
  unfold num_Take.f
  rw [sized_eq]
  simp only [Option.bind_some]
  by_cases h : 1 ≤ size ∧ size ≤ 8
  · obtain ⟨s, rfl⟩ := Int.eq_ofNat_of_zero_le (show 0 ≤ size by omega)
    rw [if_pos (by simpa using h), if_pos h]
    by_cases h2 : (l.length : Int) < s
    · rw [if_pos h2, if_pos h2]
    · rw [if_neg h2, if_neg h2, if_pos (by omega), if_pos (by omega), Int.toNat_natCast]
      have hlen : (l.take s).length = s := by rw [List.length_take]; omega
      have := take_loop l (l.take s) s (by omega) (by omega) hlen (fun x hx => hb x (List.mem_of_mem_take hx)) hl s k 0 0 (by omega) (by omega) (by omega) (by omega) (by decide)
      rw [show ((0 : Nat) : Int) = 0 from rfl] at this
      rw [this, List.drop_zero]
  · rw [if_neg (by simpa using h), if_neg h]
end Go.Proofs.Ytagmefjpnmjcjab.FrNum
