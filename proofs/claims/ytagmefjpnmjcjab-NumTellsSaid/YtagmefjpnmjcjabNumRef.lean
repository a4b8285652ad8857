/- What the printed functions of the document's num compute, in plain words: the same as the program's. -/
import Derived.Test.YtagmefjpnmjcjabNux5
import Derived.Test.YtagmefjpnmjcjabNumText
namespace Go.Proofs.Ytagmefjpnmjcjab.Num
open Go.RowKit Go.Proofs.Ytagmefjpnmjcjab.Nu Go.Proofs.YtagmefjpnmjcjabW.PrintWords Go.Proofs.YtagmefjpnmjcjabW.PrintLast Go.Proofs.YtagmefjpnmjcjabW.PrintMore

theorem be_snoc (m : Nat) : ∀ n : Int, be (m + 1) n = be m (n / 256) ++ [n % 256] := by
  induction m with
  | zero => intro n; simp [be]
  | succ m ih =>
    intro n
    have e1 : be (m + 1 + 1) n = (n / 256 ^ (m + 1) % 256) :: be (m + 1) n := rfl
    have e2 : be (m + 1) (n / 256) = (n / 256 / 256 ^ m % 256) :: be m (n / 256) := rfl
    rw [e1, e2, ih n, Int.ediv_ediv_of_nonneg (by decide), Int.pow_succ, Int.mul_comm 256 (256 ^ m)]
    rfl
theorem top_loop (size : Nat) (hs : size ≤ 7) (d : Nat) : ∀ (k i : Nat), i ≤ size → size - i = d → d < k → signalmanref01_top.l0 k (size : Int) (256 ^ i) (i : Int) = some (256 ^ size) := by
  induction d with
  | zero =>
    intro k i h1 hd hk
    obtain ⟨k, rfl⟩ : ∃ m, k = m + 1 := ⟨k - 1, by omega⟩
    simp only [signalmanref01_top.l0]
    rw [if_neg (by omega), show i = size by omega]
  | succ d ih =>
    intro k i h1 hd hk
    obtain ⟨k, rfl⟩ : ∃ m, k = m + 1 := ⟨k - 1, by omega⟩
    have h8 := pow8_le (i + 1) (by omega)
    have hp := pow_pos' (i + 1)
    have hlt : (256 : Int) ^ (i + 1) < 18446744073709551616 := by
      have h7 : i = 0 ∨ i = 1 ∨ i = 2 ∨ i = 3 ∨ i = 4 ∨ i = 5 ∨ i = 6 := by omega
      rcases h7 with rfl | rfl | rfl | rfl | rfl | rfl | rfl <;> decide
    simp only [signalmanref01_top.l0]
    rw [if_pos (by omega), ← Int.pow_succ, u64_small (by omega) hlt, wrap_succ i (by omega), ih k (i + 1) (by omega) (by omega) (by omega)]
theorem top_eq (k : Nat) (s : Nat) (hs : s ≤ 7) (hk : 9 ≤ k) : signalmanref01_top.f k (s : Int) = some (256 ^ s) := by
  have := top_loop s hs s k 0 (by omega) (by omega) (by omega)
  unfold signalmanref01_top.f
  simpa using this
theorem ref_put_loop (l : List Int) (size : Nat) (hs : size ≤ 8) (hl : l.length < 140737488350000) (d : Nat) : ∀ (k i : Nat) (n : Int) (out : List Int), i ≤ size → size - i = d → d < k → 0 ≤ n → n ≤ 18446744073709551615 → out.length = i →
    signalmanref01_Put.l0 k l (size : Int) n out (i : Int) = some (l ++ (be d n ++ out), 0) := by
  induction d with
  | zero =>
    intro k i n out h1 hd hk h0 hn ho
    obtain ⟨k, rfl⟩ : ∃ m, k = m + 1 := ⟨k - 1, by omega⟩
    simp only [signalmanref01_Put.l0]
    rw [if_neg (by omega)]
    simp only [Option.bind_some, List.nil_append, be]
    rw [if_pos (by simp; omega), if_pos (by omega)]
  | succ d ih =>
    intro k i n out h1 hd hk h0 hn ho
    obtain ⟨k, rfl⟩ : ∃ m, k = m + 1 := ⟨k - 1, by omega⟩
    have e1 : Int.tmod n 256 % 256 = n % 256 := by rw [Int.tmod_eq_emod_of_nonneg h0]; omega
    have e2 : Int.tdiv n 256 = n / 256 := Int.tdiv_eq_ediv_of_nonneg h0
    simp only [signalmanref01_Put.l0, e1, e2]
    rw [if_pos (by omega)]
    simp only [Option.bind_some]
    rw [if_pos (by simp; omega), u64_small (n := n / 256) (by omega) (by omega), wrap_succ i (by omega), ih k (i + 1) (n / 256) _ (by omega) (by omega) (by omega) (by omega) (by omega) (by simp; omega), be_snoc]
    simp
theorem ref_put_no (k : Nat) (l : List Int) (size n : Int) : signalmanref01_Put.j0 (k + 1) l size n true = some ([], 1) := by
  simp only [signalmanref01_Put.j0]
  rfl
theorem ref_put_go (k : Nat) (l : List Int) (s : Nat) (n : Int) (hs : s ≤ 8) (hn0 : 0 ≤ n) (hn : n ≤ 18446744073709551615) (hl : l.length < 140737488350000) (hk : 10 ≤ k) : signalmanref01_Put.j0 (k + 1) l (s : Int) n false = some (l ++ be s n, 0) := by
  have := ref_put_loop l s hs hl s k 0 n [] (by omega) (by omega) (by omega) hn0 hn rfl
  simp only [signalmanref01_Put.j0]
  rw [if_neg (by simp)]
  simpa using this
theorem ref_put_eq (k : Nat) (l : List Int) (size n : Int) (hn0 : 0 ≤ n) (hn : n ≤ 18446744073709551615) (hl : l.length < 140737488350000) (hk : 12 ≤ k) :
    signalmanref01_Put.f k l size n = some (if fits size n = true then (l ++ be size.toNat n, 0) else ([], 1)) := by
  obtain ⟨k, rfl⟩ : ∃ m, k = m + 1 := ⟨k - 1, by omega⟩
  unfold signalmanref01_Put.f
  have hno : ¬ (1 ≤ size ∧ size ≤ 8) → ¬ fits size n = true := fun h hf => h ⟨((fits_iff _ _).1 hf).1, ((fits_iff _ _).1 hf).2.1⟩
  by_cases c1 : size < 1
  · rw [if_pos c1, ref_put_no, if_neg (hno (by omega))]
  · rw [if_neg c1]
    by_cases c2 : size > 8
    · rw [if_pos c2, ref_put_no, if_neg (hno (by omega))]
    · rw [if_neg c2]
      obtain ⟨s, rfl⟩ := Int.eq_ofNat_of_zero_le (show 0 ≤ size by omega)
      by_cases c3 : (s : Int) < 8
      · rw [if_pos c3, top_eq (k + 1) s (by omega) (by omega)]
        simp only [Option.bind_some]
        by_cases c4 : n ≥ 256 ^ s
        · rw [show decide (n ≥ 256 ^ s) = true from decide_eq_true c4, ref_put_no, if_neg (by rw [fits_iff, Int.toNat_natCast]; omega)]
        · rw [show decide (n ≥ 256 ^ s) = false from decide_eq_false c4, ref_put_go k l s n (by omega) hn0 hn hl (by omega), if_pos (by rw [fits_iff, Int.toNat_natCast]; omega), Int.toNat_natCast]
      · rw [if_neg c3, ref_put_go k l s n (by omega) hn0 hn hl (by omega)]
        have h8 : s = 8 := by omega
        subst h8
        have e : (256 : Int) ^ 8 = 18446744073709551616 := by decide
        rw [if_pos (by rw [fits_iff, Int.toNat_natCast]; omega), Int.toNat_natCast]
theorem ref_take_loop (l : List Int) (size : Nat) (hs : size ≤ 8) (hsl : size ≤ l.length) (hb : Bytes l) (hl : l.length < 140737488350000) (d : Nat) : ∀ (k i : Nat) (acc : Int), i ≤ size → size - i = d → d < k → 0 ≤ acc → acc < 256 ^ i →
    signalmanref01_Take.l0 k l (size : Int) acc (i : Int) = some (vl acc ((l.take size).drop i), l.drop size, 0) := by
  have hlen : (l.take size).length = size := by rw [List.length_take]; omega
  induction d with
  | zero =>
    intro k i acc h1 hd hk h0 ha
    obtain ⟨k, rfl⟩ : ∃ m, k = m + 1 := ⟨k - 1, by omega⟩
    simp only [signalmanref01_Take.l0]
    rw [if_neg (by omega)]
    simp only [Option.bind_some, List.nil_append, Int.toNat_natCast]
    rw [if_pos (by omega), if_pos (by omega), if_pos (by simp; omega), show (l.take size).drop i = [] from List.drop_eq_nil_of_le (by omega)]
    rfl
  | succ d ih =>
    intro k i acc h1 hd hk h0 ha
    obtain ⟨k, rfl⟩ : ∃ m, k = m + 1 := ⟨k - 1, by omega⟩
    have hp := pow_le_8 i (by omega)
    have hc := hb _ (rd_mem l i (by omega))
    have hlt : acc * 256 + 256 ≤ 256 ^ i * 256 := by omega
    have hrd : rd (l.take size) (i : Int) = rd l (i : Int) := by
      simp only [rd, Int.toNat_natCast, List.getD]
      rw [List.getElem?_take, if_pos (by omega)]
    simp only [signalmanref01_Take.l0]
    rw [if_pos (by omega), if_pos (by omega), if_pos (by omega), wrap_succ i (by omega), u64_small (n := 256 * acc) (by omega) (by omega), u64_small (n := rd l (i : Int)) hc.1 (by omega), u64_small (n := 256 * acc + rd l (i : Int)) (by omega) (by omega),
      ih k (i + 1) _ (by omega) (by omega) (by omega) (by omega) (by rw [Int.pow_succ]; omega), rd_drop (l.take size) i (by omega), hrd]
    simp only [vl]
theorem ref_take_eq (k : Nat) (l : List Int) (size : Int) (hb : Bytes l) (hl : l.length < 140737488350000) (hk : 12 ≤ k) :
    signalmanref01_Take.f k l size = some (if 1 ≤ size ∧ size ≤ 8 then (if (l.length : Int) < size then (0, [], 3) else (vl 0 (l.take size.toNat), l.drop size.toNat, 0)) else (0, [], 1)) := by
  obtain ⟨k, rfl⟩ : ∃ m, k = m + 1 := ⟨k - 1, by omega⟩
  unfold signalmanref01_Take.f
  have no : ∀ k, signalmanref01_Take.j0 (k + 1) l size true = some (0, [], 1) := fun k => by simp only [signalmanref01_Take.j0]; rfl
  by_cases c1 : size < 1
  · rw [if_pos c1, no, if_neg (by omega)]
  · rw [if_neg c1]
    by_cases c2 : size > 8
    · rw [show decide (size > 8) = true from decide_eq_true c2, no, if_neg (by omega)]
    · rw [show decide (size > 8) = false from decide_eq_false c2, if_pos ⟨by omega, by omega⟩]
      obtain ⟨s, rfl⟩ := Int.eq_ofNat_of_zero_le (show 0 ≤ size by omega)
      simp only [signalmanref01_Take.j0]
      rw [if_neg (by simp)]
      by_cases h2 : (l.length : Int) < s
      · rw [if_pos h2, if_pos h2]
      · rw [if_neg h2, if_neg h2, Int.toNat_natCast]
        have := ref_take_loop l s (by omega) (by omega) hb hl s k 0 0 (by omega) (by omega) (by omega) (by omega) (by decide)
        rw [show ((0 : Nat) : Int) = 0 from rfl] at this
        rw [this, List.drop_zero]
theorem be2 (n : Int) (h0 : 0 ≤ n) (h1 : n ≤ 65535) : be 2 n = [wrap64 (n / 256) % 256, n % 256] := by
  have e : wrap64 (n / 256) = n / 256 := by unfold wrap64; omega
  rw [e]
  simp [be]
theorem ref_putText_eq (l : List Int) (s : ByteArray) (hs : s.size ≤ 65535) (hl : l.length < 140737488200000) : signalmanref01_PutText.f l s = some (l ++ be 2 (s.size : Int) ++ bytesOf s, 0) := by
  have hb := bytesOf_length s
  unfold signalmanref01_PutText.f
  rw [if_neg (by omega), ← be2 (s.size : Int) (by omega) (by omega)]
  have h2 : (be 2 (s.size : Int)).length = 2 := be_length _ _
  simp only [Option.bind_some, List.nil_append, List.length_nil, Nat.zero_add]
  rw [if_pos (by omega), if_pos (by omega), if_pos (by rw [List.length_append]; omega)]
theorem ref_takeText_eq (l : List Int) (hb : Bytes l) (hl : l.length < 140737488350000) :
    signalmanref01_TakeText.f l = some (if (l.length : Int) < 2 then (⟨#[]⟩, [], 3) else if ((l.drop 2).length : Int) < vl 0 (l.take 2) then (⟨#[]⟩, [], 3)
      else (strOfNums ((l.drop 2).take (vl 0 (l.take 2)).toNat), (l.drop 2).drop (vl 0 (l.take 2)).toNat, 0)) := by
  unfold signalmanref01_TakeText.f
  by_cases h : (l.length : Int) < 2
  · rw [if_pos h, if_pos h]
  · rw [if_neg h, if_neg h, if_pos (by omega), if_pos (by omega)]
    match l, h, hb, hl with
    | [], h, _, _ => simp at h
    | [_], h, _, _ => simp at h
    | b0 :: b1 :: t, h, hb, hl =>
      have c0 := hb b0 (by simp)
      have c1 := hb b1 (by simp)
      have r0 : rd (b0 :: b1 :: t) 0 = b0 := rfl
      have r1 : rd (b0 :: b1 :: t) 1 = b1 := rfl
      have ev : vl 0 ((b0 :: b1 :: t).take 2) = 256 * b0 + b1 := by simp [vl]
      have ed : (b0 :: b1 :: t).drop 2 = t := rfl
      have el : (b0 :: b1 :: t).length = t.length + 2 := rfl
      have e1 : wrap64 ((((b0 :: b1 :: t).length : Nat) : Int) - 2) = t.length := by rw [el]; unfold wrap64; omega
      have e2 : wrap64 (wrap64 (256 * wrap64 b0) + wrap64 b1) = 256 * b0 + b1 := by unfold wrap64; omega
      have e3 : wrap64 (2 + (256 * b0 + b1)) = 256 * b0 + b1 + 2 := by unfold wrap64; omega
      rw [r0, r1, ev, ed, e1, e2, e3]
      by_cases h2 : (t.length : Int) < 256 * b0 + b1
      · rw [if_pos h2, if_pos h2]
      · rw [if_neg h2, if_neg h2, if_pos (by omega), if_pos (by rw [el]; omega)]
        simp only [Option.bind_some, List.nil_append, List.length_nil, Nat.zero_add]
        obtain ⟨n, hn⟩ := Int.eq_ofNat_of_zero_le (show 0 ≤ 256 * b0 + b1 by omega)
        have e4 : (256 * b0 + b1 + 2).toNat = n + 2 := by omega
        have e5 : (256 * b0 + b1).toNat = n := by omega
        rw [e4, e5, if_pos (by omega)]
        have ed2 : (b0 :: b1 :: t).drop (n + 2) = t.drop n := rfl
        have et2 : ((b0 :: b1 :: t).take (n + 2)).drop 2 = t.take n := rfl
        rw [ed2, et2, if_pos (by rw [List.length_drop]; simp only [List.length_cons] at hl; omega)]
end Go.Proofs.Ytagmefjpnmjcjab.Num
