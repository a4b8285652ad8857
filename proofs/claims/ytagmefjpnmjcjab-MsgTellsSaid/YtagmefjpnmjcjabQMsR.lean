/- Cut to what this claim names. -/
import Derived.Test.YtagmefjpnmjcjabQNux4
import Derived.Test.YtagmefjpnmjcjabQMsx7
import Derived.Test.YtagmefjpnmjcjabQMsA
import Derived.Test.YtagmefjpnmjcjabQMsC
import Derived.Test.YtagmefjpnmjcjabQMsx6
import Derived.Test.YtagmefjpnmjcjabQMsx8
/- What the printed functions of the document's numbers compute, in plain words (as the msg laws need them). -/
namespace Go.Proofs.Ytagmefjpnmjcjab.Mh
open Go.RowKit Go.Proofs.Ytagmefjpnmjcjab.Nu Go.Proofs.Ytagmefjpnmjcjab.Ms Go.Proofs.YtagmefjpnmjcjabW.PrintWords Go.Proofs.YtagmefjpnmjcjabW.PrintLast Go.Proofs.YtagmefjpnmjcjabW.PrintMore
open Go.Proofs.Ytagmefjpnmjcjab.FrNum (Bytes be vl fits be_length pow_pos' wrap_succ rd_drop rd_mem u64_small pow_le_8)
set_option linter.unusedVariables false
theorem pow8_le (i : Nat) (hi : i ≤ 8) : (256 : Int) ^ i ≤ 18446744073709551616 := by
  have h : i = 0 ∨ i = 1 ∨ i = 2 ∨ i = 3 ∨ i = 4 ∨ i = 5 ∨ i = 6 ∨ i = 7 ∨ i = 8 := by omega
  rcases h with rfl | rfl | rfl | rfl | rfl | rfl | rfl | rfl | rfl <;> decide
theorem fits_iff (size n : Int) : fits size n = true ↔ 1 ≤ size ∧ size ≤ 8 ∧ n < 256 ^ size.toNat := by unfold fits; rw [decide_eq_true_eq]

theorem be_snoc (m : Nat) : ∀ n : Int, be (m + 1) n = be m (n / 256) ++ [n % 256] := by
  induction m with
  | zero => intro n; simp [be]
  | succ m ih =>
    intro n
    have e1 : be (m + 1 + 1) n = (n / 256 ^ (m + 1) % 256) :: be (m + 1) n := rfl
    have e2 : be (m + 1) (n / 256) = (n / 256 / 256 ^ m % 256) :: be m (n / 256) := rfl
    rw [e1, e2, ih n, Int.ediv_ediv_of_nonneg (by decide), Int.pow_succ, Int.mul_comm 256 (256 ^ m)]
    rfl
theorem top_loop (size : Nat) (hs : size ≤ 7) (d : Nat) : ∀ (k i : Nat), i ≤ size → size - i = d → d < k → signalmanref01_top.l0 k (size : Int) (256 ^ i) (i : Int) = some (256 ^ size) := by
  induction d with
  | zero =>
    intro k i h1 hd hk
    obtain ⟨k, rfl⟩ : ∃ m, k = m + 1 := ⟨k - 1, by omega⟩
    simp only [signalmanref01_top.l0]
    rw [if_neg (by omega), show i = size by omega]
  | succ d ih =>
    intro k i h1 hd hk
    obtain ⟨k, rfl⟩ : ∃ m, k = m + 1 := ⟨k - 1, by omega⟩
    have h8 := pow8_le (i + 1) (by omega)
    have hp := pow_pos' (i + 1)
    have hlt : (256 : Int) ^ (i + 1) < 18446744073709551616 := by
      have h7 : i = 0 ∨ i = 1 ∨ i = 2 ∨ i = 3 ∨ i = 4 ∨ i = 5 ∨ i = 6 := by omega
      rcases h7 with rfl | rfl | rfl | rfl | rfl | rfl | rfl <;> decide
    simp only [signalmanref01_top.l0]
    rw [if_pos (by omega), ← Int.pow_succ, u64_small (by omega) hlt, wrap_succ i (by omega), ih k (i + 1) (by omega) (by omega) (by omega)]
theorem top_eq (k : Nat) (s : Nat) (hs : s ≤ 7) (hk : 9 ≤ k) : signalmanref01_top.f k (s : Int) = some (256 ^ s) := by
  have := top_loop s hs s k 0 (by omega) (by omega) (by omega)
  unfold signalmanref01_top.f
  simpa using this
theorem ref_put_loop (l : List Int) (size : Nat) (hs : size ≤ 8) (hl : l.length < 140737488350000) (d : Nat) : ∀ (k i : Nat) (n : Int) (out : List Int), i ≤ size → size - i = d → d < k → 0 ≤ n → n ≤ 18446744073709551615 → out.length = i →
    signalmanref01_Put.l0 k l (size : Int) n out (i : Int) = some (l ++ (be d n ++ out), 0) := by
  induction d with
  | zero =>
    intro k i n out h1 hd hk h0 hn ho
    obtain ⟨k, rfl⟩ : ∃ m, k = m + 1 := ⟨k - 1, by omega⟩
    simp only [signalmanref01_Put.l0]
    rw [if_neg (by omega)]
    simp only [Option.bind_some, List.nil_append, be]
    rw [if_pos (by simp; omega), if_pos (by omega)]
  | succ d ih =>
    intro k i n out h1 hd hk h0 hn ho
    obtain ⟨k, rfl⟩ : ∃ m, k = m + 1 := ⟨k - 1, by omega⟩
    have e1 : Int.tmod n 256 % 256 = n % 256 := by rw [Int.tmod_eq_emod_of_nonneg h0]; omega
    have e2 : Int.tdiv n 256 = n / 256 := Int.tdiv_eq_ediv_of_nonneg h0
    simp only [signalmanref01_Put.l0, e1, e2]
    rw [if_pos (by omega)]
    simp only [Option.bind_some]
    rw [if_pos (by simp; omega), u64_small (n := n / 256) (by omega) (by omega), wrap_succ i (by omega), ih k (i + 1) (n / 256) _ (by omega) (by omega) (by omega) (by omega) (by omega) (by simp; omega), be_snoc]
    simp
theorem ref_put_no (k : Nat) (l : List Int) (size n : Int) : signalmanref01_Put.j0 (k + 1) l size n true = some ([], 1) := by
  simp only [signalmanref01_Put.j0]
  rfl
theorem ref_put_go (k : Nat) (l : List Int) (s : Nat) (n : Int) (hs : s ≤ 8) (hn0 : 0 ≤ n) (hn : n ≤ 18446744073709551615) (hl : l.length < 140737488350000) (hk : 10 ≤ k) : signalmanref01_Put.j0 (k + 1) l (s : Int) n false = some (l ++ be s n, 0) := by
  have := ref_put_loop l s hs hl s k 0 n [] (by omega) (by omega) (by omega) hn0 hn rfl
  simp only [signalmanref01_Put.j0]
  rw [if_neg (by simp)]
  simpa using this
theorem ref_put_eq (k : Nat) (l : List Int) (size n : Int) (hn0 : 0 ≤ n) (hn : n ≤ 18446744073709551615) (hl : l.length < 140737488350000) (hk : 12 ≤ k) :
    signalmanref01_Put.f k l size n = some (if fits size n = true then (l ++ be size.toNat n, 0) else ([], 1)) := by
  obtain ⟨k, rfl⟩ : ∃ m, k = m + 1 := ⟨k - 1, by omega⟩
  unfold signalmanref01_Put.f
  have hno : ¬ (1 ≤ size ∧ size ≤ 8) → ¬ fits size n = true := fun h hf => h ⟨((fits_iff _ _).1 hf).1, ((fits_iff _ _).1 hf).2.1⟩
  by_cases c1 : size < 1
  · rw [if_pos c1, ref_put_no, if_neg (hno (by omega))]
  · rw [if_neg c1]
    by_cases c2 : size > 8
    · rw [if_pos c2, ref_put_no, if_neg (hno (by omega))]
    · rw [if_neg c2]
      obtain ⟨s, rfl⟩ := Int.eq_ofNat_of_zero_le (show 0 ≤ size by omega)
      by_cases c3 : (s : Int) < 8
      · rw [if_pos c3, top_eq (k + 1) s (by omega) (by omega)]
        simp only [Option.bind_some]
        by_cases c4 : n ≥ 256 ^ s
        · rw [show decide (n ≥ 256 ^ s) = true from decide_eq_true c4, ref_put_no, if_neg (by rw [fits_iff, Int.toNat_natCast]; omega)]
        · rw [show decide (n ≥ 256 ^ s) = false from decide_eq_false c4, ref_put_go k l s n (by omega) hn0 hn hl (by omega), if_pos (by rw [fits_iff, Int.toNat_natCast]; omega), Int.toNat_natCast]
      · rw [if_neg c3, ref_put_go k l s n (by omega) hn0 hn hl (by omega)]
        have h8 : s = 8 := by omega
        subst h8
        have e : (256 : Int) ^ 8 = 18446744073709551616 := by decide
        rw [if_pos (by rw [fits_iff, Int.toNat_natCast]; omega), Int.toNat_natCast]
theorem ref_take_loop (l : List Int) (size : Nat) (hs : size ≤ 8) (hsl : size ≤ l.length) (hb : Bytes l) (hl : l.length < 140737488350000) (d : Nat) : ∀ (k i : Nat) (acc : Int), i ≤ size → size - i = d → d < k → 0 ≤ acc → acc < 256 ^ i →
    signalmanref01_Take.l0 k l (size : Int) acc (i : Int) = some (vl acc ((l.take size).drop i), l.drop size, 0) := by
  have hlen : (l.take size).length = size := by rw [List.length_take]; omega
  induction d with
  | zero =>
    intro k i acc h1 hd hk h0 ha
    obtain ⟨k, rfl⟩ : ∃ m, k = m + 1 := ⟨k - 1, by omega⟩
    simp only [signalmanref01_Take.l0]
    rw [if_neg (by omega)]
    simp only [Option.bind_some, List.nil_append, Int.toNat_natCast]
    rw [if_pos (by omega), if_pos (by omega), if_pos (by simp; omega), show (l.take size).drop i = [] from List.drop_eq_nil_of_le (by omega)]
    rfl
  | succ d ih =>
    intro k i acc h1 hd hk h0 ha
    obtain ⟨k, rfl⟩ : ∃ m, k = m + 1 := ⟨k - 1, by omega⟩
    have hp := pow_le_8 i (by omega)
    have hc := hb _ (rd_mem l i (by omega))
    have hlt : acc * 256 + 256 ≤ 256 ^ i * 256 := by omega
    have hrd : rd (l.take size) (i : Int) = rd l (i : Int) := by
      simp only [rd, Int.toNat_natCast, List.getD]
      rw [List.getElem?_take, if_pos (by omega)]
    simp only [signalmanref01_Take.l0]
    rw [if_pos (by omega), if_pos (by omega), if_pos (by omega), wrap_succ i (by omega), u64_small (n := 256 * acc) (by omega) (by omega), u64_small (n := rd l (i : Int)) hc.1 (by omega), u64_small (n := 256 * acc + rd l (i : Int)) (by omega) (by omega),
      ih k (i + 1) _ (by omega) (by omega) (by omega) (by omega) (by rw [Int.pow_succ]; omega), rd_drop (l.take size) i (by omega), hrd]
    simp only [vl]
theorem ref_take_eq (k : Nat) (l : List Int) (size : Int) (hb : Bytes l) (hl : l.length < 140737488350000) (hk : 12 ≤ k) :
    signalmanref01_Take.f k l size = some (if 1 ≤ size ∧ size ≤ 8 then (if (l.length : Int) < size then (0, [], 3) else (vl 0 (l.take size.toNat), l.drop size.toNat, 0)) else (0, [], 1)) := by
  obtain ⟨k, rfl⟩ : ∃ m, k = m + 1 := ⟨k - 1, by omega⟩
  unfold signalmanref01_Take.f
  have no : ∀ k, signalmanref01_Take.j0 (k + 1) l size true = some (0, [], 1) := fun k => by simp only [signalmanref01_Take.j0]; rfl
  by_cases c1 : size < 1
  · rw [if_pos c1, no, if_neg (by omega)]
  · rw [if_neg c1]
    by_cases c2 : size > 8
    · rw [show decide (size > 8) = true from decide_eq_true c2, no, if_neg (by omega)]
    · rw [show decide (size > 8) = false from decide_eq_false c2, if_pos ⟨by omega, by omega⟩]
      obtain ⟨s, rfl⟩ := Int.eq_ofNat_of_zero_le (show 0 ≤ size by omega)
      simp only [signalmanref01_Take.j0]
      rw [if_neg (by simp)]
      by_cases h2 : (l.length : Int) < s
      · rw [if_pos h2, if_pos h2]
      · rw [if_neg h2, if_neg h2, Int.toNat_natCast]
        have := ref_take_loop l s (by omega) (by omega) hb hl s k 0 0 (by omega) (by omega) (by omega) (by omega) (by decide)
        rw [show ((0 : Nat) : Int) = 0 from rfl] at this
        rw [this, List.drop_zero]
theorem be2 (n : Int) (h0 : 0 ≤ n) (h1 : n ≤ 65535) : be 2 n = [wrap64 (n / 256) % 256, n % 256] := by
  have e : wrap64 (n / 256) = n / 256 := by unfold wrap64; omega
  rw [e]
  simp [be]
theorem ref_putText_eq (l : List Int) (s : ByteArray) (hs : s.size ≤ 65535) (hl : l.length < 140737488200000) : signalmanref01_PutText.f l s = some (l ++ be 2 (s.size : Int) ++ bytesOf s, 0) := by
  have hb := bytesOf_len s
  unfold signalmanref01_PutText.f
  rw [if_neg (by omega), ← be2 (s.size : Int) (by omega) (by omega)]
  have h2 : (be 2 (s.size : Int)).length = 2 := be_length _ _
  simp only [Option.bind_some, List.nil_append, List.length_nil, Nat.zero_add]
  rw [if_pos (by omega), if_pos (by omega), if_pos (by rw [List.length_append]; omega)]
theorem ref_takeText_eq (l : List Int) (hb : Bytes l) (hl : l.length < 140737488350000) :
    signalmanref01_TakeText.f l = some (if (l.length : Int) < 2 then (⟨#[]⟩, [], 3) else if ((l.drop 2).length : Int) < vl 0 (l.take 2) then (⟨#[]⟩, [], 3)
      else (strOfNums ((l.drop 2).take (vl 0 (l.take 2)).toNat), (l.drop 2).drop (vl 0 (l.take 2)).toNat, 0)) := by
  unfold signalmanref01_TakeText.f
  by_cases h : (l.length : Int) < 2
  · rw [if_pos h, if_pos h]
  · rw [if_neg h, if_neg h, if_pos (by omega), if_pos (by omega)]
    match l, h, hb, hl with
    | [], h, _, _ => simp at h
    | [_], h, _, _ => simp at h
    | b0 :: b1 :: t, h, hb, hl =>
      have c0 := hb b0 (by simp)
      have c1 := hb b1 (by simp)
      have r0 : rd (b0 :: b1 :: t) 0 = b0 := rfl
      have r1 : rd (b0 :: b1 :: t) 1 = b1 := rfl
      have ev : vl 0 ((b0 :: b1 :: t).take 2) = 256 * b0 + b1 := by simp [vl]
      have ed : (b0 :: b1 :: t).drop 2 = t := rfl
      have el : (b0 :: b1 :: t).length = t.length + 2 := rfl
      have e1 : wrap64 ((((b0 :: b1 :: t).length : Nat) : Int) - 2) = t.length := by rw [el]; unfold wrap64; omega
      have e2 : wrap64 (wrap64 (256 * wrap64 b0) + wrap64 b1) = 256 * b0 + b1 := by unfold wrap64; omega
      have e3 : wrap64 (2 + (256 * b0 + b1)) = 256 * b0 + b1 + 2 := by unfold wrap64; omega
      rw [r0, r1, ev, ed, e1, e2, e3]
      by_cases h2 : (t.length : Int) < 256 * b0 + b1
      · rw [if_pos h2, if_pos h2]
      · rw [if_neg h2, if_neg h2, if_pos (by omega), if_pos (by rw [el]; omega)]
        simp only [Option.bind_some, List.nil_append, List.length_nil, Nat.zero_add]
        obtain ⟨n, hn⟩ := Int.eq_ofNat_of_zero_le (show 0 ≤ 256 * b0 + b1 by omega)
        have e4 : (256 * b0 + b1 + 2).toNat = n + 2 := by omega
        have e5 : (256 * b0 + b1).toNat = n := by omega
        rw [e4, e5, if_pos (by omega)]
        have ed2 : (b0 :: b1 :: t).drop (n + 2) = t.drop n := rfl
        have et2 : ((b0 :: b1 :: t).take (n + 2)).drop 2 = t.take n := rfl
        rw [ed2, et2, if_pos (by rw [List.length_drop]; simp only [List.length_cons] at hl; omega)]
end Go.Proofs.Ytagmefjpnmjcjab.Mh

/- What the document's messages compute, in plain words: sizes, Right, Frame, Bytes, Same; their contracts with named lengths. -/
namespace Go.Proofs.Ytagmefjpnmjcjab.Mh
open Go.RowKit Go.Proofs.Ytagmefjpnmjcjab.Ms Go.Proofs.YtagmefjpnmjcjabW.PrintWords Go.Proofs.YtagmefjpnmjcjabW.PrintLast Go.Proofs.YtagmefjpnmjcjabW.PrintMore
open Go.Proofs.Ytagmefjpnmjcjab.FrNum (Bytes be vl fits be_length wrap_succ rd_drop rd_mem)
open Go.Proofs.Ytagmefjpnmjcjab.Fh (bytesS refBytes_eq)
set_option linter.unusedVariables false
set_option linter.unusedSimpArgs false
/-- Sizes as the program's numbers. -/
def zI (z : List Nat) : List Int := z.map (fun s : Nat => (s : Int))
theorem zI_length (z : List Nat) : (zI z).length = z.length := by simp [zI]
def refSizes (a : Int) : List Int × Bool := match szS a with
  | none => ([], false)
  | some p => (zI p.1, true)
theorem ref_sizes_eq (k : Nat) (a : Int) (hk : 3 ≤ k) : signalmanref03_sizes.f k a = some (refSizes a) := by
  obtain ⟨k, rfl⟩ : ∃ m, k = m + 3 := ⟨k - 3, by omega⟩
  by_cases h : a < 1 ∨ 15 ≤ a
  · unfold refSizes
    rw [szS_out h]
    unfold signalmanref03_sizes.f
    have e : ∀ c : Int, 1 ≤ c → c ≤ 14 → (a == c) = false := fun c h1 h2 => by rw [beq_eq_false_iff_ne]; omega
    simp only [signalmanref03_sizes.j0, signalmanref03_sizes.j1, signalmanref03_sizes.j2]
    rw [if_neg (by omega), e 4 (by omega) (by omega), e 2 (by omega) (by omega), e 3 (by omega) (by omega), e 5 (by omega) (by omega), e 10 (by omega) (by omega), e 11 (by omega) (by omega), e 6 (by omega) (by omega), e 7 (by omega) (by omega), e 12 (by omega) (by omega), e 14 (by omega) (by omega)]
    have e2 : ∀ c : Int, 1 ≤ c → c ≤ 14 → ¬ a = c := fun c h1 h2 => by omega
    simp only [e2 2 (by omega) (by omega), e2 3 (by omega) (by omega), e2 5 (by omega) (by omega), e2 10 (by omega) (by omega), e2 6 (by omega) (by omega), e2 7 (by omega) (by omega), e2 12 (by omega) (by omega), e2 8 (by omega) (by omega), e2 9 (by omega) (by omega), e2 13 (by omega) (by omega), if_false, Bool.false_eq_true]
  · have hk : a = 1 ∨ a = 2 ∨ a = 3 ∨ a = 4 ∨ a = 5 ∨ a = 6 ∨ a = 7 ∨ a = 8 ∨ a = 9 ∨ a = 10 ∨ a = 11 ∨ a = 12 ∨ a = 13 ∨ a = 14 := by omega
    rcases hk with rfl | rfl | rfl | rfl | rfl | rfl | rfl | rfl | rfl | rfl | rfl | rfl | rfl | rfl <;> rfl
/-- May there be so many texts? -/
def tailS (k : Int) (ts : List ByteArray) : Bool := if k = 6 ∨ k = 12 then decide ((ts.length : Int) ≤ 20) else if k = 1 ∨ k = 2 ∨ k = 9 then (ts.length : Int) == 1 else (ts.length : Int) == 0
theorem ref_tail (k : Nat) (a : Int) (ns : List Int) (ts : List ByteArray) : (if a = 6 then signalmanref03_Right.j3 (k + 2) a (a == 6) a ns ts else signalmanref03_Right.j3 (k + 2) a (a == 12) a ns ts) = some (tailS a ts) := by
  unfold tailS
  simp only [signalmanref03_Right.j3, signalmanref03_Right.j4]
  by_cases h6 : a = 6
  · subst h6; rfl
  rw [if_neg h6]
  by_cases h12 : a = 12
  · subst h12; rfl
  rw [if_neg (by simpa using h12), if_neg (show ¬ (a = 6 ∨ a = 12) by omega)]
  by_cases h1 : a = 1
  · subst h1; rfl
  rw [if_neg h1]
  by_cases h2 : a = 2
  · subst h2; rfl
  rw [if_neg h2]
  by_cases h9 : a = 9
  · subst h9; rfl
  rw [if_neg (by simpa using h9), if_neg (show ¬ (a = 1 ∨ a = 2 ∨ a = 9) by omega)]
theorem ref_right_l1 (a : Int) (ns : List Int) (ts : List ByteArray) (hl : ts.length < 9223372036854775807) (d : Nat) : ∀ (k i : Nat), i ≤ ts.length → ts.length - i = d → d + 3 ≤ k → signalmanref03_Right.l1 k (i : Int) a ns ts = some (!(ts.drop i).any (fun t => decide (200 < t.size)) && tailS a ts) := by
  induction d with
  | zero =>
    intro k i h1 hd hk
    obtain ⟨k, rfl⟩ : ∃ m, k = m + 3 := ⟨k - 3, by omega⟩
    have ht := ref_tail k a ns ts
    rw [show k + 3 = (k + 2) + 1 from rfl]
    rw [signalmanref03_Right.l1, if_neg (by omega), List.drop_eq_nil_of_le (by omega), ht]
    rfl
  | succ d ih =>
    intro k i h1 hd hk
    obtain ⟨k, rfl⟩ : ∃ m, k = m + 1 := ⟨k - 1, by omega⟩
    rw [signalmanref03_Right.l1, if_pos (by omega), if_pos (by omega), rdS_drop ts i (by omega), List.any_cons]
    by_cases e : ((rdOf ByteArray.empty ts (i : Int)).size : Int) > 200
    · rw [if_pos e, decide_eq_true (by omega)]
      rfl
    · rw [if_neg e, wrap_succ i (by omega), ih k (i + 1) (by omega) (by omega) (by omega), decide_eq_false (by omega)]
      rfl
theorem ref_right_l0 (a : Int) (z : List Nat) (ns : List Int) (ts : List ByteArray) (hz : ns.length = z.length) (h3 : z.length ≤ 3) (h0 : ∀ n ∈ ns, 0 ≤ n ∧ n ≤ 18446744073709551615) (hl : ts.length < 9223372036854775807) (d : Nat) : ∀ (k i : Nat), i ≤ z.length → z.length - i = d → d + ts.length + 20 ≤ k → signalmanref03_Right.l0 k (zI z) (i : Int) a ns ts = some (allFit (z.drop i) (ns.drop i) && (!ts.any (fun t => decide (200 < t.size)) && tailS a ts)) := by
  have hzl := zI_length z
  induction d with
  | zero =>
    intro k i h1 hd hk
    obtain ⟨k, rfl⟩ : ∃ m, k = m + 1 := ⟨k - 1, by omega⟩
    rw [signalmanref03_Right.l0, if_neg (by omega), List.drop_eq_nil_of_le (show z.length ≤ i by omega), List.drop_eq_nil_of_le (show ns.length ≤ i by omega)]
    have := ref_right_l1 a ns ts hl ts.length k 0 (by omega) (by omega) (by omega)
    rw [List.drop_zero] at this
    rw [show ((0 : Nat) : Int) = 0 from rfl] at this
    rw [this]
    rfl
  | succ d ih =>
    intro k i h1 hd hk
    obtain ⟨k, rfl⟩ : ∃ m, k = m + 1 := ⟨k - 1, by omega⟩
    have hn := h0 _ (rd_mem ns i (by omega))
    have hr : rd (zI z) (i : Int) = ((z[i]'(by omega) : Nat) : Int) := by
      simp [rd, zI, List.getD, show i < z.length by omega]
    rw [signalmanref03_Right.l0, if_pos (by omega), if_pos (by omega), if_pos (by omega), ref_put_eq k [] _ _ hn.1 hn.2 (by simp) (by omega)]
    rw [List.drop_eq_getElem_cons (show i < z.length by omega), rd_drop ns i (by omega), hr]
    simp only [Option.bind_some, allFit]
    cases hf : fits ((z[i]'(by omega) : Nat) : Int) (rd ns (i : Int)) with
    | false => rfl
    | true =>
      rw [if_pos rfl, if_pos rfl, wrap_succ i (by omega), ih k (i + 1) (by omega) (by omega) (by omega)]
      rfl
theorem right_parts {k : Int} {z : List Nat} {tx : Int} (h : szS k = some (z, tx)) (ts : List ByteArray) : textsOk tx ts = (!ts.any (fun t => decide (200 < t.size)) && tailS k ts) := by
  unfold textsOk tailS
  generalize (!ts.any (fun t => decide (200 < t.size))) = b
  have key : ∀ p q : Bool, p = q → (p && b) = (b && q) := fun p q h => by rw [h, Bool.and_comm]
  apply key
  have h1 : (decide (ts.length ≤ 20) && ((1 : Int) == -1 || (ts.length : Int) == 1)) = ((ts.length : Int) == 1) := by
    rw [Bool.eq_iff_iff]; simp; omega
  have h2 : (decide (ts.length ≤ 20) && ((0 : Int) == -1 || (ts.length : Int) == 0)) = ((ts.length : Int) == 0) := by
    rw [Bool.eq_iff_iff]; simp; intro h; rw [h]; simp
  have h3 : (decide (ts.length ≤ 20) && ((-1 : Int) == -1 || (ts.length : Int) == -1)) = decide ((ts.length : Int) ≤ 20) := by
    rw [Bool.eq_iff_iff]; simp; omega
  rcases szS_range h with rfl | rfl | rfl | rfl | rfl | rfl | rfl | rfl | rfl | rfl | rfl | rfl | rfl | rfl <;> (injection h with h; injection h with h4 h5; subst h4 h5; first | exact h1 | exact h2 | exact h3)
theorem ref_right_eq (k : Nat) (a : Int) (ns : List Int) (ts : List ByteArray) (h0 : ∀ n ∈ ns, 0 ≤ n ∧ n ≤ 18446744073709551615) (hl : ts.length < 9223372036854775807) (hk : ts.length + 40 ≤ k) : signalmanref03_Right.f k a ns ts = some (rightS a ns ts) := by
  obtain ⟨k, rfl⟩ : ∃ m, k = m + 1 := ⟨k - 1, by omega⟩
  unfold signalmanref03_Right.f
  rw [ref_sizes_eq (k + 1) a (by omega)]
  simp only [Option.bind_some]
  unfold refSizes rightS
  cases e : szS a with
  | none =>
    simp only [signalmanref03_Right.j0]
    rfl
  | some p =>
    obtain ⟨z, tx⟩ := p
    have h3 := (szS_cases e).2.1
    simp only [signalmanref03_Right.j0]
    rw [if_pos trivial, right_parts e]
    by_cases hz : ns.length = z.length
    · rw [if_neg (by rw [zI_length]; simp [hz])]
      have := ref_right_l0 a z ns ts hz h3 h0 hl z.length k 0 (by omega) (by omega) (by omega)
      rw [List.drop_zero, List.drop_zero] at this
      exact this
    · rw [if_pos (by rw [zI_length]; simp; omega)]
      cases hf : allFit z ns with
      | false => rfl
      | true => exact absurd (allFit_len hf) hz
theorem ref_frame_l1 (a : Int) (ns : List Int) (ts : List ByteArray) (ha : 0 ≤ a ∧ a < 256) (hl : ts.length ≤ 20) (hs : ∀ t ∈ ts, t.size ≤ 200) (d : Nat) : ∀ (k i : Nat) (out : List Int), i ≤ ts.length → ts.length - i = d → d < k → out.length + d * 202 ≤ 100000 → signalmanref03_Frame.l1 k out (i : Int) a ns ts = some (if (out ++ textsB (ts.drop i)).length > 300 then (0, [], 4) else (a, out ++ textsB (ts.drop i), 0)) := by
  induction d with
  | zero =>
    intro k i out h1 hd hk ho
    obtain ⟨k, rfl⟩ : ∃ m, k = m + 1 := ⟨k - 1, by omega⟩
    rw [signalmanref03_Frame.l1, if_neg (by omega), List.drop_eq_nil_of_le (show ts.length ≤ i by omega)]
    rw [show textsB [] = [] from rfl, List.append_nil]
    by_cases c : out.length > 300
    · rw [if_pos (by omega), if_pos c]
    · rw [if_neg (by omega), if_neg c, show a % 256 = a by omega]
  | succ d ih =>
    intro k i out h1 hd hk ho
    obtain ⟨k, rfl⟩ : ∃ m, k = m + 1 := ⟨k - 1, by omega⟩
    have hd1 := rdS_drop ts i (by omega)
    have hm : rdOf ByteArray.empty ts (i : Int) ∈ ts := List.mem_of_mem_drop (by rw [hd1]; simp)
    have hsz := hs _ hm
    rw [signalmanref03_Frame.l1, if_pos (by omega), if_pos (by omega), ref_putText_eq out _ (by omega) (by omega)]
    simp only [Option.bind_some]
    rw [wrap_succ i (by omega), ih k (i + 1) _ (by omega) (by omega) (by omega) (by rw [List.length_append, List.length_append, be_length, bytesOf_len]; omega), hd1]
    have e : textsB (rdOf ByteArray.empty ts (i : Int) :: ts.drop (i + 1)) = be 2 ((rdOf ByteArray.empty ts (i : Int)).size : Int) ++ bytesOf (rdOf ByteArray.empty ts (i : Int)) ++ textsB (ts.drop (i + 1)) := rfl
    rw [e, ← List.append_assoc, ← List.append_assoc]
theorem ref_frame_l0 (a : Int) (z : List Nat) (ns : List Int) (ts : List ByteArray) (ha : 0 ≤ a ∧ a < 256) (hz : ns.length = z.length) (h3 : z.length ≤ 3) (h8 : ∀ s ∈ z, s = 4 ∨ s = 1) (h0 : ∀ n ∈ ns, 0 ≤ n ∧ n ≤ 18446744073709551615) (hl : ts.length ≤ 20) (hs : ∀ t ∈ ts, t.size ≤ 200) (d : Nat) : ∀ (k i : Nat) (out : List Int), i ≤ z.length → z.length - i = d → d + ts.length + 40 ≤ k → allFit (z.drop i) (ns.drop i) = true → out.length + d * 4 ≤ 1000 → signalmanref03_Frame.l0 k (zI z) out (i : Int) a ns ts = some (if (out ++ (numsB (z.drop i) (ns.drop i) ++ textsB ts)).length > 300 then (0, [], 4) else (a, out ++ (numsB (z.drop i) (ns.drop i) ++ textsB ts), 0)) := by
  have hzl := zI_length z
  induction d with
  | zero =>
    intro k i out h1 hd hk hf ho
    obtain ⟨k, rfl⟩ : ∃ m, k = m + 1 := ⟨k - 1, by omega⟩
    rw [signalmanref03_Frame.l0, if_neg (by omega), List.drop_eq_nil_of_le (show z.length ≤ i by omega), List.drop_eq_nil_of_le (show ns.length ≤ i by omega)]
    have := ref_frame_l1 a ns ts ha hl hs ts.length k 0 out (by omega) (by omega) (by omega) (by omega)
    rw [List.drop_zero] at this
    rw [show ((0 : Nat) : Int) = 0 from rfl] at this
    rw [this, show numsB [] [] = [] from rfl, List.nil_append]
  | succ d ih =>
    intro k i out h1 hd hk hf ho
    obtain ⟨k, rfl⟩ : ∃ m, k = m + 1 := ⟨k - 1, by omega⟩
    have hn := h0 _ (rd_mem ns i (by omega))
    have hzi : z[i]'(by omega) = 4 ∨ z[i]'(by omega) = 1 := h8 _ (List.getElem_mem _)
    have hr : rd (zI z) (i : Int) = ((z[i]'(by omega) : Nat) : Int) := by
      simp [rd, zI, List.getD, show i < z.length by omega]
    rw [List.drop_eq_getElem_cons (show i < z.length by omega), rd_drop ns i (by omega)] at hf ⊢
    simp only [allFit, Bool.and_eq_true] at hf
    rw [signalmanref03_Frame.l0, if_pos (by omega), if_pos (by omega), if_pos (by omega), ref_put_eq k out _ _ hn.1 hn.2 (by omega) (by omega), hr, if_pos hf.1]
    simp only [Option.bind_some, Int.toNat_natCast]
    rw [wrap_succ i (by omega), ih k (i + 1) _ (by omega) (by omega) (by omega) hf.2 (by rw [List.length_append, be_length]; omega)]
    have e : numsB (z[i]'(by omega) :: z.drop (i + 1)) (rd ns (i : Int) :: ns.drop (i + 1)) = be (z[i]'(by omega)) (rd ns (i : Int)) ++ numsB (z.drop (i + 1)) (ns.drop (i + 1)) := rfl
    rw [e, List.append_assoc out, List.append_assoc (be (z[i]'(by omega)) (rd ns (i : Int)))]
theorem ref_frame_eq (k : Nat) (a : Int) (ns : List Int) (ts : List ByteArray) (h0 : ∀ n ∈ ns, 0 ≤ n ∧ n ≤ 18446744073709551615) (hl : ts.length < 9223372036854775807) (hk : ts.length + 60 ≤ k) : signalmanref03_Frame.f k a ns ts = some (frameS a ns ts) := by
  unfold signalmanref03_Frame.f
  rw [ref_right_eq k a ns ts h0 hl (by omega), ref_sizes_eq k a (by omega)]
  simp only [Option.bind_some]
  unfold frameS
  by_cases c : rightS a ns ts = true
  · rw [if_pos c, if_pos c]
    unfold rightS at c
    unfold refSizes bodyM
    cases e : szS a with
    | none => rw [e] at c; cases c
    | some p =>
      obtain ⟨z, tx⟩ := p
      rw [e] at c
      simp only [Bool.and_eq_true] at c ⊢
      have hc := szS_cases e
      have ht := textsOk_small c.2
      have := ref_frame_l0 a z ns ts (by omega) (allFit_len c.1) hc.2.1 hc.2.2.1 h0 ht.1 ht.2 z.length k 0 [] (by omega) (by omega) (by omega) (by simpa using c.1) (by simp; omega)
      simpa using this
  · rw [if_neg c, if_neg c]
theorem ref_bytes_eq (k : Nat) (a : Int) (ns : List Int) (ts : List ByteArray) (h0 : ∀ n ∈ ns, 0 ≤ n ∧ n ≤ 18446744073709551615) (hl : ts.length < 9223372036854775807) (hk : ts.length + 60 ≤ k) : signalmanref03_Bytes.f k a ns ts = some (mbytesS a ns ts) := by
  unfold signalmanref03_Bytes.f
  rw [ref_frame_eq k a ns ts h0 hl hk]
  simp only [Option.bind_some]
  unfold mbytesS
  by_cases c : (frameS a ns ts).2.2 = 0
  · rw [if_pos c, if_pos c, refBytes_eq]
    rfl
  · rw [if_neg c, if_neg c]
theorem ref_same_l1 (x y : Int) (ns ms : List Int) (a b : List ByteArray) (hab : a.length = b.length) (ha : a.length < 9223372036854775807) (d : Nat) : ∀ (k i : Nat), i ≤ a.length → a.length - i = d → d < k → signalmanref03_Same.l1 k (i : Int) x ns a y ms b = some (decide (a.drop i = b.drop i)) := by
  induction d with
  | zero =>
    intro k i h1 hd hk
    obtain ⟨k, rfl⟩ : ∃ m, k = m + 1 := ⟨k - 1, by omega⟩
    rw [signalmanref03_Same.l1, if_neg (by omega), List.drop_eq_nil_of_le (by omega), List.drop_eq_nil_of_le (by omega)]
    rfl
  | succ d ih =>
    intro k i h1 hd hk
    obtain ⟨k, rfl⟩ : ∃ m, k = m + 1 := ⟨k - 1, by omega⟩
    rw [signalmanref03_Same.l1, if_pos (by omega), if_pos (by omega), if_pos (by omega), rdS_drop a i (by omega), rdS_drop b i (by omega)]
    by_cases e : rdOf ByteArray.empty a (i : Int) = rdOf ByteArray.empty b (i : Int)
    · rw [if_pos (by rw [e]), wrap_succ i (by omega), ih k (i + 1) (by omega) (by omega) (by omega)]
      congr 1
      rw [decide_eq_decide, e]
      simp
    · rw [if_neg (fun h => e ((str_eq_iff _ _).1 h))]
      congr 1
      symm
      apply decide_eq_false
      intro h
      injection h with h _
      exact e h
theorem ref_same_l0 (x y : Int) (a b : List Int) (ts us : List ByteArray) (hab : a.length = b.length) (ha : a.length < 9223372036854775807) (htu : ts.length = us.length) (ht : ts.length < 9223372036854775807) (d : Nat) : ∀ (k i : Nat), i ≤ a.length → a.length - i = d → d + ts.length + 1 < k → signalmanref03_Same.l0 k (i : Int) x a ts y b us = some (decide (a.drop i = b.drop i ∧ ts = us)) := by
  induction d with
  | zero =>
    intro k i h1 hd hk
    obtain ⟨k, rfl⟩ : ∃ m, k = m + 1 := ⟨k - 1, by omega⟩
    rw [signalmanref03_Same.l0, if_neg (by omega), List.drop_eq_nil_of_le (show a.length ≤ i by omega), List.drop_eq_nil_of_le (show b.length ≤ i by omega)]
    have := ref_same_l1 x y a b ts us htu ht ts.length k 0 (by omega) (by omega) (by omega)
    rw [List.drop_zero, List.drop_zero] at this
    rw [show ((0 : Nat) : Int) = 0 from rfl] at this
    rw [this]
    simp
  | succ d ih =>
    intro k i h1 hd hk
    obtain ⟨k, rfl⟩ : ∃ m, k = m + 1 := ⟨k - 1, by omega⟩
    rw [signalmanref03_Same.l0, if_pos (by omega), if_pos (by omega), if_pos (by omega), rd_drop a i (by omega), rd_drop b i (by omega), wrap_succ i (by omega)]
    by_cases e : rd a (i : Int) = rd b (i : Int)
    · rw [if_pos e, ih k (i + 1) (by omega) (by omega) (by omega)]
      congr 1
      rw [decide_eq_decide]
      simp [e]
    · rw [if_neg e]
      congr 1
      symm
      rw [decide_eq_false_iff_not]
      simp [e]
theorem ref_same_eq (k : Nat) (x y : Int) (a b : List Int) (ts us : List ByteArray) (ha : a.length < 9223372036854775807) (ht : ts.length < 9223372036854775807) (hk : a.length + ts.length + 2 < k) : signalmanref03_Same.f k x a ts y b us = some (decide (x = y ∧ a = b ∧ ts = us)) := by
  obtain ⟨k, rfl⟩ : ∃ m, k = m + 1 := ⟨k - 1, by omega⟩
  unfold signalmanref03_Same.f
  simp only [signalmanref03_Same.j0]
  by_cases c : x = y
  · rw [if_pos c]
    by_cases c1 : a.length = b.length
    · rw [if_pos (by omega)]
      by_cases c2 : ts.length = us.length
      · rw [if_neg (by simp [c2])]
        have := ref_same_l0 x y a b ts us c1 ha c2 ht a.length k 0 (by omega) (by omega) (by omega)
        rw [List.drop_zero, List.drop_zero] at this
        rw [show ((0 : Nat) : Int) = 0 from rfl] at this
        rw [this]
        simp [c]
      · rw [if_pos (by simp; omega)]
        congr 1
        exact (decide_eq_false (fun h => c2 (by rw [h.2.2]))).symm
    · rw [if_neg (by omega), if_pos trivial]
      congr 1
      exact (decide_eq_false (fun h => c1 (by rw [h.2.1]))).symm
  · rw [if_neg c, if_pos trivial]
    congr 1
    exact (decide_eq_false (fun h => c h.1)).symm
end Go.Proofs.Ytagmefjpnmjcjab.Mh

/- The document's messages: contracts with named lengths; the state of its Of; what its loops keep, plain. -/
namespace Go.Proofs.Ytagmefjpnmjcjab.Mh
open Go.RowKit Go.Proofs.YtagmefjpnmjcjabW.PrintWords Go.Proofs.YtagmefjpnmjcjabW.PrintLast Go.Proofs.YtagmefjpnmjcjabW.PrintMore
open Go.Proofs.Ytagmefjpnmjcjab.Ms
open Go.Proofs.Ytagmefjpnmjcjab.Fr (S41 k41)
open Go.Proofs.Ytagmefjpnmjcjab.FrNum (fits rd_drop be Bytes vl vl_bound)
open Go.Proofs.Ytagmefjpnmjcjab.Fh (T8 T8.of_R T8.same T8.below T8.grown ne_typed T8.slice bt_drop bt_take)
set_option linter.unusedVariables false
set_option linter.unusedSimpArgs false
open Go.Proofs.Ytagmefjpnmjcjab.Fr (k41_mk) in
theorem C41_one {W : World} {g : Nat} {fc : Int} {A : Option Addr} {n c : Nat} {body : List Int} (hn : body.length = n) (hc : n ≤ c) (hC : Kd.C (Kd.int .u8) W A n body) (hb : W.heap[g]? = some (.cells #[.int .u8 fc, .slice A n c] 41 (0, 0))) : Kd.C k41 W (some ⟨g, 0, none⟩) 1 [⟨fc, body⟩] := by
  subst hn
  refine ⟨rfl, by omega, fun _ => ⟨_, rfl, fun j p hj => ?_⟩⟩
  have hj0 : j = 0 := by
    rcases j with _ | j
    · rfl
    · simp at hj
  subst hj0
  obtain rfl : (⟨fc, body⟩ : S41) = p := by simpa using hj
  refine ⟨[.int .u8 fc, .slice A body.length c], rfl, k41_mk W ⟨fc, body⟩ hc hC, fun i u hu => ?_⟩
  rw [show (Addr.add ⟨g, 0, none⟩ (0 * k41.sz + i)) = ⟨g, i, none⟩ by rw [add_at]; simp, blk_cell hb i]
  simpa using hu
theorem RSizes_calls (a : Int) (z : List Int) (r : Bool) (w : World) (h : refSizes a = (z, r)) :
    Calls Try.prog 63 #[.int .i64 a] w fun e w' => ∃ v : Value, e = .returned (.tuple #[v, .bool r]) ∧ Kd.R (Kd.int .i64) 3 w' w.heap.size (fun _ => True) v z ∧ Below w.heap.size w w' :=
  signalmanref03_sizes.calls 3 a z r w (by rw [ref_sizes_eq 3 a (Nat.le_refl _), h])
theorem RTake_calls (A : Option Addr) (n c : Nat) (l : List Int) (hn : l.length = n) (s : Nat) (hs : 1 ≤ s ∧ s ≤ 8) (r1 : Int) (r2 : List Int) (r3 : Int) (w : World) (hC : Kd.C (Kd.int .u8) w A n l) (hc : n ≤ c) (hB : Bytes l) (hl : n ≤ 1000000) (h : num1S s l = (r1, r2, r3)) :
    Calls Try.prog 18 #[.slice A n c, .int .i64 (s : Int)] w fun e w' => ∃ v : Value, e = .returned (.tuple #[.int .u64 r1, v, .int .i64 r3]) ∧ T8 w' v r2 ∧ Below w.heap.size w w' := by
  subst hn
  refine (Go.Proofs.Ytagmefjpnmjcjab.Nu.signalmanref01_Take.calls 12 A c l (s : Int) r1 r2 r3 w hC hc ?_).mono ?_
  · rw [ref_take_eq 12 l (s : Int) hB (by omega) (Nat.le_refl _), if_pos (by omega), ← h]
    unfold num1S
    rw [Int.toNat_natCast]
    by_cases c2 : l.length < s
    · rw [if_pos (by omega), if_pos c2]
    · rw [if_neg (by omega), if_neg c2]
  · rintro e w' ⟨v, rfl, ho, hb⟩
    exact ⟨v, rfl, T8.of_R ho, hb⟩
theorem RTakeText_calls (A : Option Addr) (n c : Nat) (l : List Int) (hn : l.length = n) (r1 : ByteArray) (r2 : List Int) (r3 : Int) (w : World) (hC : Kd.C (Kd.int .u8) w A n l) (hc : n ≤ c) (hB : Bytes l) (hl : n ≤ 1000000) (h : text1S l = (r1, r2, r3)) :
    Calls Try.prog 22 #[.slice A n c] w fun e w' => ∃ v : Value, e = .returned (.tuple #[.string r1, v, .int .i64 r3]) ∧ T8 w' v r2 ∧ Below w.heap.size w w' := by
  subst hn
  refine (Go.Proofs.Ytagmefjpnmjcjab.Ms.signalmanref01_TakeText.calls A c l r1 r2 r3 w hC hc ?_).mono ?_
  · rw [ref_takeText_eq l hB (by omega), ← h]
    unfold text1S text1
    by_cases c2 : l.length < 2
    · rw [if_pos (by omega), if_pos c2]
    · rw [if_neg (by omega), if_neg c2]
      by_cases c3 : ((l.drop 2).length : Int) < vl 0 (l.take 2)
      · rw [if_pos c3, if_pos c3]
      · rw [if_neg c3, if_neg c3]
  · rintro e w' ⟨v, rfl, ho, hb⟩
    exact ⟨v, rfl, T8.of_R ho, hb⟩
theorem RRight_calls (k : Int) (A1 : Option Addr) (n1 c1 : Nat) (ns : List Int) (hn1 : ns.length = n1) (A2 : Option Addr) (n2 c2 : Nat) (ts : List ByteArray) (hn2 : ts.length = n2) (r : Bool) (w : World) (hC1 : Kd.C (Kd.int .u64) w A1 n1 ns) (hc1 : n1 ≤ c1) (hC2 : Kd.C Kd.string w A2 n2 ts) (hc2 : n2 ≤ c2) (hl : n2 ≤ 1000000) (hwf : ∀ n ∈ ns, 0 ≤ n ∧ n ≤ 18446744073709551615) (h : rightS k ns ts = r) :
    Calls Try.prog 47 #[.agg #[.int .i64 k, .slice A1 n1 c1, .slice A2 n2 c2]] w fun e w' => e = .returned (.bool r) ∧ Below w.heap.size w w' := by
  subst hn1 hn2
  exact signalmanref03_Right.calls (ts.length + 40) k A1 c1 ns A2 c2 ts r w hC1 hc1 hC2 hc2 (by rw [ref_right_eq _ k ns ts hwf (by omega) (Nat.le_refl _), h])
theorem RFrame_calls (k : Int) (A1 : Option Addr) (n1 c1 : Nat) (ns : List Int) (hn1 : ns.length = n1) (A2 : Option Addr) (n2 c2 : Nat) (ts : List ByteArray) (hn2 : ts.length = n2) (r1 : Int) (r2 : List Int) (r3 : Int) (w : World) (hC1 : Kd.C (Kd.int .u64) w A1 n1 ns) (hc1 : n1 ≤ c1) (hC2 : Kd.C Kd.string w A2 n2 ts) (hc2 : n2 ≤ c2) (hl : n2 ≤ 1000000) (hwf : ∀ n ∈ ns, 0 ≤ n ∧ n ≤ 18446744073709551615) (h : frameS k ns ts = (r1, r2, r3)) :
    Calls Try.prog 44 #[.agg #[.int .i64 k, .slice A1 n1 c1, .slice A2 n2 c2]] w fun e w' => ∃ v : Value, e = .returned (.tuple #[.agg #[.int .u8 r1, v], .int .i64 r3]) ∧ Kd.R (Kd.int .u8) 5 w' w.heap.size (fun _ => True) v r2 ∧ Below w.heap.size w w' := by
  subst hn1 hn2
  exact signalmanref03_Frame.calls (ts.length + 60) k A1 c1 ns A2 c2 ts r1 r2 r3 w hC1 hc1 hC2 hc2 (by rw [ref_frame_eq _ k ns ts hwf (by omega) (Nat.le_refl _), h])
theorem RBytes_calls (k : Int) (A1 : Option Addr) (n1 c1 : Nat) (ns : List Int) (hn1 : ns.length = n1) (A2 : Option Addr) (n2 c2 : Nat) (ts : List ByteArray) (hn2 : ts.length = n2) (r1 : List Int) (r2 : Int) (w : World) (hC1 : Kd.C (Kd.int .u64) w A1 n1 ns) (hc1 : n1 ≤ c1) (hC2 : Kd.C Kd.string w A2 n2 ts) (hc2 : n2 ≤ c2) (hl : n2 ≤ 1000000) (hwf : ∀ n ∈ ns, 0 ≤ n ∧ n ≤ 18446744073709551615) (h : mbytesS k ns ts = (r1, r2)) :
    Calls Try.prog 45 #[.agg #[.int .i64 k, .slice A1 n1 c1, .slice A2 n2 c2]] w fun e w' => ∃ v : Value, e = .returned (.tuple #[v, .int .i64 r2]) ∧ Kd.R (Kd.int .u8) 5 w' w.heap.size (fun _ => True) v r1 ∧ Below w.heap.size w w' := by
  subst hn1 hn2
  exact signalmanref03_Bytes.calls (ts.length + 60) k A1 c1 ns A2 c2 ts r1 r2 w hC1 hc1 hC2 hc2 (by rw [ref_bytes_eq _ k ns ts hwf (by omega) (Nat.le_refl _), h])
theorem RSame_calls (k : Int) (A1 : Option Addr) (n1 c1 : Nat) (ns : List Int) (hn1 : ns.length = n1) (A2 : Option Addr) (n2 c2 : Nat) (ts : List ByteArray) (hn2 : ts.length = n2) (b : Int) (B1 : Option Addr) (m1 d1 : Nat) (ms : List Int) (hm1 : ms.length = m1) (B2 : Option Addr) (m2 d2 : Nat) (us : List ByteArray) (hm2 : us.length = m2) (r : Bool) (w : World)
    (hC1 : Kd.C (Kd.int .u64) w A1 n1 ns) (hc1 : n1 ≤ c1) (hC2 : Kd.C Kd.string w A2 n2 ts) (hc2 : n2 ≤ c2) (hD1 : Kd.C (Kd.int .u64) w B1 m1 ms) (hd1 : m1 ≤ d1) (hD2 : Kd.C Kd.string w B2 m2 us) (hd2 : m2 ≤ d2) (hl : n1 ≤ 1000000 ∧ n2 ≤ 1000000) (h : decide (k = b ∧ ns = ms ∧ ts = us) = r) :
    Calls Try.prog 48 #[.agg #[.int .i64 k, .slice A1 n1 c1, .slice A2 n2 c2], .agg #[.int .i64 b, .slice B1 m1 d1, .slice B2 m2 d2]] w fun e w' => e = .returned (.bool r) ∧ Below w.heap.size w w' := by
  subst hn1 hn2 hm1 hm2
  exact (signalmanref03_Same.calls (ns.length + ts.length + 3) k A1 c1 ns A2 c2 ts b B1 d1 ms B2 d2 us r w hC1 hc1 hC2 hc2 hD1 hd1 hD2 hd2 (by rw [ref_same_eq _ k b ns ms ts us (by omega) (by omega) (by omega), h])).mono (fun e w' h => ⟨h.1, by first | exact h.2 | exact (Drawn0.below h.2) | exact below_drawn0 h.2⟩)
/-- All that the document's Of keeps. -/
structure OfJ (w W : World) (g1 g2 g6 : Nat) (c : Int) (vf : Value) (body : List Int) (v1 v2 vz vr : Value) (z : List Int) (rest ns : List Int) (ts : List ByteArray) : Prop where
  x1 : W.heap[g1]? = some (.cells #[.int .u8 c, vf] 41 (0, 0))
  x2 : W.heap[g2]? = some (.cells #[.int .i64 0, .slice none 0 0, .slice none 0 0] 69 (0, 0))
  x6 : W.heap[g6]? = some (.cells #[.int .i64 c, v1, v2] 69 (0, 0))
  tf : TB w W vf body
  rz : Kd.R (Kd.int .i64) 3 W w.heap.size (fun _ => True) vz z
  tb : TB w W vr rest
  r1 : Kd.R (Kd.int .u64) 23 W w.heap.size (fun _ => True) v1 ns
  r2 : Kd.R Kd.string 9 W w.heap.size (fun _ => True) v2 ts
  bel : Below w.heap.size w W
  ge : w.heap.size ≤ g2 ∧ w.heap.size ≤ g6
  ne : g2 ≠ g6
section
variable {w W W' : World} {g1 g2 g6 : Nat} {c : Int} {vf : Value} {body : List Int} {v1 v2 vz vr : Value} {z rest ns : List Int} {ts : List ByteArray}
theorem OfJ.below (h : OfJ w W g1 g2 g6 c vf body v1 v2 vz vr z rest ns ts) (hb : Below W.heap.size W W') : OfJ w W' g1 g2 g6 c vf body v1 v2 vz vr z rest ns ts :=
  ⟨(hb.block g1 (blk_lt h.x1)).trans h.x1, (hb.block g2 (blk_lt h.x2)).trans h.x2, (hb.block g6 (blk_lt h.x6)).trans h.x6, h.tf.below h.bel.size hb, Kd.R_below h.rz hb, h.tb.below h.bel.size hb, Kd.R_below h.r1 hb, Kd.R_below h.r2 hb, below_step h.bel hb, h.ge, h.ne⟩
theorem OfJ.left (h : OfJ w W g1 g2 g6 c vf body v1 v2 vz vr z rest ns ts) {vr2 : Value} {rest2 : List Int} (hT : TB w W vr2 rest2) : OfJ w W g1 g2 g6 c vf body v1 v2 vz vr2 z rest2 ns ts :=
  ⟨h.x1, h.x2, h.x6, h.tf, h.rz, hT, h.r1, h.r2, h.bel, h.ge, h.ne⟩
theorem OfJ.number_x6 (h : OfJ w W g1 g2 g6 c vf body v1 v2 vz vr z rest ns ts) (hg : W.grownBy W' v1.ownBlock) : W'.heap[g6]? = some (.cells #[.int .i64 c, v1, v2] 69 (0, 0)) := blk_grown hg (Kd.R_typed h.r1) h.x6 (by decide)
theorem OfJ.text_x6 (h : OfJ w W g1 g2 g6 c vf body v1 v2 vz vr z rest ns ts) (hg : W.grownBy W' v2.ownBlock) : W'.heap[g6]? = some (.cells #[.int .i64 c, v1, v2] 69 (0, 0)) := blk_grown hg (Kd.R_typed h.r2) h.x6 (by decide)
/-- A number more. -/
theorem OfJ.number (h : OfJ w W g1 g2 g6 c vf body v1 v2 vz vr z rest ns ts) {v3 : Value} {n : Int} (hr : Kd.R (Kd.int .u64) 23 W' w.heap.size (fun _ => True) v3 (ns ++ [n])) (hg : W.grownBy W' v1.ownBlock)
    {W2 : World} (h9 : W2.heap[g6]? = some (.cells #[.int .i64 c, v3, v2] 69 (0, 0))) (s : St W' W2 g6) : OfJ w W2 g1 g2 g6 c vf body v3 v2 vz vr z rest (ns ++ [n]) ts := by
  have ty := Kd.R_typed h.r1
  have y9 := blk_grown hg ty h.x6 (by decide)
  have mv : ∀ {k q : Nat} {cs : Array Value}, W.heap[k]? = some (.cells cs q (0, 0)) → 23 ≠ q → k ≠ g6 → W2.heap[k]? = some (.cells cs q (0, 0)) := fun hk h1' h2 => s.blk (blk_grown hg ty hk h1') h2
  have tb : ∀ {v : Value} {l : List Int}, TB w W v l → TB w W2 v l := fun hT => St_TB s (hT.grown h.bel.size hg (fun k hk cells hc => by obtain ⟨c9, h9⟩ := ty k hk; exact ne_typed h9 hc (by decide) rfl) (Kd.R_base h.r1)) y9 (by decide) h.ge.2
  refine ⟨mv h.x1 (by decide) (ne_tp h.x6 h.x1 (by decide)), mv h.x2 (by decide) h.ne, h9, tb h.tf, ?_, tb h.tb, Kd.R_mono (s.R (Kd.R_types hr y9 (by decide)) (fun k hk => hk.2)) (fun _ _ => trivial), ?_, s.below (h.bel.grown hg h.bel.size (Kd.R_base h.r1)) h.ge.2, h.ge, h.ne⟩
  · have a2 := Kd.R_over' h.rz ty (by decide) hg
    exact Kd.R_mono (s.R (Kd.R_types a2 y9 (by decide)) (fun k hk => hk.2)) (fun _ _ => trivial)
  · have a2 := Kd.R_over' h.r2 ty (by decide) hg
    exact Kd.R_mono (s.R (Kd.R_types a2 y9 (by decide)) (fun k hk => hk.2)) (fun _ _ => trivial)
/-- A text more. -/
theorem OfJ.text (h : OfJ w W g1 g2 g6 c vf body v1 v2 vz vr z rest ns ts) {v3 : Value} {t : ByteArray} (hr : Kd.R Kd.string 9 W' w.heap.size (fun _ => True) v3 (ts ++ [t])) (hg : W.grownBy W' v2.ownBlock)
    {W2 : World} (h9 : W2.heap[g6]? = some (.cells #[.int .i64 c, v1, v3] 69 (0, 0))) (s : St W' W2 g6) : OfJ w W2 g1 g2 g6 c vf body v1 v3 vz vr z rest ns (ts ++ [t]) := by
  have ty := Kd.R_typed h.r2
  have y9 := blk_grown hg ty h.x6 (by decide)
  have mv : ∀ {k q : Nat} {cs : Array Value}, W.heap[k]? = some (.cells cs q (0, 0)) → 9 ≠ q → k ≠ g6 → W2.heap[k]? = some (.cells cs q (0, 0)) := fun hk h1' h2 => s.blk (blk_grown hg ty hk h1') h2
  have tb : ∀ {v : Value} {l : List Int}, TB w W v l → TB w W2 v l := fun hT => St_TB s (hT.grown h.bel.size hg (fun k hk cells hc => by obtain ⟨c9, h9⟩ := ty k hk; exact ne_typed h9 hc (by decide) rfl) (Kd.R_base h.r2)) y9 (by decide) h.ge.2
  refine ⟨mv h.x1 (by decide) (ne_tp h.x6 h.x1 (by decide)), mv h.x2 (by decide) h.ne, h9, tb h.tf, ?_, tb h.tb, ?_, Kd.R_mono (s.R (Kd.R_types hr y9 (by decide)) (fun k hk => hk.2)) (fun _ _ => trivial), s.below (h.bel.grown hg h.bel.size (Kd.R_base h.r2)) h.ge.2, h.ge, h.ne⟩
  · have a2 := Kd.R_over' h.rz ty (by decide) hg
    exact Kd.R_mono (s.R (Kd.R_types a2 y9 (by decide)) (fun k hk => hk.2)) (fun _ _ => trivial)
  · have a2 := Kd.R_over' h.r1 ty (by decide) hg
    exact Kd.R_mono (s.R (Kd.R_types a2 y9 (by decide)) (fun k hk => hk.2)) (fun _ _ => trivial)
end
/-- The document's numbers' loop, behind i of them. -/
structure NumJ (z : List Nat) (body : List Int) (i : Nat) (rest ns : List Int) : Prop where
  len : ns.length = i
  bytes : Bytes rest
  short : rest.length ≤ 2000
  eq : takeN z body = (takeN (z.drop i) rest).map (fun r => (ns ++ r.1, r.2))
  wf : ∀ n ∈ ns, 0 ≤ n ∧ n ≤ 18446744073709551615
theorem NumJ.start (z : List Nat) {body : List Int} (hb : Bytes body) (hl : body.length ≤ 2000) : NumJ z body 0 body [] :=
  ⟨rfl, hb, hl, by cases e : takeN z body with
    | none => simp [e]
    | some p => simp [e], fun n hn => by cases hn⟩
theorem NumJ.step {z : List Nat} {body : List Int} {i : Nat} {rest ns : List Int} (h : NumJ z body i rest ns) (hi : i < z.length) {s : Nat} (hs : z[i] = s) (h8 : 1 ≤ s ∧ s ≤ 8) {r1 : Int} {r2 : List Int} {r3 : Int} (hr : num1S s rest = (r1, r2, r3)) : (r3 = 0 → NumJ z body (i + 1) r2 (ns ++ [r1])) ∧ (r3 ≠ 0 → takeN z body = none) := by
  obtain ⟨h1, h2, h3, k1, k2⟩ := h
  have hd : z.drop i = s :: z.drop (i + 1) := by rw [List.drop_eq_getElem_cons hi, hs]
  unfold num1S at hr
  by_cases cs : rest.length < s
  · rw [if_pos cs] at hr
    injection hr with e1 hr
    injection hr with e2 e3
    subst e1 e2 e3
    refine ⟨(fun h => by cases h), fun _ => ?_⟩
    rw [k1, hd]
    unfold takeN
    rw [if_pos cs]
    rfl
  · rw [if_neg cs] at hr
    injection hr with e1 hr
    injection hr with e2 e3
    subst e1 e2 e3
    refine ⟨fun _ => ⟨by simp [h1], bt_drop h2 s, (by rw [List.length_drop]; omega), ?_, fun n hn => ?_⟩, fun h => absurd rfl h⟩
    · rw [k1, hd]
      conv => lhs; unfold takeN
      rw [if_neg cs]
      cases takeN (z.drop (i + 1)) (rest.drop s) with
      | none => rfl
      | some p => simp
    · rcases List.mem_append.1 hn with hn | hn
      · exact k2 n hn
      · rw [List.mem_singleton.1 hn]
        have hv := vl_bound (rest.take s) (bt_take h2 s)
        have hl : (rest.take s).length = s := by rw [List.length_take]; omega
        rw [hl] at hv
        have hp := pow8_le s (by omega)
        omega
theorem NumJ.stop {z : List Nat} {body : List Int} {rest ns : List Int} (h : NumJ z body z.length rest ns) : takeN z body = some (ns, rest) := by
  rw [h.eq, List.drop_eq_nil_of_le (Nat.le_refl _)]
  simp [takeN]
/-- The texts' loop. -/
structure TxtJ (R0 : List Int) (rest : List Int) (ts : List ByteArray) : Prop where
  bytes : Bytes rest
  short : rest.length ≤ 2000
  sum : ts.length + rest.length ≤ 2000
  eq : takeT (R0.length + 1) R0 = (takeT (rest.length + 1) rest).map (fun l => ts ++ l)
theorem TxtJ.start {R0 : List Int} (hb : Bytes R0) (hl : R0.length ≤ 2000) : TxtJ R0 R0 [] :=
  ⟨hb, hl, by simp; omega, by cases e : takeT (R0.length + 1) R0 with
    | none => rfl
    | some p => simp⟩
theorem TxtJ.step {R0 : List Int} {rest : List Int} {ts : List ByteArray} (h : TxtJ R0 rest ts) (hn : rest ≠ []) {t : ByteArray} {r2 : List Int} {r3 : Int} (hr : text1S rest = (t, r2, r3)) : (r3 = 0 → TxtJ R0 r2 (ts ++ [t]) ∧ r2.length < rest.length) ∧ (r3 ≠ 0 → takeT (R0.length + 1) R0 = none) := by
  obtain ⟨h1, h2, h3, h6⟩ := h
  have hp : 0 < rest.length := List.length_pos_iff.2 hn
  unfold text1S at hr
  cases e : text1 rest with
  | none =>
    rw [e] at hr
    simp only at hr
    injection hr with e1 hr
    injection hr with e2 e3
    subst e1 e2 e3
    refine ⟨(fun h => by cases h), fun _ => ?_⟩
    rw [h6]
    conv => lhs; arg 2; unfold takeT
    rw [if_neg hn, e]
    rfl
  | some p =>
    obtain ⟨t', r'⟩ := p
    rw [e] at hr
    simp only at hr
    injection hr with e1 hr
    injection hr with e2 e3
    subst e1 e2 e3
    have hlt := text1_lt e
    refine ⟨fun _ => ⟨⟨?_, by omega, (by simp; omega), ?_⟩, hlt⟩, fun h => absurd rfl h⟩
    · have hbk := (text1_back h1 e).1
      intro x hx
      exact h1 x (by rw [← hbk]; exact List.mem_append_right _ hx)
    · rw [h6]
      conv => lhs; arg 2; unfold takeT
      rw [if_neg hn, e]
      simp only
      rw [takeT_fuel rest.length (r'.length + 1) r' hlt (Nat.lt_succ_self _)]
      cases takeT (r'.length + 1) r' with
      | none => rfl
      | some l => simp
theorem TxtJ.stop {R0 : List Int} {ts : List ByteArray} (h : TxtJ R0 [] ts) : takeT (R0.length + 1) R0 = some ts := by
  rw [h.eq]
  simp [takeT]
theorem of_noN {c : Int} {b : List Int} {z : List Nat} {tx : Int} (h : szS c = some (z, tx)) (h2 : takeN z b = none) : ofS c b = ((0, [], []), 2) := by
  unfold ofS
  rw [h]
  simp only
  rw [h2]
  split <;> rfl
theorem of_noT {c : Int} {b : List Int} {z : List Nat} {tx : Int} (h : szS c = some (z, tx)) {ns r : List Int} (h2 : takeN z b = some (ns, r)) (h3 : takeT (r.length + 1) r = none) : ofS c b = ((0, [], []), 2) := by
  unfold ofS
  rw [h]
  simp only
  rw [h2]
  simp only
  rw [h3]
  split <;> rfl
theorem of_end {c : Int} {b : List Int} (hb : Bytes b) {z : List Nat} {tx : Int} (h : szS c = some (z, tx)) {ns r : List Int} (h2 : takeN z b = some (ns, r)) {ts : List ByteArray} (h3 : takeT (r.length + 1) r = some ts) {f0 : Int} {fb : List Int} {fe : Int} (hf : frameS c ns ts = (f0, fb, fe)) : (fe = 0 → f0 = c ∧ fb = b ∧ ofS c b = ((c, ns, ts), 0)) ∧ (fe ≠ 0 → ofS c b = ((0, [], []), 2)) := by
  obtain ⟨h4, _, _⟩ := numsB_takeN hb h2
  have hr : Bytes r := Go.Proofs.Ytagmefjpnmjcjab.Fh.bt_right (by rw [h4]; exact hb)
  have h5 := textsB_takeT hr h3
  have hbody : bodyM c ns ts = b := by unfold bodyM; rw [h]; simp only; rw [h5, h4]
  unfold frameS at hf
  rw [hbody] at hf
  unfold ofS
  rw [h]
  simp only
  rw [h2]
  simp only
  rw [h3]
  simp only
  by_cases c1 : rightS c ns ts = true
  · rw [if_pos c1] at hf ⊢
    by_cases c2 : b.length > 300
    · rw [if_pos c2] at hf ⊢
      injection hf with e1 hf
      injection hf with e2 e3
      subst e1 e2 e3
      exact ⟨(fun h => by cases h), fun _ => rfl⟩
    · rw [if_neg c2] at hf ⊢
      injection hf with e1 hf
      injection hf with e2 e3
      subst e1 e2 e3
      exact ⟨fun _ => ⟨rfl, rfl, rfl⟩, fun h => absurd rfl h⟩
  · rw [if_neg c1] at hf ⊢
    injection hf with e1 hf
    injection hf with e2 e3
    subst e1 e2 e3
    exact ⟨(fun h => by cases h), fun _ => by split <;> rfl⟩
end Go.Proofs.Ytagmefjpnmjcjab.Mh
