/- What the printed functions of the num package compute of texts, in plain words; and that all is awake. -/
import Derived.Test.YtagmefjpnmjcjabNumCore
namespace Go.Proofs.Ytagmefjpnmjcjab.Num
open Go.RowKit Go.Proofs.Ytagmefjpnmjcjab.Nu Go.Proofs.YtagmefjpnmjcjabW.PrintWords Go.Proofs.YtagmefjpnmjcjabW.PrintLast Go.Proofs.YtagmefjpnmjcjabW.PrintMore

theorem bytesOf_bytes (s : ByteArray) : Bytes (bytesOf s) := by
  intro x hx
  unfold bytesOf at hx
  obtain ⟨b, _, rfl⟩ := List.mem_map.1 hx
  have := b.toNat_lt
  omega
theorem Bytes.append {a b : List Int} (ha : Bytes a) (hb : Bytes b) : Bytes (a ++ b) := by
  intro x hx
  rcases List.mem_append.1 hx with h | h
  · exact ha x h
  · exact hb x h
theorem Bytes.take {a : List Int} (ha : Bytes a) (n : Nat) : Bytes (a.take n) := fun x hx => ha x (List.mem_of_mem_take hx)
theorem Bytes.drop {a : List Int} (ha : Bytes a) (n : Nat) : Bytes (a.drop n) := fun x hx => ha x (List.mem_of_mem_drop hx)
theorem Bytes.nil : Bytes [] := fun x hx => by cases hx
theorem bytes_of_wf {l : List Int} (h : ∀ x ∈ l, (Lit.int .u8 x).wf = true) : Bytes l := by
  intro x hx
  have := h x hx
  simp [Lit.wf, IntKind.min, IntKind.max, IntKind.signed, IntKind.bits] at this
  omega
theorem str_bytesOf (s : ByteArray) : strOfNums (bytesOf s) = s := by
  apply ByteArray.ext
  apply Array.ext'
  simp only [strOfNums, bytesOf]
  simp [Function.comp_def]
theorem fits2 (n : Nat) (h : n ≤ 65535) : fits 2 (n : Int) = true := by
  unfold fits
  rw [decide_eq_true_eq]
  refine ⟨by decide, by decide, ?_⟩
  show (n : Int) < 256 ^ 2
  have : (256 : Int) ^ 2 = 65536 := by decide
  omega
theorem putText_eq (k : Nat) (l : List Int) (s : ByteArray) (hs : s.size ≤ 65535) (hl : l.length < 140737488200000) (hk : 11 ≤ k) :
    num_PutText.f k l s = some (l ++ be 2 (s.size : Int) ++ bytesOf s, 0) := by
  unfold num_PutText.f
  rw [if_neg (by omega), u64_small (by omega) (by omega), put_eq k l 2 (s.size : Int) (by omega) (by omega) (by omega) hk, if_pos (fits2 s.size hs)]
  simp only [Option.bind_some]
  have e : (2 : Int).toNat = 2 := rfl
  rw [e]
  have hb := be_length 2 (s.size : Int)
  rw [if_pos (by rw [List.length_append, hb]; omega)]
theorem takeText_eq (k : Nat) (l : List Int) (hb : Bytes l) (hl : l.length < 140737488355328) (hk : 11 ≤ k) :
    num_TakeText.f k l = some (if (l.length : Int) < 2 then (⟨#[]⟩, [], 3) else if ((l.drop 2).length : Int) < vl 0 (l.take 2) then (⟨#[]⟩, [], 3)
      else (strOfNums ((l.drop 2).take (vl 0 (l.take 2)).toNat), (l.drop 2).drop (vl 0 (l.take 2)).toNat, 0)) := by
  unfold num_TakeText.f
  rw [take_eq k l 2 hb hl hk, if_pos (by decide)]
  by_cases h : (l.length : Int) < 2
  · rw [if_pos h, if_pos h]
    simp
  · rw [if_neg h, if_neg h]
    have e : (2 : Int).toNat = 2 := rfl
    simp only [Option.bind_some, e]
    have hv := vl_bound (l.take 2) (hb.take 2)
    have hd : (l.drop 2).length = l.length - 2 := List.length_drop
    generalize vl 0 (l.take 2) = v at hv ⊢
    rw [if_pos trivial, u64_small (by omega) (by omega)]
    by_cases h2 : ((l.drop 2).length : Int) < v
    · rw [if_pos h2, if_pos h2]
    · rw [if_neg h2, if_neg h2, if_pos hv.1, if_pos (by omega)]
theorem awake_40 : signalmanlaw01_awake.f 40 = some true := by kernel_rfl
theorem awake_eq (k : Nat) (hk : 40 ≤ k) : signalmanlaw01_awake.f k = some true := at_rounds (g := fun k => signalmanlaw01_awake.f k) (fun k => signalmanlaw01_awake.mono k) hk awake_40
theorem vl_text (s : ByteArray) (hs : s.size ≤ 65535) : vl 0 (be 2 (s.size : Int)) = s.size := by
  rw [vl_be]
  have : (256 : Int) ^ 2 = 65536 := by decide
  omega
theorem vl_number (m : Nat) (n : Int) (h0 : 0 ≤ n) (h1 : n < 256 ^ m) : vl 0 (be m n) = n := by
  rw [vl_be, Int.zero_mul, Int.zero_add]
  exact Int.emod_eq_of_lt h0 h1
theorem fits_vl (l : List Int) (h : Bytes l) (h1 : 1 ≤ l.length) (h8 : l.length ≤ 8) : fits (l.length : Int) (vl 0 l) = true := by
  unfold fits
  rw [decide_eq_true_eq, Int.toNat_natCast]
  exact ⟨by omega, by omega, (vl_bound l h).2⟩
theorem pow8_le (i : Nat) (hi : i ≤ 8) : (256 : Int) ^ i ≤ 18446744073709551616 := by
  have h : i = 0 ∨ i = 1 ∨ i = 2 ∨ i = 3 ∨ i = 4 ∨ i = 5 ∨ i = 6 ∨ i = 7 ∨ i = 8 := by omega
  rcases h with rfl | rfl | rfl | rfl | rfl | rfl | rfl | rfl | rfl <;> decide
theorem u64_range {n : Int} (h : (Lit.int .u64 n).wf = true) : 0 ≤ n ∧ n ≤ 18446744073709551615 := by
  simp [Lit.wf, IntKind.min, IntKind.max, IntKind.signed, IntKind.bits] at h
  omega
theorem fits_iff (size n : Int) : fits size n = true ↔ 1 ≤ size ∧ size ≤ 8 ∧ n < 256 ^ size.toNat := by unfold fits; rw [decide_eq_true_eq]
end Go.Proofs.Ytagmefjpnmjcjab.Num
