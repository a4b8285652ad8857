/- The plain law of NumBack: what was put is taken, whatever is behind, and what is taken, put again, is what it was; at any bytes, size, number and text. -/
import Derived.Test.YtagmefjpnmjcjabNux6
import Derived.Test.YtagmefjpnmjcjabNumText
namespace Go.Proofs.Ytagmefjpnmjcjab.Pure
open Go.RowKit Go.Proofs.Ytagmefjpnmjcjab.Nu Go.Proofs.Ytagmefjpnmjcjab.Num Go.Proofs.YtagmefjpnmjcjabW.PrintWords Go.Proofs.YtagmefjpnmjcjabW.PrintLast

theorem back2 (k : Nat) (l : List Int) (size : Int) (hb : Bytes l) (hl : l.length ≤ 1000) (hk : 2000 ≤ k) : signalmanlaw01_NumBack.j2 (k + 1) l size false = some true := by
  simp only [signalmanlaw01_NumBack.j2]
  rw [if_neg (by simp), take_eq k l size hb (by omega) (by omega)]
  by_cases h : 1 ≤ size ∧ size ≤ 8
  · rw [if_pos h]
    by_cases h2 : (l.length : Int) < size
    · rw [if_pos h2]; rfl
    · rw [if_neg h2]
      obtain ⟨s, rfl⟩ := Int.eq_ofNat_of_zero_le (show 0 ≤ size by omega)
      rw [Int.toNat_natCast]
      simp only [Option.bind_some]
      have hlen : (l.take s).length = s := by rw [List.length_take]; omega
      have hbt := hb.take s
      have hv := vl_bound _ hbt
      have h8 := pow8_le s (by omega)
      rw [hlen] at hv
      have hf : fits (s : Int) (vl 0 (l.take s)) = true := by
        have := fits_vl _ hbt (by omega) (by omega)
        rw [hlen] at this
        exact this
      have hbe : be s (vl 0 (l.take s)) = l.take s := by
        have := be_vl _ hbt 0
        rw [hlen] at this
        exact this
      rw [if_pos trivial, put_eq k [] (s : Int) _ hv.1 (by omega) (by simp) (by omega), if_pos hf, Int.toNat_natCast]
      simp only [Option.bind_some, List.nil_append]
      rw [if_pos trivial, hbe, if_pos (by rw [hlen, List.length_drop]; omega), List.take_append_drop, same_eq k l l (by omega) (by omega)]
      simp
  · rw [if_neg h]; rfl
theorem back1 (k : Nat) (l : List Int) (size : Int) (s : ByteArray) (hb : Bytes l) (hl : l.length ≤ 1000) (hs : s.size ≤ 1000) (hk : 3000 ≤ k) : signalmanlaw01_NumBack.j1 (k + 1) l size s = some true := by
  obtain ⟨k, rfl⟩ : ∃ m, k = m + 1 := ⟨k - 1, by omega⟩
  have hlen : (be 2 (s.size : Int)).length = 2 := be_length _ _
  have hby := bytesOf_length s
  simp only [signalmanlaw01_NumBack.j1]
  rw [putText_eq (k + 1) [] s (by omega) (by simp) (by omega)]
  simp only [Option.bind_some, List.nil_append]
  have e : be 2 (s.size : Int) ++ bytesOf s ++ l = be 2 (s.size : Int) ++ (bytesOf s ++ l) := List.append_assoc _ _ _
  have et : (be 2 (s.size : Int) ++ (bytesOf s ++ l)).take 2 = be 2 (s.size : Int) := List.take_left' hlen
  have ed : (be 2 (s.size : Int) ++ (bytesOf s ++ l)).drop 2 = bytesOf s ++ l := List.drop_left' hlen
  rw [if_pos (by simp only [List.length_append]; omega), e, takeText_eq (k + 1) _ ((be_bytes _ _).append ((bytesOf_bytes s).append hb)) (by simp only [List.length_append]; omega) (by omega), et, ed, vl_text s (by omega),
    if_neg (by simp only [List.length_append]; omega), if_neg (by simp only [List.length_append]; omega), Int.toNat_natCast,
    List.take_left' hby, List.drop_left' hby, str_bytesOf]
  simp only [Option.bind_some]
  rw [if_pos trivial, if_pos trivial, if_pos trivial, same_eq (k + 1) l l (by omega) (by omega)]
  simp only [Option.bind_some]
  have := back2 k l size hb hl (by omega)
  simpa using this
theorem NumBack : signalmanlaw01_NumBack.Pure := by
  intro l size n s _ _ hw _ hn _
  have hb := bytes_of_wf hw
  have hn := u64_range hn
  refine ⟨5000, ?_⟩
  unfold signalmanlaw01_NumBack.f
  rw [awake_eq 5000 (by decide)]
  simp only [Option.bind_some]
  rw [if_pos trivial]
  by_cases c1 : (l.length : Int) > 1000
  · rw [if_pos c1]; rfl
  · rw [if_neg c1]
    by_cases c2 : (s.size : Int) > 1000
    · rw [show decide ((s.size : Int) > 1000) = true from decide_eq_true c2]; rfl
    · rw [show decide ((s.size : Int) > 1000) = false from decide_eq_false c2, show (5000 : Nat) = 4999 + 1 from rfl]
      have hgo := back1 4998 l size s hb (by omega) (by omega) (by omega)
      simp only [signalmanlaw01_NumBack.j0]
      rw [if_neg (by simp), put_eq 4999 [] size n hn.1 hn.2 (by simp) (by omega)]
      simp only [Option.bind_some, List.nil_append]
      by_cases hf : fits size n = true
      · have hf' := (fits_iff size n).1 hf
        obtain ⟨m, rfl⟩ := Int.eq_ofNat_of_zero_le (show 0 ≤ size by omega)
        rw [Int.toNat_natCast] at hf'
        have hlen : (be m n).length = m := be_length _ _
        rw [if_pos hf, Int.toNat_natCast]
        simp only [if_true]
        have h8 : m ≤ 8 := by omega
        rw [if_pos (by rw [hlen]; omega), take_eq 4999 _ (m : Int) ((be_bytes _ _).append hb) (by rw [List.length_append, hlen]; omega) (by omega), if_pos ⟨by omega, by omega⟩, if_neg (by rw [List.length_append, hlen]; omega), Int.toNat_natCast, List.take_left' hlen, List.drop_left' hlen, vl_number m n hn.1 hf'.2.2]
        simp only [Option.bind_some]
        rw [if_pos (by rw [hlen]), if_pos trivial, if_pos trivial, same_eq 4999 l l (by omega) (by omega)]
        simp only [Option.bind_some]
        rw [if_pos (by simp)]
        exact hgo
      · rw [if_neg hf]
        simp only
        rw [if_neg (by decide)]
        exact hgo
end Go.Proofs.Ytagmefjpnmjcjab.Pure
