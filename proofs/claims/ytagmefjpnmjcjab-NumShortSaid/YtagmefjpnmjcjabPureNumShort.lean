/- The plain law of NumShort: bytes that were cut off, anywhere, are ErrShort; at any number, text and cut. -/
import Derived.Test.YtagmefjpnmjcjabNux7
import Derived.Test.YtagmefjpnmjcjabNumText
namespace Go.Proofs.Ytagmefjpnmjcjab.Pure
open Go.RowKit Go.Proofs.Ytagmefjpnmjcjab.Nu Go.Proofs.Ytagmefjpnmjcjab.Num Go.Proofs.YtagmefjpnmjcjabW.PrintWords Go.Proofs.YtagmefjpnmjcjabW.PrintLast Go.Proofs.YtagmefjpnmjcjabW.PrintMore

theorem told_short : ((some ((⟨#[]⟩ : ByteArray), ([] : List Int), (3 : Int))).bind fun bt336 => (if bt336.1.toList = ([] : List UInt8) then (if (bt336.2.1.length : Int) = 0 then (some (bt336.2.2 == 3)) else (some false)) else (some false))) = some true := by
  have ht : (⟨#[]⟩ : ByteArray).toList = ([] : List UInt8) := by kernel_rfl
  simp only [Option.bind_some]
  rw [if_pos ht]
  rfl
theorem short2 (k : Nat) (s : ByteArray) (cut : Int) (hs : s.size ≤ 1000) (hc : 0 ≤ cut) (hk : 3000 ≤ k) : signalmanlaw01_NumShort.j2 (k + 1) s cut = some true := by
  have hlen : (be 2 (s.size : Int)).length = 2 := be_length _ _
  have hby := bytesOf_length s
  simp only [signalmanlaw01_NumShort.j2]
  rw [putText_eq k [] s (by omega) (by simp) (by omega)]
  simp only [Option.bind_some, List.nil_append]
  obtain ⟨c, rfl⟩ := Int.eq_ofNat_of_zero_le hc
  by_cases c1 : (c : Int) ≥ ((be 2 (s.size : Int) ++ bytesOf s).length : Int)
  · rw [if_pos c1]
  · have hl : (be 2 (s.size : Int) ++ bytesOf s).length = 2 + s.size := by rw [List.length_append, hlen, hby]
    rw [if_neg c1, if_pos hc, if_pos (by omega), Int.toNat_natCast, takeText_eq k _ (((be_bytes _ _).append (bytesOf_bytes s)).take c) (by rw [List.length_take]; omega) (by omega)]
    have hlt : ((be 2 (s.size : Int) ++ bytesOf s).take c).length = c := by rw [List.length_take]; omega
    by_cases c2 : (c : Int) < 2
    · rw [if_pos (by rw [hlt]; exact c2)]
      exact told_short
    · have et : ((be 2 (s.size : Int) ++ bytesOf s).take c).take 2 = be 2 (s.size : Int) := by
        rw [List.take_take, show min 2 c = 2 by omega]
        exact List.take_left' hlen
      rw [if_neg (by rw [hlt]; exact c2), et, vl_text s (by omega), if_pos (by rw [List.length_drop, hlt]; omega)]
      exact told_short
theorem NumShort : signalmanlaw01_NumShort.Pure := by
  intro size n s cut _ hn _ _
  have hn := u64_range hn
  refine ⟨5001, ?_⟩
  unfold signalmanlaw01_NumShort.f
  rw [awake_eq 5001 (by decide)]
  simp only [Option.bind_some]
  rw [if_pos trivial]
  by_cases c1 : (s.size : Int) > 1000
  · rw [if_pos c1]; rfl
  · rw [if_neg c1]
    by_cases c2 : cut < 0
    · rw [show decide (cut < 0) = true from decide_eq_true c2]; rfl
    · rw [show decide (cut < 0) = false from decide_eq_false c2, show (5001 : Nat) = 5000 + 1 from rfl]
      have go := short2 4998 s cut (by omega) (by omega) (by omega)
      simp only [signalmanlaw01_NumShort.j0]
      rw [if_neg (by simp), put_eq 5000 [] size n hn.1 hn.2 (by simp) (by omega)]
      simp only [Option.bind_some, List.nil_append]
      have skip : ∀ p : List Int, signalmanlaw01_NumShort.j1 5000 size s cut p false = some true := by
        intro p
        rw [show (5000 : Nat) = 4999 + 1 from rfl]
        simp only [signalmanlaw01_NumShort.j1]
        rw [if_neg (by simp)]
        exact go
      by_cases hf : fits size n = true
      · have hf' := (fits_iff size n).1 hf
        rw [if_pos hf]
        simp only
        rw [if_pos trivial]
        have hlen : (be size.toNat n).length = size.toNat := be_length _ _
        by_cases c3 : cut < ((be size.toNat n).length : Int)
        · rw [show decide (cut < ((be size.toNat n).length : Int)) = true from decide_eq_true c3, show (5000 : Nat) = 4999 + 1 from rfl]
          simp only [signalmanlaw01_NumShort.j1]
          have hlt : ((be size.toNat n).take cut.toNat).length = cut.toNat := by rw [List.length_take]; omega
          rw [if_pos trivial, if_pos (by omega), if_pos (by omega), take_eq 4999 _ size ((be_bytes _ _).take _) (by omega) (by omega), if_pos ⟨hf'.1, hf'.2.1⟩, if_pos (by rw [hlt]; omega)]
          simp only [Option.bind_some]
          rw [if_pos trivial, if_pos (by simp), if_pos trivial]
          exact go
        · rw [show decide (cut < ((be size.toNat n).length : Int)) = false from decide_eq_false c3]
          exact skip _
      · rw [if_neg hf]
        simp only
        rw [if_neg (by decide)]
        exact skip _
end Go.Proofs.Ytagmefjpnmjcjab.Pure
