/- The plain law of NumTells: what the program's num answers is what the document's answers; at any bytes, size, number and text. -/
import Derived.Test.YtagmefjpnmjcjabNux5
import Derived.Test.YtagmefjpnmjcjabNumRef
namespace Go.Proofs.Ytagmefjpnmjcjab.Pure
open Go.RowKit Go.Proofs.Ytagmefjpnmjcjab.Nu Go.Proofs.Ytagmefjpnmjcjab.Num Go.Proofs.YtagmefjpnmjcjabW.PrintWords Go.Proofs.YtagmefjpnmjcjabW.PrintLast Go.Proofs.YtagmefjpnmjcjabW.PrintMore
theorem told (k : Nat) (p : List Int) (hp : p.length < 3000) (hk : 3000 ≤ k) : signalmanref01_Same.f k p p = some true := by
  rw [same_eq k p p (by omega) (by omega)]; simp
theorem NumTells : signalmanlaw01_NumTells.Pure := by
  intro l size n s _ _ hw _ hn _
  have hb := bytes_of_wf hw
  have hn := u64_range hn
  refine ⟨5001, ?_⟩
  unfold signalmanlaw01_NumTells.f
  rw [awake_eq 5001 (by decide)]
  simp only [Option.bind_some]
  rw [if_pos trivial]
  by_cases c1 : (l.length : Int) > 1000
  · rw [if_pos c1]; rfl
  · rw [if_neg c1]
    by_cases c2 : (s.size : Int) > 1000
    · rw [show decide ((s.size : Int) > 1000) = true from decide_eq_true c2]; rfl
    · rw [show decide ((s.size : Int) > 1000) = false from decide_eq_false c2, show (5001 : Nat) = 5000 + 1 from rfl]
      simp only [signalmanlaw01_NumTells.j0]
      rw [if_neg (by simp), put_eq 5000 l size n hn.1 hn.2 (by omega) (by omega), ref_put_eq 5000 l size n hn.1 hn.2 (by omega) (by omega), take_eq 5000 l size hb (by omega) (by omega), ref_take_eq 5000 l size hb (by omega) (by omega),
        putText_eq 5000 l s (by omega) (by omega) (by omega), ref_putText_eq l s (by omega) (by omega), takeText_eq 5000 l hb (by omega) (by omega), ref_takeText_eq l hb (by omega)]
      have g1 : (if fits size n = true then (l ++ be size.toNat n, (0 : Int)) else ([], 1)).1.length < 3000 := by
        split
        · rename_i hf
          have := ((fits_iff size n).1 hf).2.1
          simp only [List.length_append, be_length]; omega
        · simp
      have g2 : (if 1 ≤ size ∧ size ≤ 8 then (if (l.length : Int) < size then ((0 : Int), ([] : List Int), (3 : Int)) else (vl 0 (l.take size.toNat), l.drop size.toNat, 0)) else (0, [], 1)).2.1.length < 3000 := by
        split
        · split
          · simp
          · simp; omega
        · simp
      have g3 : (l ++ be 2 (s.size : Int) ++ bytesOf s, (0 : Int)).1.length < 3000 := by
        have := bytesOf_length s
        simp only [List.length_append, be_length]; omega
      have g4 : (if (l.length : Int) < 2 then ((⟨#[]⟩ : ByteArray), ([] : List Int), (3 : Int)) else if ((l.drop 2).length : Int) < vl 0 (l.take 2) then (⟨#[]⟩, [], 3)
          else (strOfNums ((l.drop 2).take (vl 0 (l.take 2)).toNat), (l.drop 2).drop (vl 0 (l.take 2)).toNat, 0)).2.1.length < 3000 := by
        split
        · simp
        · split
          · simp
          · simp; omega
      revert g1 g2 g3 g4
      generalize (if fits size n = true then (l ++ be size.toNat n, (0 : Int)) else ([], 1)) = p
      generalize (if 1 ≤ size ∧ size ≤ 8 then (if (l.length : Int) < size then ((0 : Int), ([] : List Int), (3 : Int)) else (vl 0 (l.take size.toNat), l.drop size.toNat, 0)) else (0, [], 1)) = q
      generalize (l ++ be 2 (s.size : Int) ++ bytesOf s, (0 : Int)) = u
      generalize (if (l.length : Int) < 2 then ((⟨#[]⟩ : ByteArray), ([] : List Int), (3 : Int)) else if ((l.drop 2).length : Int) < vl 0 (l.take 2) then (⟨#[]⟩, [], 3)
          else (strOfNums ((l.drop 2).take (vl 0 (l.take 2)).toNat), (l.drop 2).drop (vl 0 (l.take 2)).toNat, 0)) = v
      intro g1 g2 g3 g4
      simp only [Option.bind_some]
      rw [told 5000 _ g1 (by omega), told 5000 _ g2 (by omega), told 5000 _ g3 (by omega), told 5000 _ g4 (by omega)]
      simp
end Go.Proofs.Ytagmefjpnmjcjab.Pure
