/- What the printed functions of the frame package compute, in plain words. -/
import Derived.Test.YtagmefjpnmjcjabFrNum
import Derived.Test.YtagmefjpnmjcjabFrx3
import Derived.Test.YtagmefjpnmjcjabFrx5
import Derived.Test.YtagmefjpnmjcjabFrx4
namespace Go.Proofs.Ytagmefjpnmjcjab.FrNum
open Go.RowKit Go.Proofs.Ytagmefjpnmjcjab.Nu Go.Proofs.Ytagmefjpnmjcjab.Fr Go.Proofs.YtagmefjpnmjcjabW.PrintWords Go.Proofs.YtagmefjpnmjcjabW.PrintLast Go.Proofs.YtagmefjpnmjcjabW.PrintMore
set_option linter.unusedVariables false
set_option linter.unusedSimpArgs false

/-- The kind and the body behind a length `n`. -/
def bodyS (n : Int) (r : List Int) : Int × List Int × Int × Int :=
  match r with
  | [] => (0, [], 0, 3)
  | c :: t => if c = 0 then (0, [], 0, 2) else (c, t.take (n - 1).toNat, 2 + n, 0)
/-- The frame behind a length `n`. -/
def lenS (n : Int) (r : List Int) : Int × List Int × Int × Int :=
  if n = 0 then (0, [], 0, 2) else if n > 301 then (0, [], 0, 4) else if (r.length : Int) < n then (0, [], 0, 3) else bodyS n r
/-- The frame that bytes begin with: kind, body, how many bytes, error. -/
def readS (b : List Int) : Int × List Int × Int × Int :=
  match b with
  | x :: y :: r => lenS (256 * x + y) r
  | _ => (0, [], 0, 3)
theorem readS_two (x y : Int) (r : List Int) : readS (x :: y :: r) = lenS (256 * x + y) r := rfl
theorem wrap64_of {n : Int} (h0 : -1000000000 ≤ n) (h1 : n ≤ 1000000000) : wrap64 n = n := by unfold wrap64; omega
theorem read_eq (k : Nat) (b : List Int) (hb : Bytes b) (hl : b.length ≤ 1000000) (hk : 11 ≤ k) : frame_Read.f k b = some (readS b) := by
  unfold frame_Read.f
  rw [take_eq k b 2 hb (by omega) hk, if_pos (by omega)]
  match b, hb, hl with
  | [], _, _ => rfl
  | [x], _, _ => rfl
  | x :: y :: r, hb, hl =>
    have hx := hb x (by simp)
    have hy := hb y (by simp)
    simp only [List.length_cons] at hl
    rw [if_neg (by simp; omega)]
    have hv : vl 0 ((x :: y :: r).take (2 : Int).toNat) = 256 * x + y := by simp [vl]
    have hd : (x :: y :: r).drop (2 : Int).toNat = r := rfl
    rw [hv, hd]
    obtain ⟨n, hn⟩ : ∃ n, 256 * x + y = n := ⟨_, rfl⟩
    simp only [Option.bind_some, hn]
    rw [readS_two, hn]; unfold lenS
    rw [if_pos trivial]
    by_cases c0 : n = 0
    · rw [if_pos c0, if_pos c0]
    · rw [if_neg c0, if_neg c0]
      by_cases c1 : n > 301
      · rw [if_pos c1, if_pos c1]
      · rw [if_neg c1, if_neg c1, u64_small (by omega) (by omega)]
        by_cases c2 : (r.length : Int) < n
        · rw [if_pos c2, if_pos c2]
        · rw [if_neg c2, if_neg c2]
          cases r with
          | nil => simp at c2; omega
          | cons c t =>
            have hc : rd (c :: t) 0 = c := rfl
            unfold bodyS
            rw [if_pos (by simp only [List.length_cons]; omega), hc]; show _ = some (if c = 0 then (0, [], 0, 2) else (c, t.take (n - 1).toNat, 2 + n, 0))
            by_cases c3 : c = 0
            · simp only [c3, if_true]
            · simp only [if_neg c3]
              rw [if_pos (by omega), if_pos (by omega)]
              obtain ⟨m, hm⟩ : ∃ m : Nat, n.toNat = m + 1 := ⟨n.toNat - 1, by omega⟩
              have hm2 : (n - 1).toNat = m := by omega
              simp only [List.length_cons] at c2 hl
              rw [hm, hm2, List.take_succ_cons, List.drop_one, List.tail_cons, clone_eq _ (by rw [List.length_take]; omega)]
              simp only [Option.bind_some]
              rw [wrap64_of (n := n) (by omega) (by omega), wrap64_of (by omega) (by omega)]
theorem refRead_eq (b : List Int) (hb : Bytes b) (hl : b.length ≤ 1000000) : signalmanref02_Read.f b = some (readS b) := by
  unfold signalmanref02_Read.f
  match b, hb, hl with
  | [], _, _ => rfl
  | [x], _, _ => rfl
  | x :: y :: r, hb, hl =>
    have hx := hb x (by simp)
    have hy := hb y (by simp)
    simp only [List.length_cons] at hl
    rw [if_neg (by simp; omega), if_pos (by simp; omega), if_pos (by simp; omega)]
    have h0 : rd (x :: y :: r) 0 = x := rfl
    have h1 : rd (x :: y :: r) 1 = y := rfl
    have h2 : rd (x :: y :: r) 2 = rd r 0 := rfl
    rw [h0, h1, h2, wrap64_of (n := x) (by omega) (by omega), wrap64_of (n := y) (by omega) (by omega), wrap64_of (n := 256 * x) (by omega) (by omega), wrap64_of (n := 256 * x + y) (by omega) (by omega)]
    rw [readS_two]; unfold lenS
    obtain ⟨n, hn⟩ : ∃ n, 256 * x + y = n := ⟨_, rfl⟩
    rw [hn]
    have hL : wrap64 (((x :: y :: r).length : Int) - 2) = (r.length : Int) := by simp only [List.length_cons]; unfold wrap64; omega
    rw [hL]
    by_cases c0 : n = 0
    · rw [if_pos c0, if_pos c0]
    · rw [if_neg c0, if_neg c0]
      by_cases c1 : n > 301
      · rw [if_pos c1, if_pos c1]
      · rw [if_neg c1, if_neg c1]
        by_cases c2 : (r.length : Int) < n
        · rw [if_pos c2, if_pos c2]
        · rw [if_neg c2, if_neg c2]
          cases r with
          | nil => simp at c2; omega
          | cons c t =>
            have hc : rd (c :: t) 0 = c := rfl
            unfold bodyS
            simp only [List.length_cons] at c2 hl
            rw [if_pos (by simp; omega), hc]
            by_cases c3 : c = 0
            · simp only [c3, if_true]
            · simp only [if_neg c3]
              have hw : wrap64 (2 + n) = 2 + n := wrap64_of (by omega) (by omega)
              rw [hw]
              obtain ⟨m, hm⟩ : ∃ m : Nat, n.toNat = m + 1 := ⟨n.toNat - 1, by omega⟩
              have hm2 : (n - 1).toNat = m := by omega
              have hm3 : (2 + n).toNat = m + 3 := by omega
              simp only [Option.bind_some, hm3, hm2]
              rw [if_pos (by omega), if_pos (by simp only [List.length_cons]; omega)]
              have hcut : ((x :: y :: c :: t).take (m + 3)).drop 3 = t.take m := rfl
              first
                | (rw [hcut, if_pos (by simp [List.length_take]; omega)]; simp)
                | (simp only [hcut]; rw [if_pos (by simp [List.length_take]; omega)]; simp)
end Go.Proofs.Ytagmefjpnmjcjab.FrNum
