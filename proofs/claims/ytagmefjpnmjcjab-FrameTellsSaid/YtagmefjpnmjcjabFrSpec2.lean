/- What the printed functions of the frame package and of its document compute, in plain words: bytes, same, frames, all. -/
import Derived.Test.YtagmefjpnmjcjabFrAll
import Derived.Lib.Bytes
namespace Go.Proofs.Ytagmefjpnmjcjab.Fh
open Go.RowKit Go.Proofs.Ytagmefjpnmjcjab.Nu Go.Proofs.Ytagmefjpnmjcjab.Fr Go.Proofs.YtagmefjpnmjcjabW.PrintWords Go.Proofs.YtagmefjpnmjcjabW.PrintLast Go.Proofs.YtagmefjpnmjcjabW.PrintMore
open Go.Proofs.Ytagmefjpnmjcjab.FrNum (readS lenS bodyS readS_two read_eq refRead_eq Bytes be fits put_eq same_eq wrap64_of wrap_succ rd_drop u64_small)
set_option linter.unusedVariables false
set_option linter.unusedSimpArgs false

/-- The bytes of a frame. -/
def bytesS (c : Int) (l : List Int) : List Int × Int := if c = 0 then ([], 1) else if l.length > 300 then ([], 4) else (((l.length : Int) + 1) / 256 :: ((l.length : Int) + 1) % 256 :: c :: l, 0)
theorem be2 (n : Int) (h0 : 0 ≤ n) (h : n ≤ 65535) : be 2 n = [n / 256, n % 256] := by
  have e1 : (256 : Int) ^ 1 = 256 := by decide
  have e0 : (256 : Int) ^ 0 = 1 := by decide
  simp only [be, e1, e0]
  congr 1
  · omega
  · congr 1; omega
theorem fits_2 (n : Int) (h0 : 0 ≤ n) (h : n ≤ 65535) : fits 2 n = true := by
  unfold fits
  rw [decide_eq_true_eq]
  have e : (256 : Int) ^ (2 : Int).toNat = 65536 := by decide
  rw [e]; omega
theorem bytes_eq (k : Nat) (c : Int) (l : List Int) (hk : 11 ≤ k) : frame_Bytes.f k c l = some (bytesS c l) := by
  unfold frame_Bytes.f bytesS
  by_cases c0 : c = 0
  · rw [if_pos c0, if_pos c0]
  · rw [if_neg c0, if_neg c0]
    by_cases c1 : l.length > 300
    · rw [if_pos (by omega), if_pos c1]
    · rw [if_neg (by omega), if_neg c1, wrap64_of (by omega) (by omega), u64_small (by omega) (by omega), put_eq k [] 2 _ (by omega) (by omega) (by simp) hk, if_pos (fits_2 _ (by omega) (by omega))]
      simp only [Option.bind_some]
      rw [show (2 : Int).toNat = 2 from rfl, be2 _ (by omega) (by omega)]
      rw [if_pos (by simp), if_pos (by simp; omega)]
      rfl
theorem refBytes_eq (c : Int) (l : List Int) : signalmanref02_Bytes.f c l = some (bytesS c l) := by
  unfold signalmanref02_Bytes.f bytesS
  by_cases c0 : c = 0
  · rw [if_pos c0, if_pos c0]
  · rw [if_neg c0, if_neg c0]
    by_cases c1 : l.length > 300
    · rw [if_pos (by omega), if_pos c1]
    · rw [if_neg (by omega), if_neg c1]
      simp only [Option.bind_some]
      rw [if_pos (by simp; omega)]
      have e0 : wrap64 ((l.length : Int) + 1) = (l.length : Int) + 1 := wrap64_of (by omega) (by omega)
      have e1 : Int.tdiv ((l.length : Int) + 1) 256 = ((l.length : Int) + 1) / 256 := Int.tdiv_eq_ediv_of_nonneg (by omega)
      have e2 : Int.tmod ((l.length : Int) + 1) 256 = ((l.length : Int) + 1) % 256 := Int.tmod_eq_emod_of_nonneg (by omega)
      rw [e0, e1, e2, wrap64_of (by omega) (by omega)]
      have e3 : ((l.length : Int) + 1) / 256 % 256 = ((l.length : Int) + 1) / 256 := by omega
      have e4 : ((l.length : Int) + 1) % 256 % 256 = ((l.length : Int) + 1) % 256 := by omega
      rw [e3, e4]
      rfl
theorem str_inj {a b : List Int} (ha : Bytes a) (hb : Bytes b) (h : (a.map fun n => UInt8.ofNat n.toNat) = b.map fun n => UInt8.ofNat n.toNat) : a = b := by
  induction a generalizing b with
  | nil =>
    cases b with
    | nil => rfl
    | cons y b => simp at h
  | cons x a ih =>
    cases b with
    | nil => simp at h
    | cons y b =>
      simp only [List.map_cons, List.cons.injEq] at h
      have hx := ha x (by simp)
      have hy := hb y (by simp)
      have h2 := congrArg UInt8.toNat h.1
      rw [UInt8.toNat_ofNat', UInt8.toNat_ofNat', Nat.mod_eq_of_lt (by omega), Nat.mod_eq_of_lt (by omega)] at h2
      rw [ih (fun z hz => ha z (List.mem_cons_of_mem _ hz)) (fun z hz => hb z (List.mem_cons_of_mem _ hz)) h.2]
      congr 1
      omega
theorem same38_eq (a : Int) (l : List Int) (b : Int) (m : List Int) (hl : Bytes l) (hm : Bytes m) : frame_Same.f a l b m = some (decide (a = b ∧ l = m)) := by
  unfold frame_Same.f
  by_cases c : a = b
  · rw [if_pos c]
    unfold bytes_Equal.f
    simp only [Option.bind_some]
    congr 1
    rw [Lib.strOfNums_toList, Lib.strOfNums_toList, Bool.eq_iff_iff, beq_iff_eq, decide_eq_true_eq]
    exact ⟨fun h => ⟨c, str_inj hl hm h⟩, fun h => by rw [h.2]⟩
  · rw [if_neg c]
    congr 1
    symm
    exact decide_eq_false (fun h => c h.1)
instance dec41 : DecidableEq S41 := fun a b => decidable_of_iff (a.f0 = b.f0 ∧ a.f1 = b.f1) ⟨fun h => by cases a; cases b; simp at h; rw [h.1, h.2], fun h => by rw [h]; exact ⟨rfl, rfl⟩⟩
instance dec38 : DecidableEq S38 := fun a b => decidable_of_iff (a.f0 = b.f0 ∧ a.f1 = b.f1) ⟨fun h => by cases a; cases b; simp at h; rw [h.1, h.2], fun h => by rw [h]; exact ⟨rfl, rfl⟩⟩
/-- A frame of the document's. -/
def to41 (x : S38) : S41 := ⟨x.f0, x.f1⟩
theorem to41_inj {a b : S38} (h : to41 a = to41 b) : a = b := by
  cases a; cases b
  unfold to41 at h
  injection h with h1 h2
  subst h1; subst h2
  rfl
theorem map41_inj {a b : List S38} : a.map to41 = b.map to41 ↔ a = b := by
  constructor
  · intro h
    induction a generalizing b with
    | nil => cases b with
      | nil => rfl
      | cons y b => simp at h
    | cons x a ih => cases b with
      | nil => simp at h
      | cons y b =>
        simp only [List.map_cons, List.cons.injEq] at h
        rw [to41_inj h.1, ih h.2]
  · intro h; rw [h]
theorem rd38 (l : List S38) (i : Nat) (h : i < l.length) : rd_T38 l (i : Int) = l[i] := by
  unfold rd_T38
  rw [Int.toNat_natCast, List.getD_eq_getElem?_getD, List.getElem?_eq_getElem h]
  rfl
theorem rd41 (l : List S41) (i : Nat) (h : i < l.length) : rd_T41 l (i : Int) = l[i] := by
  unfold rd_T41
  rw [Int.toNat_natCast, List.getD_eq_getElem?_getD, List.getElem?_eq_getElem h]
  rfl
theorem frames_loop (l : List S38) (hl : l.length ≤ 1000000) (d : Nat) : ∀ (k i : Nat) (o : List S41), i ≤ l.length → l.length - i = d → d < k → o.length = i → signalmanlaw02_frames.l0 k o l (l.length : Int) (i : Int) = some (o ++ (l.drop i).map to41) := by
  induction d with
  | zero =>
    intro k i o h1 hd hk ho
    obtain ⟨k, rfl⟩ : ∃ m, k = m + 1 := ⟨k - 1, by omega⟩
    simp only [signalmanlaw02_frames.l0]
    rw [if_neg (by omega), List.drop_eq_nil_of_le (by omega)]
    simp
  | succ d ih =>
    intro k i o h1 hd hk ho
    obtain ⟨k, rfl⟩ : ∃ m, k = m + 1 := ⟨k - 1, by omega⟩
    simp only [signalmanlaw02_frames.l0]
    rw [if_pos (by omega), if_pos (by omega), if_pos (by omega), if_pos (by omega), rd38 l i (by omega), wrap_succ i (by omega), ih k (i + 1) _ (by omega) (by omega) (by omega) (by simp [ho])]
    rw [List.drop_eq_getElem_cons (l := l) (i := i) (by omega), List.map_cons, List.append_assoc]
    rfl
theorem frames_eq (k : Nat) (l : List S38) (hl : l.length ≤ 1000000) (hk : l.length < k) : signalmanlaw02_frames.f k l = some (l.map to41) := by
  unfold signalmanlaw02_frames.f
  rw [show (0 : Int) = ((0 : Nat) : Int) from rfl, frames_loop l hl l.length k 0 [] (by omega) (by omega) hk rfl]
  simp
theorem refSame_loop (a b : List S41) (hab : a.length = b.length) (ha : a.length ≤ 1000000) (N : Nat) (hN : N ≤ 1000000) (hb : ∀ x ∈ a, x.f1.length ≤ N) (d : Nat) : ∀ (k i : Nat), i ≤ a.length → a.length - i = d → d + N + 1 < k → signalmanref02_Same.l0 k a b (i : Int) = some (decide (a.drop i = b.drop i)) := by
  induction d with
  | zero =>
    intro k i h1 hd hk
    obtain ⟨k, rfl⟩ : ∃ m, k = m + 1 := ⟨k - 1, by omega⟩
    simp only [signalmanref02_Same.l0]
    rw [if_neg (by omega), List.drop_eq_nil_of_le (by omega), List.drop_eq_nil_of_le (by omega)]
    rfl
  | succ d ih =>
    intro k i h1 hd hk
    obtain ⟨k, rfl⟩ : ∃ m, k = m + 1 := ⟨k - 1, by omega⟩
    simp only [signalmanref02_Same.l0]
    have hi : i < a.length := by omega
    have hx := hb a[i] (List.getElem_mem _)
    rw [if_pos (by omega), if_pos (by omega), if_pos (by omega), rd41 a i (by omega), rd41 b i (by omega), wrap_succ i (by omega), same_eq k _ _ (by omega) (by omega)]
    rw [List.drop_eq_getElem_cons (l := a) (i := i) (by omega), List.drop_eq_getElem_cons (l := b) (i := i) (by omega)]
    generalize a[i] = x at hx ⊢
    generalize b[i] = y
    by_cases e : x.f0 = y.f0
    · rw [if_pos e]
      simp only [Option.bind_some]
      by_cases e1 : x.f1 = y.f1
      · rw [if_pos (decide_eq_true e1), ih k (i + 1) (by omega) (by omega) (by omega)]
        congr 1
        rw [decide_eq_decide]
        have : x = y := by cases x; cases y; simp at e e1; rw [e, e1]
        simp [this]
      · rw [if_neg (by simpa using e1)]
        congr 1; symm
        apply decide_eq_false
        intro h
        injection h with h _
        exact e1 (by rw [h])
    · rw [if_neg e]
      congr 1; symm
      apply decide_eq_false
      intro h
      injection h with h _
      exact e (by rw [h])
theorem refSame_eq (k : Nat) (a b : List S41) (ha : a.length ≤ 1000000) (N : Nat) (hN : N ≤ 1000000) (hb : ∀ x ∈ a, x.f1.length ≤ N) (hk : a.length + N + 1 < k) : signalmanref02_Same.f k a b = some (decide (a = b)) := by
  unfold signalmanref02_Same.f
  by_cases h : a.length = b.length
  · rw [if_pos (by omega)]
    have := refSame_loop a b h ha N hN hb a.length k 0 (by omega) (by omega) hk
    simpa using this
  · rw [if_neg (by omega)]
    congr 1; symm
    exact decide_eq_false (fun e => h (by rw [e]))
theorem refAll_loop (k : Nat) : ∀ (b : List Int) (o : List S41), Bytes b → b.length ≤ 1000000 → b.length < k → o.length + b.length ≤ 1000000 → signalmanref02_All.l0 k b o = some (o ++ (allS k b).1.map to41, (allS k b).2.1, (allS k b).2.2) := by
  induction k with
  | zero => intro b o _ _ h _; omega
  | succ k ih =>
    intro b o hb hl hk ho
    simp only [signalmanref02_All.l0]
    rw [refRead_eq b hb hl, allS]
    simp only [Option.bind_some]
    by_cases c : (readS b).2.2.2 = 0
    · have hn := readS_n hb c
      rw [if_neg (by omega), if_pos c, if_pos (by omega), if_pos (by omega), if_pos (by omega), if_pos c]
      rw [ih _ _ (bt_drop hb _) (by rw [List.length_drop]; omega) (by rw [List.length_drop]; omega) (by rw [List.length_append, List.length_drop]; simp; omega)]
      simp [to41]
    · by_cases c3 : (readS b).2.2.2 = 3
      · rw [if_pos c3, if_neg c, if_pos c3, if_pos (by simp; omega)]
        simp
      · rw [if_neg c3, if_neg c, if_neg c, if_neg c3]
        simp
theorem refAll_eq (k : Nat) (b : List Int) (hb : Bytes b) (hl : b.length ≤ 1000000) (hk : b.length < k) : signalmanref02_All.f k b = some ((framesS b).1.map to41, (framesS b).2.1, (framesS b).2.2) := by
  unfold signalmanref02_All.f framesS
  rw [refAll_loop k b [] hb hl hk (by simp; omega), allS_fuel hb hk (Nat.lt_succ_self _)]
  rfl
end Go.Proofs.Ytagmefjpnmjcjab.Fh
