/- What frames do, in plain words: more bytes behind, frames of their bytes, what is kept. -/
import Derived.Test.YtagmefjpnmjcjabFrSpec2
namespace Go.Proofs.Ytagmefjpnmjcjab.Fh
open Go.RowKit Go.Proofs.Ytagmefjpnmjcjab.Fr
open Go.Proofs.Ytagmefjpnmjcjab.FrNum (readS lenS bodyS readS_two Bytes)
set_option linter.unusedVariables false
set_option linter.unusedSimpArgs false

theorem lenS_more {n : Int} (h0 : 0 ≤ n) {r : List Int} (h : (lenS n r).2.2.2 ≠ 3) (y : List Int) : lenS n (r ++ y) = lenS n r := by
  unfold lenS at h ⊢
  by_cases c0 : n = 0
  · rw [if_pos c0, if_pos c0]
  · rw [if_neg c0] at h ⊢
    rw [if_neg c0]
    by_cases c1 : n > 301
    · rw [if_pos c1, if_pos c1]
    · rw [if_neg c1] at h ⊢
      rw [if_neg c1]
      by_cases c2 : (r.length : Int) < n
      · rw [if_pos c2] at h
        exact absurd rfl h
      · rw [if_neg c2, if_neg (by rw [List.length_append]; omega)]
        match r, c2 with
        | [], c2 => simp at c2; omega
        | c :: t, c2 =>
          show bodyS n (c :: (t ++ y)) = bodyS n (c :: t)
          unfold bodyS
          simp only [List.length_cons] at c2
          simp only
          rw [List.take_append_of_le_length (by omega)]
/-- A frame that is told, or an error, is told whatever stands behind. -/
theorem readS_more {x : List Int} (hb : Bytes x) (h : (readS x).2.2.2 ≠ 3) (y : List Int) : readS (x ++ y) = readS x := by
  match x, hb, h with
  | [], _, h => exact absurd rfl h
  | [a], _, h => exact absurd rfl h
  | a :: b :: r, hb, h =>
    have ha := hb a (by simp)
    have hc := hb b (by simp)
    show readS (a :: b :: (r ++ y)) = _
    rw [readS_two, readS_two]
    rw [readS_two] at h
    exact lenS_more (by omega) h y
theorem framesS_more_ (N : Nat) : ∀ (x y : List Int), x.length ≤ N → Bytes (x ++ y) → framesS (x ++ y) = if (framesS x).2.2 = 0 then ((framesS x).1 ++ (framesS ((framesS x).2.1 ++ y)).1, (framesS ((framesS x).2.1 ++ y)).2) else framesS x := by
  induction N with
  | zero =>
    intro x y hx hb
    have : x = [] := List.length_eq_zero_iff.1 (by omega)
    subst this
    rfl
  | succ N ih =>
    intro x y hx hb
    have hbx := bt_left hb
    rw [framesS_step hbx]
    by_cases c : (readS x).2.2.2 = 0
    · have hn := readS_n hbx c
      rw [if_pos c]
      obtain ⟨m, hm⟩ := Int.eq_ofNat_of_zero_le (show 0 ≤ (readS x).2.2.1 by omega)
      have hm2 : (readS x).2.2.1.toNat = m := by omega
      rw [hm2]
      rw [framesS_step hb, readS_more hbx (by omega) y, if_pos c, hm2]
      have hd : (x ++ y).drop m = x.drop m ++ y := List.drop_append_of_le_length (by omega)
      rw [hd]
      have h1 := ih (x.drop m) y (by rw [List.length_drop]; omega) (by rw [← hd]; exact bt_drop hb m)
      rw [h1]
      by_cases c2 : (framesS (x.drop m)).2.2 = 0
      · rw [if_pos c2]
        simp only [if_pos c2]
        rfl
      · rw [if_neg c2]
        simp only [if_neg c2]
    · by_cases c3 : (readS x).2.2.2 = 3
      · rw [if_neg c, if_pos c3]
        simp
      · rw [if_neg c, if_neg c3, framesS_step hb, readS_more hbx c3 y, if_neg c, if_neg c3]
        simp only [if_neg c]
theorem framesS_more {x y : List Int} (hb : Bytes (x ++ y)) : framesS (x ++ y) = if (framesS x).2.2 = 0 then ((framesS x).1 ++ (framesS ((framesS x).2.1 ++ y)).1, (framesS ((framesS x).2.1 ++ y)).2) else framesS x := framesS_more_ x.length x y (Nat.le_refl _) hb
/-- What is kept: bytes of those that came. -/
theorem framesS_kept_ (N : Nat) : ∀ (x : List Int), x.length ≤ N → Bytes x → (framesS x).2.1 = [] ∨ (∃ n, (framesS x).2.1 = x.drop n) ∧ (readS (framesS x).2.1).2.2.2 = 3 := by
  induction N with
  | zero =>
    intro x hx hb
    have : x = [] := List.length_eq_zero_iff.1 (by omega)
    subst this
    exact .inl rfl
  | succ N ih =>
    intro x hx hb
    rw [framesS_step hb]
    by_cases c : (readS x).2.2.2 = 0
    · have hn := readS_n hb c
      rw [if_pos c]
      rcases ih (x.drop (readS x).2.2.1.toNat) (by rw [List.length_drop]; omega) (bt_drop hb _) with h | ⟨⟨n, h⟩, h2⟩
      · exact .inl h
      · refine .inr ⟨⟨(readS x).2.2.1.toNat + n, ?_⟩, h2⟩
        rw [← List.drop_drop]
        exact h
    · by_cases c3 : (readS x).2.2.2 = 3
      · rw [if_neg c, if_pos c3]
        exact .inr ⟨⟨0, rfl⟩, c3⟩
      · rw [if_neg c, if_neg c3]
        exact .inl rfl
theorem framesS_kept_bytes {x : List Int} (hb : Bytes x) : Bytes (framesS x).2.1 := by
  rcases framesS_kept_ x.length x (Nat.le_refl _) hb with h | ⟨⟨n, h⟩, _⟩
  · rw [h]; intro y hy; cases hy
  · rw [h]; exact bt_drop hb n
theorem framesS_kept_le {x : List Int} (hb : Bytes x) : (framesS x).2.1.length ≤ x.length := by
  rcases framesS_kept_ x.length x (Nat.le_refl _) hb with h | ⟨⟨n, h⟩, _⟩
  · rw [h]; simp
  · rw [h, List.length_drop]; omega
theorem readS_short_le {x : List Int} (hb : Bytes x) (h : (readS x).2.2.2 = 3) : x.length ≤ 302 := by
  match x, hb, h with
  | [], _, h => simp
  | [a], _, h => simp
  | a :: b :: r, hb, h =>
    have ha := hb a (by simp)
    have hc := hb b (by simp)
    rw [readS_two] at h
    unfold lenS at h
    by_cases c0 : 256 * a + b = 0
    · rw [if_pos c0] at h; simp at h
    · rw [if_neg c0] at h
      by_cases c1 : 256 * a + b > 301
      · rw [if_pos c1] at h; simp at h
      · rw [if_neg c1] at h
        by_cases c2 : (r.length : Int) < 256 * a + b
        · simp only [List.length_cons]; omega
        · rw [if_neg c2] at h
          match r, c2, h with
          | [], c2, h => simp
          | c :: t, c2, h =>
            unfold bodyS at h
            by_cases c3 : c = 0
            · simp [c3] at h
            · simp [c3] at h
theorem framesS_kept_302 {x : List Int} (hb : Bytes x) : (framesS x).2.1.length ≤ 302 := by
  rcases framesS_kept_ x.length x (Nat.le_refl _) hb with h | ⟨⟨n, h⟩, h2⟩
  · rw [h]; simp
  · exact readS_short_le (framesS_kept_bytes hb) h2
/-- What is told: frames that may be. -/
theorem framesS_told_ (N : Nat) : ∀ (x : List Int), x.length ≤ N → Bytes x → ∀ f ∈ (framesS x).1, 0 < f.f0 ∧ f.f0 < 256 ∧ Bytes f.f1 ∧ f.f1.length ≤ 300 := by
  induction N with
  | zero =>
    intro x hx hb
    have : x = [] := List.length_eq_zero_iff.1 (by omega)
    subst this
    intro f hf
    cases hf
  | succ N ih =>
    intro x hx hb
    rw [framesS_step hb]
    by_cases c : (readS x).2.2.2 = 0
    · have hn := readS_n hb c
      rw [if_pos c]
      intro f hf
      rcases List.mem_cons.1 hf with rfl | hf
      · obtain ⟨a, b, q, t, n, rfl, _, h1, h2, h3, h4, he⟩ := readS_ok hb c
        rw [he]
        have := hb q (by simp)
        refine ⟨?_, ?_, ?_, ?_⟩
        · show 0 < q
          omega
        · show q < 256
          omega
        · exact fun z hz => hb z (by have := List.mem_of_mem_take hz; simp [this])
        · show (t.take (n - 1).toNat).length ≤ 300
          rw [List.length_take]; omega
      · exact ih _ (by rw [List.length_drop]; omega) (bt_drop hb _) f hf
    · by_cases c3 : (readS x).2.2.2 = 3
      · rw [if_neg c, if_pos c3]
        intro f hf; cases hf
      · rw [if_neg c, if_neg c3]
        intro f hf; cases hf
theorem framesS_told {x : List Int} (hb : Bytes x) : ∀ f ∈ (framesS x).1, 0 < f.f0 ∧ f.f0 < 256 ∧ Bytes f.f1 ∧ f.f1.length ≤ 300 := framesS_told_ x.length x (Nat.le_refl _) hb
theorem framesS_count_ (N : Nat) : ∀ (x : List Int), x.length ≤ N → Bytes x → (framesS x).1.length ≤ x.length := by
  induction N with
  | zero =>
    intro x hx hb
    have : x = [] := List.length_eq_zero_iff.1 (by omega)
    subst this
    exact Nat.le_refl _
  | succ N ih =>
    intro x hx hb
    rw [framesS_step hb]
    by_cases c : (readS x).2.2.2 = 0
    · have hn := readS_n hb c
      rw [if_pos c]
      have := ih (x.drop (readS x).2.2.1.toNat) (by rw [List.length_drop]; omega) (bt_drop hb _)
      rw [List.length_drop] at this
      simp only [List.length_cons]
      omega
    · by_cases c3 : (readS x).2.2.2 = 3
      · rw [if_neg c, if_pos c3]; simp
      · rw [if_neg c, if_neg c3]; simp
theorem framesS_count {x : List Int} (hb : Bytes x) : (framesS x).1.length ≤ x.length := framesS_count_ x.length x (Nat.le_refl _) hb
/-- May a frame be? -/
def may (f : S38) : Prop := f.f0 ≠ 0 ∧ f.f1.length ≤ 300
theorem bytesS_ok {c : Int} {l : List Int} (h : (bytesS c l).2 = 0) : c ≠ 0 ∧ l.length ≤ 300 := by
  unfold bytesS at h
  by_cases c0 : c = 0
  · rw [if_pos c0] at h; simp at h
  · rw [if_neg c0] at h
    by_cases c1 : l.length > 300
    · rw [if_pos c1] at h; simp at h
    · exact ⟨c0, by omega⟩
theorem bytesS_eq {c : Int} {l : List Int} (h0 : c ≠ 0) (h1 : l.length ≤ 300) : bytesS c l = (((l.length : Int) + 1) / 256 :: ((l.length : Int) + 1) % 256 :: c :: l, 0) := by
  unfold bytesS
  rw [if_neg h0, if_neg (by omega)]
theorem bytesS_len {c : Int} {l : List Int} (h0 : c ≠ 0) (h1 : l.length ≤ 300) : (bytesS c l).1.length = l.length + 3 := by
  rw [bytesS_eq h0 h1]
  simp
theorem bytesS_bytes {c : Int} {l : List Int} (hc : 0 ≤ c ∧ c < 256) (hl : Bytes l) : Bytes (bytesS c l).1 := by
  unfold bytesS
  by_cases c0 : c = 0
  · rw [if_pos c0]; intro x hx; cases hx
  · rw [if_neg c0]
    by_cases c1 : l.length > 300
    · rw [if_pos c1]; intro x hx; cases hx
    · rw [if_neg c1]
      intro x hx
      simp only [List.mem_cons] at hx
      rcases hx with rfl | rfl | rfl | hx
      · omega
      · omega
      · exact hc
      · exact hl x hx
/-- Its bytes, whatever stands behind, are read as the frame. -/
theorem readS_bytesS {c : Int} {l : List Int} (h0 : c ≠ 0) (h1 : l.length ≤ 300) (m : List Int) : readS ((bytesS c l).1 ++ m) = (c, l, (l.length : Int) + 3, 0) := by
  rw [bytesS_eq h0 h1]
  show readS (((l.length : Int) + 1) / 256 :: ((l.length : Int) + 1) % 256 :: (c :: (l ++ m))) = _
  rw [readS_two, show 256 * (((l.length : Int) + 1) / 256) + ((l.length : Int) + 1) % 256 = (l.length : Int) + 1 by omega]
  unfold lenS
  rw [if_neg (by omega), if_neg (by omega), if_neg (by simp only [List.length_cons, List.length_append]; omega)]
  unfold bodyS
  simp only
  rw [if_neg h0, show ((l.length : Int) + 1 - 1).toNat = l.length by omega, List.take_left']
  · congr 3
    omega
  · rfl
theorem framesS_bytesS {c : Int} {l : List Int} (hc : 0 ≤ c ∧ c < 256) (hl : Bytes l) (h0 : c ≠ 0) (h1 : l.length ≤ 300) {m : List Int} (hm : Bytes m) : framesS ((bytesS c l).1 ++ m) = ((⟨c, l⟩ : S38) :: (framesS m).1, (framesS m).2) := by
  rw [framesS_step (bt_append (bytesS_bytes hc hl) hm), readS_bytesS h0 h1 m]
  have hd : ((bytesS c l).1 ++ m).drop ((l.length : Int) + 3).toNat = m := by
    rw [List.drop_left' (by rw [bytesS_len h0 h1]; omega)]
  simp only [hd, if_true]
/-- The bytes of frames, one behind the other. -/
def allB (l : List S38) : List Int := l.flatMap (fun f => (bytesS f.f0 f.f1).1)
theorem allB_bytes {l : List S38} (h : ∀ f ∈ l, (0 ≤ f.f0 ∧ f.f0 < 256) ∧ Bytes f.f1) : Bytes (allB l) := by
  intro x hx
  unfold allB at hx
  obtain ⟨f, hf, hx⟩ := List.mem_flatMap.1 hx
  exact bytesS_bytes (h f hf).1 (h f hf).2 x hx
theorem framesS_allB {l : List S38} (h : ∀ f ∈ l, (0 ≤ f.f0 ∧ f.f0 < 256) ∧ Bytes f.f1) (hm : ∀ f ∈ l, may f) : framesS (allB l) = (l, [], 0) := by
  induction l with
  | nil => rfl
  | cons f l ih =>
    have e : allB (f :: l) = (bytesS f.f0 f.f1).1 ++ allB l := rfl
    have hf := h f (by simp)
    have hq := hm f (by simp)
    rw [e, framesS_bytesS hf.1 hf.2 hq.1 hq.2 (allB_bytes (fun g hg => h g (List.mem_cons_of_mem _ hg))), ih (fun g hg => h g (List.mem_cons_of_mem _ hg)) (fun g hg => hm g (List.mem_cons_of_mem _ hg))]
end Go.Proofs.Ytagmefjpnmjcjab.Fh
