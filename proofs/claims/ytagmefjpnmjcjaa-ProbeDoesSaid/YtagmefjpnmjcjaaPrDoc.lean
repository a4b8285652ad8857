/- The document's plan of probes (package signalmanref13), by hand. -/
import Derived.Test.YtagmefjpnmjcjaaPrAwake
import Derived.Test.YtagmefjpnmjcjaaPrDoesP
namespace Go.Proofs.Ytagmefjpnmjcjaa.Pr
open Go.RowKit Go.Proofs.YtagmefjpnmjcjaaW.PrintWords Go.Proofs.YtagmefjpnmjcjaaW.PrintLast Go.Proofs.YtagmefjpnmjcjaaW.PrintMore
open Go.Proofs.Ytagmefjpnmjcjaa.Wa (Near Near.refl Near.drewN Near.set_ Near.keep Near.bel2 info3w Near.of_below Near.then_below Near.grown Near.size_ Near.drew1 Near.far Same_same C_one R_empty)
attribute [local go_sem] max2_int min2_int max_two min_two
set_option linter.unusedVariables false
set_option linter.unusedSimpArgs false

/-- A row of whole numbers at the head of block b. -/
def Row (W : World) (b : Nat) (L : List Int) : Prop := ∃ R : List Value, W.heap[b]? = some (.cells (L.map (Value.int .u64) ++ R).toArray 22 (0, 0))
theorem Row.get {W : World} {b : Nat} {L : List Int} (h : Row W b L) {i : Nat} {x : Int} (hx : L[i]? = some x) : W.cell? ⟨b, i, none⟩ = some (.int .u64 x) := by
  obtain ⟨R, h⟩ := h
  rw [blk_cell h i, List.getElem?_toArray, List.getElem?_append_left (by simp; exact (List.getElem?_eq_some_iff.1 hx).1), List.getElem?_map, hx]
  rfl
theorem Row.fz {W : World} {b : Nat} {L : List Int} (h : Row W b L) (i : Nat) : W.frozen? ⟨b, i, none⟩ = false := by
  obtain ⟨R, h⟩ := h
  exact blk_frozen h i
theorem Row.set {W : World} {b : Nat} {L : List Int} (h : Row W b L) {i : Nat} (hi : i < L.length) (x : Int) : Row (W.setCell ⟨b, i, none⟩ (.int .u64 x)) b (L.set i x) := by
  obtain ⟨R, h⟩ := h
  refine ⟨R, (blk_set h i (.int .u64 x)).trans ?_⟩
  rw [List.setIfInBounds_toArray, List.set_append_left _ _ (by simpa using hi), List.map_set]
theorem Row.same {W W' : World} {b : Nat} {L : List Int} (h : Row W b L) (hb : W'.heap[b]? = W.heap[b]?) : Row W' b L := by
  obtain ⟨R, h⟩ := h
  exact ⟨R, hb.trans h⟩
theorem Row.lt {W : World} {b : Nat} {L : List Int} (h : Row W b L) : b < W.heap.size := by
  obtain ⟨R, h⟩ := h
  exact blk_lt h
theorem Row.ne {W : World} {b g t : Nat} {cs : Array Value} {L : List Int} (h : Row W b L) (hg : W.heap[g]? = some (.cells cs t (0, 0))) (ht : t ≠ 22) : b ≠ g := by
  obtain ⟨R, h⟩ := h
  rintro rfl
  rw [h] at hg
  injection hg with hg
  injection hg with _ hg
  exact ht hg.symm
structure Blk where
  g : Nat
  b0 : Nat
  b1 : Nat
  b2 : Nat
  c0 : Nat
  c1 : Nat
  c2 : Nat
def cellsQ (q : Blk) (n : Nat) (ev la ls : Int) : Array Value := #[.slice (some ⟨q.b0, 0, none⟩) n q.c0, .slice (some ⟨q.b1, 0, none⟩) n q.c1, .slice (some ⟨q.b2, 0, none⟩) n q.c2, .int .u64 ev, .int .u64 la, .int .u64 ls]
/-- The document's plan. -/
def IsD (W : World) (q : Blk) (n : Nat) (E : List Int) (ev la ls : Int) : Prop :=
  W.heap[q.g]? = some (.cells (cellsQ q n ev la ls) 70 (0, 0)) ∧ Row W q.b0 (col E n 0) ∧ Row W q.b1 (col E n 1) ∧ Row W q.b2 (col E n 2) ∧ (q.b0 ≠ q.b1 ∧ q.b0 ≠ q.b2 ∧ q.b1 ≠ q.b2) ∧ E.length = 18 ∧ 1 ≤ n ∧ n ≤ 6
def Blk.has (q : Blk) (k : Nat) : Prop := k = q.g ∨ k = q.b0 ∨ k = q.b1 ∨ k = q.b2
section
variable {W W' : World} {q : Blk} {n : Nat} {E : List Int} {ev la ls : Int}
theorem IsD.blk (h : IsD W q n E ev la ls) : W.heap[q.g]? = some (.cells (cellsQ q n ev la ls) 70 (0, 0)) := h.1
theorem IsD.len (h : IsD W q n E ev la ls) : E.length = 18 := h.2.2.2.2.2.1
theorem IsD.n1 (h : IsD W q n E ev la ls) : 1 ≤ n := h.2.2.2.2.2.2.1
theorem IsD.n6 (h : IsD W q n E ev la ls) : n ≤ 6 := h.2.2.2.2.2.2.2
theorem IsD.same (h : IsD W q n E ev la ls) (hs : ∀ k, q.has k → W'.heap[k]? = W.heap[k]?) : IsD W' q n E ev la ls :=
  ⟨(hs _ (.inl rfl)).trans h.1, h.2.1.same (hs _ (.inr (.inl rfl))), h.2.2.1.same (hs _ (.inr (.inr (.inl rfl)))), h.2.2.2.1.same (hs _ (.inr (.inr (.inr rfl)))), h.2.2.2.2⟩
theorem IsD.lt (h : IsD W q n E ev la ls) : ∀ k, q.has k → k < W.heap.size := by
  rintro k (rfl | rfl | rfl | rfl)
  · exact blk_lt h.1
  · exact h.2.1.lt
  · exact h.2.2.1.lt
  · exact h.2.2.2.1.lt
theorem IsD.ne (h : IsD W q n E ev la ls) {g t : Nat} {cs : Array Value} (hg : W.heap[g]? = some (.cells cs t (0, 0))) (h1 : t ≠ 22) (h2 : t ≠ 70) : ¬ q.has g := by
  rintro (e | e | e | e)
  · subst e
    rw [h.1] at hg
    injection hg with hg
    injection hg with _ hg
    exact h2 hg.symm
  · exact h.2.1.ne hg h1 e.symm
  · exact h.2.2.1.ne hg h1 e.symm
  · exact h.2.2.2.1.ne hg h1 e.symm
theorem IsD.below (h : IsD W q n E ev la ls) (hb : Below W.heap.size W W') : IsD W' q n E ev la ls := h.same (fun k hk => hb.block k (h.lt k hk))
theorem IsD.drewN (h : IsD W q n E ev la ls) (m : Nat) : IsD (W.drewN m) q n E ev la ls := h.below (pw_below_drewN (Below.refl _ _) m)
theorem IsD.drew (h : IsD W q n E ev la ls) : IsD W.drew q n E ev la ls := h.below (below_drew1 (Below.refl _ _))
theorem IsD.far (h : IsD W q n E ev la ls) {g : Nat} (hg : ¬ q.has g) (j : Nat) (u : Value) : IsD (W.setCell ⟨g, j, none⟩ u) q n E ev la ls := h.same (fun k hk => Below.heap_setCell W ⟨g, j, none⟩ u k (fun e => hg (by simp at e; rw [← e]; exact hk)))
theorem IsD.grown (h : IsD W q n E ev la ls) {row : Option Nat} (hg : W.grownBy W' row) (hr : ∀ k, row = some k → ¬ q.has k) : IsD W' q n E ev la ls := h.same (fun k hk => hg.block k (h.lt k hk) (fun e => hr k e.symm hk))
theorem IsD.near (h : IsD W q n E ev la ls) {g : Nat} (hn : Near W W' g) (hg : ¬ q.has g) : IsD W' q n E ev la ls := h.same (fun k hk => hn.keep.2 k (h.lt k hk) (fun e => hg (by rw [← e]; exact hk)) (by simp))
theorem IsD.c0 (h : IsD W q n E ev la ls) : W.cell? ⟨q.g, 0, none⟩ = some (.slice (some ⟨q.b0, 0, none⟩) n q.c0) := (blk_cell h.1 0).trans rfl
theorem IsD.c1 (h : IsD W q n E ev la ls) : W.cell? ⟨q.g, 1, none⟩ = some (.slice (some ⟨q.b1, 0, none⟩) n q.c1) := (blk_cell h.1 1).trans rfl
theorem IsD.c2 (h : IsD W q n E ev la ls) : W.cell? ⟨q.g, 2, none⟩ = some (.slice (some ⟨q.b2, 0, none⟩) n q.c2) := (blk_cell h.1 2).trans rfl
theorem IsD.c3 (h : IsD W q n E ev la ls) : W.cell? ⟨q.g, 3, none⟩ = some (.int .u64 ev) := (blk_cell h.1 3).trans rfl
theorem IsD.c4 (h : IsD W q n E ev la ls) : W.cell? ⟨q.g, 4, none⟩ = some (.int .u64 la) := (blk_cell h.1 4).trans rfl
theorem IsD.c5 (h : IsD W q n E ev la ls) : W.cell? ⟨q.g, 5, none⟩ = some (.int .u64 ls) := (blk_cell h.1 5).trans rfl
theorem IsD.f5 (h : IsD W q n E ev la ls) : W.frozen? ⟨q.g, 5, none⟩ = false := blk_frozen h.1 5
theorem IsD.due (h : IsD W q n E ev la ls) {i : Nat} (hi : i < n) : W.cell? ⟨q.b0, i, none⟩ = some (.int .u64 (nd E (i * 3))) := h.2.1.get (col_get (k := 0) hi)
theorem IsD.out (h : IsD W q n E ev la ls) {i : Nat} (hi : i < n) : W.cell? ⟨q.b1, i, none⟩ = some (.int .u64 (nd E (i * 3 + 1))) := h.2.2.1.get (col_get hi)
theorem IsD.asked (h : IsD W q n E ev la ls) {i : Nat} (hi : i < n) : W.cell? ⟨q.b2, i, none⟩ = some (.int .u64 (nd E (i * 3 + 2))) := h.2.2.2.1.get (col_get hi)
theorem IsD.f0 (h : IsD W q n E ev la ls) (i : Nat) : W.frozen? ⟨q.b0, i, none⟩ = false := h.2.1.fz i
theorem IsD.f1 (h : IsD W q n E ev la ls) (i : Nat) : W.frozen? ⟨q.b1, i, none⟩ = false := h.2.2.1.fz i
theorem IsD.f2 (h : IsD W q n E ev la ls) (i : Nat) : W.frozen? ⟨q.b2, i, none⟩ = false := h.2.2.2.1.fz i
theorem IsD.setDue (h : IsD W q n E ev la ls) {i : Nat} (hi : i < n) (x : Int) : IsD (W.setCell ⟨q.b0, i, none⟩ (.int .u64 x)) q n (E.set (i * 3) x) ev la ls := by
  obtain ⟨h1, h2, h3, h4, ⟨n1, n2, n3⟩, h5, h6, h7⟩ := h
  have far : ∀ k, k ≠ q.b0 → (W.setCell ⟨q.b0, i, none⟩ (.int .u64 x)).heap[k]? = W.heap[k]? := fun k hk => Below.heap_setCell W ⟨q.b0, i, none⟩ _ k hk
  refine ⟨(far _ (h2.ne h1 (by decide)).symm).trans h1, ?_, ?_, ?_, ⟨n1, n2, n3⟩, by simpa using h5, h6, h7⟩
  · have := h2.set (i := i) (by rw [col_len]; exact hi) x
    rw [col_set h5 h7 hi (by omega)] at this
    exact this
  · have := h3.same (far _ n1.symm)
    rw [← col_other (k := 1) (k' := 0) h5 h7 hi (by omega) (by omega) (by omega) x] at this
    exact this
  · have := h4.same (far _ n2.symm)
    rw [← col_other (k := 2) (k' := 0) h5 h7 hi (by omega) (by omega) (by omega) x] at this
    exact this
theorem IsD.setOut (h : IsD W q n E ev la ls) {i : Nat} (hi : i < n) (x : Int) : IsD (W.setCell ⟨q.b1, i, none⟩ (.int .u64 x)) q n (E.set (i * 3 + 1) x) ev la ls := by
  obtain ⟨h1, h2, h3, h4, ⟨n1, n2, n3⟩, h5, h6, h7⟩ := h
  have far : ∀ k, k ≠ q.b1 → (W.setCell ⟨q.b1, i, none⟩ (.int .u64 x)).heap[k]? = W.heap[k]? := fun k hk => Below.heap_setCell W ⟨q.b1, i, none⟩ _ k hk
  refine ⟨(far _ (h3.ne h1 (by decide)).symm).trans h1, ?_, ?_, ?_, ⟨n1, n2, n3⟩, by simpa using h5, h6, h7⟩
  · have := h2.same (far _ n1)
    rw [← col_other (k := 0) (k' := 1) h5 h7 hi (by omega) (by omega) (by omega) x] at this
    exact this
  · have := h3.set (i := i) (by rw [col_len]; exact hi) x
    rw [col_set h5 h7 hi (by omega)] at this
    exact this
  · have := h4.same (far _ n3.symm)
    rw [← col_other (k := 2) (k' := 1) h5 h7 hi (by omega) (by omega) (by omega) x] at this
    exact this
theorem IsD.setAsk (h : IsD W q n E ev la ls) {i : Nat} (hi : i < n) (x : Int) : IsD (W.setCell ⟨q.b2, i, none⟩ (.int .u64 x)) q n (E.set (i * 3 + 2) x) ev la ls := by
  obtain ⟨h1, h2, h3, h4, ⟨n1, n2, n3⟩, h5, h6, h7⟩ := h
  have far : ∀ k, k ≠ q.b2 → (W.setCell ⟨q.b2, i, none⟩ (.int .u64 x)).heap[k]? = W.heap[k]? := fun k hk => Below.heap_setCell W ⟨q.b2, i, none⟩ _ k hk
  refine ⟨(far _ (h4.ne h1 (by decide)).symm).trans h1, ?_, ?_, ?_, ⟨n1, n2, n3⟩, by simpa using h5, h6, h7⟩
  · have := h2.same (far _ n2)
    rw [← col_other (k := 0) (k' := 2) h5 h7 hi (by omega) (by omega) (by omega) x] at this
    exact this
  · have := h3.same (far _ n3)
    rw [← col_other (k := 1) (k' := 2) h5 h7 hi (by omega) (by omega) (by omega) x] at this
    exact this
  · have := h4.set (i := i) (by rw [col_len]; exact hi) x
    rw [col_set h5 h7 hi (by omega)] at this
    exact this
theorem IsD.setLs (h : IsD W q n E ev la ls) (x : Int) : IsD (W.setCell ⟨q.g, 5, none⟩ (.int .u64 x)) q n E ev la x := by
  obtain ⟨h1, h2, h3, h4, h5⟩ := h
  have far : ∀ k, k ≠ q.g → (W.setCell ⟨q.g, 5, none⟩ (.int .u64 x)).heap[k]? = W.heap[k]? := fun k hk => Below.heap_setCell W ⟨q.g, 5, none⟩ _ k hk
  exact ⟨(blk_set h1 5 (.int .u64 x)).trans rfl, h2.same (far _ (h2.ne h1 (by decide))), h3.same (far _ (h3.ne h1 (by decide))), h4.same (far _ (h4.ne h1 (by decide))), h5⟩
theorem IsD.cong {E2 : List Int} (h : IsD W q n E ev la ls) (h2 : E2.length = 18) (hc : ∀ j, j < n * 3 → nd E j = nd E2 j) : IsD W q n E2 ev la ls := by
  obtain ⟨h1, g0, g1, g2, h3, h4, h5⟩ := h
  rw [col_congr (E := E2) (by omega) hc] at g0
  rw [col_congr (E := E2) (by omega) hc] at g1
  rw [col_congr (E := E2) (by omega) hc] at g2
  exact ⟨h1, g0, g1, g2, h3, h2, h5⟩
end
/-- All blocks but the plan's stay, and what lies below is as before. -/
def NearD (w w' : World) (q : Blk) : Prop := (w.heap.size ≤ w'.heap.size ∧ ∀ k, k < w.heap.size → ¬ q.has k → w'.heap[k]? = w.heap[k]?) ∧ ∀ w0 : World, (∀ k, q.has k → w0.heap.size ≤ k) → Below w0.heap.size w0 w → Below w0.heap.size w0 w'
section
variable {w w1 w2 : World} {q : Blk}
theorem NearD.refl (w : World) (q : Blk) : NearD w w q := ⟨⟨Nat.le_refl _, fun _ _ _ => rfl⟩, fun _ _ h => h⟩
theorem NearD.below (h : NearD w w1 q) (hb : Below w1.heap.size w1 w2) : NearD w w2 q :=
  ⟨⟨Nat.le_trans h.1.1 hb.size, fun k hk hn => (hb.block k (Nat.lt_of_lt_of_le hk h.1.1)).trans (h.1.2 k hk hn)⟩, fun w0 hg hB => below_step (h.2 w0 hg hB) hb⟩
theorem NearD.drew (h : NearD w w1 q) : NearD w w1.drew q := h.below (below_drew1 (Below.refl _ _))
theorem NearD.drewN (h : NearD w w1 q) (m : Nat) : NearD w (w1.drewN m) q := h.below (pw_below_drewN (Below.refl _ _) m)
theorem NearD.set_ (h : NearD w w1 q) {b : Nat} (hb : q.has b) (j : Nat) (u : Value) : NearD w (w1.setCell ⟨b, j, none⟩ u) q :=
  ⟨⟨by simpa [World.setCell] using h.1.1, fun k hk hn => (Below.heap_setCell w1 ⟨b, j, none⟩ u k (fun e => hn (by simp at e; rw [e]; exact hb))).trans (h.1.2 k hk hn)⟩, fun w0 hg hB => below_set (h.2 w0 hg hB) (hg b hb)⟩
theorem NearD.grown (h : NearD w w1 q) {row : Option Nat} (hg : w1.grownBy w2 row) (hr : ∀ k, row = some k → w.heap.size ≤ k) (hq : ∀ k, q.has k → k < w.heap.size) : NearD w w2 q :=
  ⟨⟨Nat.le_trans h.1.1 hg.size, fun k hk hn => (hg.block k (Nat.lt_of_lt_of_le hk h.1.1) (fun e => by have := hr k e.symm; omega)).trans (h.1.2 k hk hn)⟩,
    fun w0 hw0 hB => (h.2 w0 hw0 hB).grown hg (by have := h.1.1; have := hw0 q.g (.inl rfl); have := hq q.g (.inl rfl); omega) (fun k hk => by have := hr k hk; have := hw0 q.g (.inl rfl); have := hq q.g (.inl rfl); omega)⟩
theorem NearD.size_ (h : NearD w w1 q) : w.heap.size ≤ w1.heap.size := h.1.1
theorem NearD.bel (h : NearD w w1 q) {w0 : World} (hg : ∀ k, q.has k → w0.heap.size ≤ k) (hB : Below w0.heap.size w0 w) : Below w0.heap.size w0 w1 := h.2 w0 hg hB
theorem NearD.blk (h : NearD w w1 q) {g : Nat} {o : Obj} (hb : w.heap[g]? = some o) (hn : ¬ q.has g) : w1.heap[g]? = some o := (h.1.2 g (blk_lt hb) hn).trans hb
end
theorem IsP.nearD {W W' : World} {q : Blk} {g : Nat} {D : List Int} {mn ev la ls : Int} (h : IsP W g D mn ev la ls) (hn : NearD W W' q) (hg : ¬ q.has g) : IsP W' g D mn ev la ls := ⟨hn.blk h.1 hg, h.2⟩
theorem IsD.notP {W : World} {q : Blk} {n : Nat} {E : List Int} {ev la ls : Int} (h : IsD W q n E ev la ls) {g : Nat} {D : List Int} {mn ev2 la2 ls2 : Int} (hp : IsP W g D mn ev2 la2 ls2) : ¬ q.has g := h.ne hp.1 (by decide) (by decide)
theorem R_nearD {α : Type} {d : Kd α} {e base : Nat} {w w' : World} {q : Blk} {v : Value} {xs : List α} {n : Nat} {E : List Int} {ev la ls : Int} (h : d.R e w base (fun _ => True) v xs) (hD : IsD w q n E ev la ls) (ht : ∀ t, t ∈ e :: d.E → t ≠ 22 ∧ t ≠ 70) (hn : NearD w w' q) : d.R e w' base (fun _ => True) v xs :=
  Kd.R_mono (Kd.R_move (Kd.R_bound h) (fun k hk => by
    obtain ⟨_, _, hlt, t, hq, cells, hc⟩ := hk
    exact hn.1.2 k hlt (hD.ne hc (ht t hq).1 (ht t hq).2))) (fun _ hk => hk.1)
theorem R_setD {α : Type} {d : Kd α} {e base : Nat} {w : World} {q : Blk} {v : Value} {xs : List α} {n : Nat} {E : List Int} {ev la ls : Int} (h : d.R e w base (fun _ => True) v xs) (hD : IsD w q n E ev la ls) (ht : ∀ t, t ∈ e :: d.E → t ≠ 22 ∧ t ≠ 70) {b : Nat} (hb : q.has b) (j : Nat) (u : Value) : d.R e (w.setCell ⟨b, j, none⟩ u) base (fun _ => True) v xs :=
  R_nearD h hD ht ((NearD.refl w q).set_ hb j u)
theorem IsD.row_ne {W : World} {q : Blk} {n : Nat} {E : List Int} {ev la ls : Int} (h : IsD W q n E ev la ls) {v : Value} {e' : Nat} (hty : ∀ k, v.ownBlock = some k → ∃ cells, W.heap[k]? = some (.cells cells e' (0, 0))) (h1 : e' ≠ 22) (h2 : e' ≠ 70) : ∀ k, v.ownBlock = some k → ¬ q.has k := fun k hk => by
  obtain ⟨cells, hc⟩ := hty k hk
  exact h.ne hc h1 h2
attribute [local irreducible] IsP IsD Near NearD Blk.has

set_option maxHeartbeats 8000000 in
set_option maxRecDepth 100000 in
theorem DAnswer_at (q : Blk) (n : Nat) (E : List Int) (ev la ls i x : Int) (w : World) (r : Bool) (E2 : List Int) (hr : decide (x ≠ 0 ∧ outOf E n i = x) = r) (hE : (if x ≠ 0 ∧ outOf E n i = x then E.set (i.toNat * 3 + 1) 0 else E) = E2) (hI : IsD w q n E ev la ls) :
    Calls Try.prog 35 #[.pointer (some ⟨q.g, 0, none⟩), .int .i64 i, .int .u64 x] w fun e w' => e = .returned (.bool r) ∧ IsD w' q n E2 ev la ls ∧ NearD w w' q := by
  have HD := Aside0.mk hI
  have hc1 := hI.c1
  by_cases c : i < 0
  · have b1 : decide (i < 0) = true := decide_eq_true c
    have ho : outOf E n i = 0 := by unfold outOf; rw [if_neg (by omega)]
    have hd := Aside0.mk (show r = false from hr.symm.trans (decide_eq_false (fun h => h.1 (by rw [← h.2, ho]))))
    have hif := Aside0.mk (show E2 = E from hE.symm.trans (if_neg (fun h => h.1 (by rw [← h.2, ho]))))
    clear hI hr hE c ho
    go_enter Try.func35, Try.ntmps35
    go_wp2
    go_ret
    exact ⟨by rw [hd.out]; rfl, by rw [hif.out]; exact HD.out, NearD.refl _ _⟩
  · have b1 : decide (i < 0) = false := decide_eq_false c
    obtain ⟨m, rfl⟩ := Int.eq_ofNat_of_zero_le (show 0 ≤ i by omega)
    by_cases c2 : m < n
    · have b2 : decide ((n : Int) ≤ (m : Int)) = false := decide_eq_false (by omega)
      have b2n : decide (n ≤ m) = false := decide_eq_false (by omega)
      have b2p : ¬ n ≤ m := by omega
      have ho : outOf E n m = nd E (m * 3 + 1) := by unfold outOf; rw [if_pos (by omega), Int.toNat_natCast]
      rw [ho] at hr hE
      simp only [Int.toNat_natCast] at hE
      obtain ⟨o, hoo⟩ : ∃ o, nd E (m * 3 + 1) = o := ⟨_, rfl⟩
      rw [hoo] at hr hE
      have hco : w.cell? ⟨q.b1, m, none⟩ = some (.int .u64 o) := by rw [← hoo]; exact hI.out c2
      have hfo := hI.f1 m
      have pm : 0 ≤ (m : Int) := by omega
      have pm2 : (m : Int) < (n : Int) := by omega
      have HC2 := Aside0.mk c2
      have HB1 := Aside0.mk (show q.has q.b1 by unfold Blk.has; simp)
      by_cases c0 : x = 0
      · have b0 : (x == 0) = true := beq_iff_eq.mpr c0
        have hd := Aside0.mk (show r = false from hr.symm.trans (decide_eq_false (fun h => h.1 c0)))
        have hif := Aside0.mk (show E2 = E from hE.symm.trans (if_neg (fun h => h.1 c0)))
        clear hI hr hE c ho hoo c0
        go_enter Try.func35, Try.ntmps35
        go_wp2
        go_ret
        exact ⟨by rw [hd.out]; rfl, by rw [hif.out]; exact HD.out, NearD.refl _ _⟩
      · have b0 : (x == 0) = false := beq_eq_false_iff_ne.mpr c0
        by_cases c1 : o = x
        · have b3 : (o != x) = false := by simp [c1]
          have b3' : (x != x) = false := by simp
          have hd := Aside0.mk (show r = true from hr.symm.trans (decide_eq_true ⟨c0, c1⟩))
          have hif := Aside0.mk (show E2 = E.set (m * 3 + 1) 0 from hE.symm.trans (if_pos ⟨c0, c1⟩))
          clear hI hr hE c ho hoo c0 c1
          go_enter Try.func35, Try.ntmps35
          go_wp2
          go_ret
          exact ⟨by rw [hd.out]; rfl, by rw [hif.out]; exact HD.out.setOut HC2.out 0, (NearD.refl _ _).set_ HB1.out _ _⟩
        · have b3 : (o != x) = true := by simp [c1]
          have hd := Aside0.mk (show r = false from hr.symm.trans (decide_eq_false (fun h => c1 h.2)))
          have hif := Aside0.mk (show E2 = E from hE.symm.trans (if_neg (fun h => c1 h.2)))
          clear hI hr hE c ho hoo c0 c1
          go_enter Try.func35, Try.ntmps35
          go_wp2
          go_ret
          exact ⟨by rw [hd.out]; rfl, by rw [hif.out]; exact HD.out, NearD.refl _ _⟩
    · have b2 : decide ((n : Int) ≤ (m : Int)) = true := decide_eq_true (by omega)
      have b2n : decide (n ≤ m) = true := decide_eq_true (by omega)
      have b2p : n ≤ m := by omega
      have ho : outOf E n m = 0 := by unfold outOf; rw [if_neg (by omega)]
      have hd := Aside0.mk (show r = false from hr.symm.trans (decide_eq_false (fun h => h.1 (by rw [← h.2, ho]))))
      have hif := Aside0.mk (show E2 = E from hE.symm.trans (if_neg (fun h => h.1 (by rw [← h.2, ho]))))
      clear hI hr hE c ho
      go_enter Try.func35, Try.ntmps35
      go_wp2
      go_ret
      exact ⟨by rw [hd.out]; rfl, by rw [hif.out]; exact HD.out, NearD.refl _ _⟩
end Go.Proofs.Ytagmefjpnmjcjaa.Pr
