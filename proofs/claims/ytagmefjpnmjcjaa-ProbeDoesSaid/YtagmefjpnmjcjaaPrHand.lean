/- The plan of probes (package probe), by hand: what each method does to the plan's cells. -/
import Derived.Test.YtagmefjpnmjcjaaWaRow
namespace Go.Proofs.Ytagmefjpnmjcjaa.Wa
set_option linter.unusedVariables false
open Go.RowKit Go.Proofs.YtagmefjpnmjcjaaW.PrintWords Go.Proofs.YtagmefjpnmjcjaaW.PrintLast Go.Proofs.YtagmefjpnmjcjaaW.PrintMore
theorem Near.of_below {w w' : World} (h : Below w.heap.size w w') (g : Nat) : Near w w' g := ⟨KeepBut.of_below h g none, fun w0 hg hB => below_step hB h⟩
theorem Near.then_below {w W w' : World} {g : Nat} (h : Near w W g) (hb : Below W.heap.size W w') : Near w w' g :=
  ⟨h.1.trans (KeepBut.of_below hb g none) (.inl rfl), fun w0 hg hB => below_step (h.2 w0 hg hB) hb⟩
theorem Near.grown {w W w' : World} {g : Nat} (h : Near w W g) {row : Option Nat} (hg : W.grownBy w' row) (hr : ∀ k, row = some k → w.heap.size ≤ k) (hgl : g < w.heap.size) : Near w w' g :=
  ⟨⟨Nat.le_trans h.1.1 hg.size, fun i hi hne _ => (hg.block i (Nat.lt_of_lt_of_le hi h.1.1) (fun e => by have := hr i e.symm; omega)).trans (h.1.2 i hi hne (by simp))⟩,
    fun w0 hw0 hB => (h.2 w0 hw0 hB).grown hg (by have := h.1.1; omega) (fun k hk => by have := hr k hk; omega)⟩
theorem Near.size_ {w w' : World} {g : Nat} (h : Near w w' g) : w.heap.size ≤ w'.heap.size := h.1.1
theorem Near.drew1 {w w1 : World} {g : Nat} (h : Near w w1 g) : Near w w1.drew g := ⟨h.1.trans (KeepBut.of_below (below_drew1 (Below.refl _ _)) g none) (.inl rfl), fun w0 hg hB => below_drew1 (h.2 w0 hg hB)⟩
theorem Near.far {w W : World} {g gb : Nat} (h : Near w W g) (hge : w.heap.size ≤ gb) (j : Nat) (u : Value) (hgl : g < w.heap.size) : Near w (W.setCell ⟨gb, j, none⟩ u) g :=
  ⟨⟨by simpa [World.setCell] using h.1.1, fun i hi hne hr => (Below.heap_setCell W ⟨gb, j, none⟩ u i (by simp; omega)).trans (h.1.2 i hi hne hr)⟩, fun w0 hg hB => below_set (h.2 w0 hg hB) (by omega)⟩
end Go.Proofs.Ytagmefjpnmjcjaa.Wa
namespace Go.Proofs.Ytagmefjpnmjcjaa.Pr
open Go.RowKit Go.Proofs.YtagmefjpnmjcjaaW.PrintWords Go.Proofs.YtagmefjpnmjcjaaW.PrintLast Go.Proofs.YtagmefjpnmjcjaaW.PrintMore
open Go.Proofs.Ytagmefjpnmjcjaa.Wa (Near Near.refl Near.drewN Near.set_ Near.keep Near.bel2 Near.of_below Near.then_below Near.grown Near.size_ Near.drew1 Near.far)
attribute [local go_sem] max2_int min2_int max_two min_two
set_option linter.unusedVariables false
set_option linter.unusedSimpArgs false

/-- The plan's cells: six nodes (when due, the probe that is out, when asked), how many, the two times, the last number. -/
def cellsP (D : List Int) (mn ev la ls : Int) : Array Value := (D.map (Value.int .u64) ++ ([.int .i64 mn, .int .u64 ev, .int .u64 la, .int .u64 ls] : List Value)).toArray
def nd (D : List Int) (j : Nat) : Int := D.getD j 0
theorem nd_set {D : List Int} {j k : Nat} {x : Int} (h : j < D.length) : nd (D.set j x) k = if j = k then x else nd D k := by
  unfold nd
  rw [List.getD_eq_getElem?_getD, List.getD_eq_getElem?_getD, List.getElem?_set]
  by_cases c : j = k
  · rw [if_pos c, if_pos c, if_pos h]; rfl
  · rw [if_neg c, if_neg c]
theorem cell_D {D : List Int} (hl : D.length = 18) {j : Nat} (hj : j < 18) (mn ev la ls : Int) : (cellsP D mn ev la ls)[j]? = some (.int .u64 (nd D j)) := by
  unfold cellsP nd
  rw [List.getElem?_toArray, List.getElem?_append_left (by simp; omega), List.getElem?_map, List.getD_eq_getElem?_getD, List.getElem?_eq_getElem (by omega)]
  rfl
theorem cell_mn {D : List Int} (hl : D.length = 18) (mn ev la ls : Int) : (cellsP D mn ev la ls)[18]? = some (.int .i64 mn) := by
  unfold cellsP
  rw [List.getElem?_toArray, List.getElem?_append_right (by simp; omega)]
  simp [hl]
theorem cell_ev {D : List Int} (hl : D.length = 18) (mn ev la ls : Int) : (cellsP D mn ev la ls)[19]? = some (.int .u64 ev) := by
  unfold cellsP
  rw [List.getElem?_toArray, List.getElem?_append_right (by simp; omega)]
  simp [hl]
theorem cell_la {D : List Int} (hl : D.length = 18) (mn ev la ls : Int) : (cellsP D mn ev la ls)[20]? = some (.int .u64 la) := by
  unfold cellsP
  rw [List.getElem?_toArray, List.getElem?_append_right (by simp; omega)]
  simp [hl]
theorem cell_ls {D : List Int} (hl : D.length = 18) (mn ev la ls : Int) : (cellsP D mn ev la ls)[21]? = some (.int .u64 ls) := by
  unfold cellsP
  rw [List.getElem?_toArray, List.getElem?_append_right (by simp; omega)]
  simp [hl]
theorem set_D {D : List Int} (hl : D.length = 18) {j : Nat} (hj : j < 18) (mn ev la ls x : Int) : (cellsP D mn ev la ls).setIfInBounds j (.int .u64 x) = cellsP (D.set j x) mn ev la ls := by
  unfold cellsP
  rw [List.setIfInBounds_toArray, List.set_append_left _ _ (by simp; omega), List.map_set]
theorem set_ls {D : List Int} (hl : D.length = 18) (mn ev la ls x : Int) : (cellsP D mn ev la ls).setIfInBounds 21 (.int .u64 x) = cellsP D mn ev la x := by
  unfold cellsP
  rw [List.setIfInBounds_toArray, List.set_append_right _ _ (by simp; omega)]
  simp [hl]
/-- A plan at block g. -/
def IsP (W : World) (g : Nat) (D : List Int) (mn ev la ls : Int) : Prop := W.heap[g]? = some (.cells (cellsP D mn ev la ls) 121 (0, 0)) ∧ D.length = 18 ∧ 1 ≤ mn ∧ mn ≤ 6
theorem IsP.blk {W : World} {g : Nat} {D : List Int} {mn ev la ls : Int} (h : IsP W g D mn ev la ls) : W.heap[g]? = some (.cells (cellsP D mn ev la ls) 121 (0, 0)) := h.1
theorem IsP.len {W : World} {g : Nat} {D : List Int} {mn ev la ls : Int} (h : IsP W g D mn ev la ls) : D.length = 18 := h.2.1
theorem IsP.mn1 {W : World} {g : Nat} {D : List Int} {mn ev la ls : Int} (h : IsP W g D mn ev la ls) : 1 ≤ mn := h.2.2.1
theorem IsP.mn6 {W : World} {g : Nat} {D : List Int} {mn ev la ls : Int} (h : IsP W g D mn ev la ls) : mn ≤ 6 := h.2.2.2
theorem IsP.lt {W : World} {g : Nat} {D : List Int} {mn ev la ls : Int} (h : IsP W g D mn ev la ls) : g < W.heap.size := blk_lt h.1
theorem IsP.below {W W' : World} {g : Nat} {D : List Int} {mn ev la ls : Int} (h : IsP W g D mn ev la ls) (hb : Below W.heap.size W W') : IsP W' g D mn ev la ls := ⟨(hb.block g (blk_lt h.1)).trans h.1, h.2⟩
theorem IsP.drewN {W : World} {g : Nat} {D : List Int} {mn ev la ls : Int} (h : IsP W g D mn ev la ls) (m : Nat) : IsP (W.drewN m) g D mn ev la ls := h.below (pw_below_drewN (Below.refl _ _) m)
theorem IsP.drew {W : World} {g : Nat} {D : List Int} {mn ev la ls : Int} (h : IsP W g D mn ev la ls) : IsP W.drew g D mn ev la ls := h.below (below_drew1 (Below.refl _ _))
theorem IsP.alloc {W : World} {g : Nat} {D : List Int} {mn ev la ls : Int} (h : IsP W g D mn ev la ls) (o : Obj) : IsP (W.alloc o) g D mn ev la ls := h.below (below_alloc (Below.refl _ _) o)
theorem IsP.far {W : World} {g g2 : Nat} {D : List Int} {mn ev la ls : Int} (h : IsP W g D mn ev la ls) (hne : g ≠ g2) (j : Nat) (u : Value) : IsP (W.setCell ⟨g2, j, none⟩ u) g D mn ev la ls := ⟨blk_far h.1 hne u, h.2⟩
theorem IsP.near {W W' : World} {g g2 : Nat} {D : List Int} {mn ev la ls : Int} (h : IsP W g D mn ev la ls) (hne : g ≠ g2) (hn : Near W W' g2) : IsP W' g D mn ev la ls := ⟨KeepBut.blk hn.keep h.1 hne (by simp), h.2⟩
theorem IsP.grown {W W' : World} {g : Nat} {D : List Int} {mn ev la ls : Int} (h : IsP W g D mn ev la ls) {row : Option Nat} (hg : W.grownBy W' row) (hne : some g ≠ row) : IsP W' g D mn ev la ls := ⟨(hg.block g (blk_lt h.1) hne).trans h.1, h.2⟩
theorem IsP.setD {W : World} {g : Nat} {D : List Int} {mn ev la ls : Int} (h : IsP W g D mn ev la ls) (j : Nat) (hj : j < 18) (x : Int) : IsP (W.setCell ⟨g, j, none⟩ (.int .u64 x)) g (D.set j x) mn ev la ls :=
  ⟨(blk_set h.1 j (.int .u64 x)).trans (by rw [set_D h.2.1 hj]), by simpa using h.2.1, h.2.2⟩
theorem IsP.setL {W : World} {g : Nat} {D : List Int} {mn ev la ls : Int} (h : IsP W g D mn ev la ls) (x : Int) : IsP (W.setCell ⟨g, 21, none⟩ (.int .u64 x)) g D mn ev la x :=
  ⟨(blk_set h.1 21 (.int .u64 x)).trans (by rw [set_ls h.2.1]), h.2⟩
theorem IsP.cD {W : World} {g : Nat} {D : List Int} {mn ev la ls : Int} (h : IsP W g D mn ev la ls) {j : Nat} (hj : j < 18) : W.cell? ⟨g, j, none⟩ = some (.int .u64 (nd D j)) := (blk_cell h.1 j).trans (cell_D h.2.1 hj _ _ _ _)
theorem IsP.c18 {W : World} {g : Nat} {D : List Int} {mn ev la ls : Int} (h : IsP W g D mn ev la ls) : W.cell? ⟨g, 18, none⟩ = some (.int .i64 mn) := (blk_cell h.1 18).trans (cell_mn h.2.1 _ _ _ _)
theorem IsP.c19 {W : World} {g : Nat} {D : List Int} {mn ev la ls : Int} (h : IsP W g D mn ev la ls) : W.cell? ⟨g, 19, none⟩ = some (.int .u64 ev) := (blk_cell h.1 19).trans (cell_ev h.2.1 _ _ _ _)
theorem IsP.c20 {W : World} {g : Nat} {D : List Int} {mn ev la ls : Int} (h : IsP W g D mn ev la ls) : W.cell? ⟨g, 20, none⟩ = some (.int .u64 la) := (blk_cell h.1 20).trans (cell_la h.2.1 _ _ _ _)
theorem IsP.c21 {W : World} {g : Nat} {D : List Int} {mn ev la ls : Int} (h : IsP W g D mn ev la ls) : W.cell? ⟨g, 21, none⟩ = some (.int .u64 ls) := (blk_cell h.1 21).trans (cell_ls h.2.1 _ _ _ _)
theorem IsP.fz {W : World} {g : Nat} {D : List Int} {mn ev la ls : Int} (h : IsP W g D mn ev la ls) (j : Nat) : W.frozen? ⟨g, j, none⟩ = false := blk_frozen h.1 j
attribute [local irreducible] IsP Near

set_option maxHeartbeats 8000000 in
set_option maxRecDepth 100000 in
theorem within_calls (n : Int) (w : World) : Calls Try.prog 62 #[.int .u64 n] w fun e w' => e = .returned (.bool (decide (1 ≤ n ∧ n ≤ 1000))) ∧ w = w' := by
  by_cases c1 : 1 ≤ n
  · have b1 : decide (1 ≤ n) = true := decide_eq_true c1
    by_cases c2 : n ≤ 1000
    · have b2 : decide (n ≤ 1000) = true := decide_eq_true c2
      have hp := Aside0.mk (show decide (1 ≤ n ∧ n ≤ 1000) = true from decide_eq_true ⟨c1, c2⟩)
      clear c1 c2
      go_enter Try.func62, Try.ntmps62
      go_wp2
      go_ret
      exact ⟨by rw [hp.out]; rfl, rfl⟩
    · have b2 : decide (n ≤ 1000) = false := decide_eq_false c2
      have hp := Aside0.mk (show decide (1 ≤ n ∧ n ≤ 1000) = false from decide_eq_false (fun h => c2 h.2))
      clear c1 c2
      go_enter Try.func62, Try.ntmps62
      go_wp2
      go_ret
      exact ⟨by rw [hp.out]; rfl, rfl⟩
  · have b1 : decide (1 ≤ n) = false := decide_eq_false c1
    have hp := Aside0.mk (show decide (1 ≤ n ∧ n ≤ 1000) = false from decide_eq_false (fun h => c1 h.1))
    clear c1
    go_enter Try.func62, Try.ntmps62
    go_wp2
    go_ret
    exact ⟨by rw [hp.out]; rfl, rfl⟩

set_option maxHeartbeats 8000000 in
set_option maxRecDepth 100000 in
theorem find_in (g : Nat) (D : List Int) (mn ev la ls : Int) (i : Nat) (w : World) (hI : IsP w g D mn ev la ls) (hi : (i : Int) < mn) :
    Calls Try.prog 64 #[.pointer (some ⟨g, 0, none⟩), .int .i64 i] w fun e w' => e = .returned (.pointer (some ⟨g, i * 3, none⟩)) ∧ Below w.heap.size w w' := by
  have b1 : decide ((i : Int) < 0) = false := decide_eq_false (by omega)
  have b2 : decide (mn ≤ (i : Int)) = false := decide_eq_false (by omega)
  have h6 := hI.mn6
  have hc := hI.c18
  have p1 : 0 ≤ (i : Int) := by omega
  have p2 : (i : Int) < 6 := by omega
  clear hI
  go_enter Try.func64, Try.ntmps64
  go_wp2
  go_ret
  exact ⟨rfl, by repeat (first | exact Below.refl _ _ | apply pw_below_drewN)⟩
set_option maxHeartbeats 8000000 in
set_option maxRecDepth 100000 in
theorem find_out (g : Nat) (D : List Int) (mn ev la ls i : Int) (w : World) (hI : IsP w g D mn ev la ls) (hi : ¬ (0 ≤ i ∧ i < mn)) :
    Calls Try.prog 64 #[.pointer (some ⟨g, 0, none⟩), .int .i64 i] w fun e w' => ∃ gb : Nat, e = .returned (.pointer (some ⟨gb, 0, none⟩)) ∧ w'.heap[gb]? = some (.cells #[.int .u64 0, .int .u64 0, .int .u64 0] 118 (0, 0)) ∧ w.heap.size ≤ gb ∧ Below w.heap.size w w' := by
  have hc := hI.c18
  by_cases c : i < 0
  · have b1 : decide (i < 0) = true := decide_eq_true c
    clear hI hi c
    go_enter Try.func64, Try.ntmps64
    go_wp2_with (first | ((with_reducible refine gate_dst (N := 16) rfl ?_); refine box_event ?hg (N := 16) ?hd (cs := #[.int .u64 0, .int .u64 0, .int .u64 0]) (t := 118) ?hr ?_; (case hd => rfl); (case hg => rfl); (case hr => first | (go_simp; done) | (go_simp; rfl)); intro gb hg w2 hbox hb; have HBX := Aside0.mk hbox; have HG := Aside0.mk hg; have HBB := Aside0.mk hb; clear hbox hg hb))
    go_ret
    exact ⟨gb, rfl, HBX.out, by rw [HG.out]; exact Nat.le_refl _, HBB.out⟩
  · have b1 : decide (i < 0) = false := decide_eq_false c
    have b2 : decide (mn ≤ i) = true := decide_eq_true (by omega)
    clear hI hi c
    go_enter Try.func64, Try.ntmps64
    go_wp2_with (first | ((with_reducible refine gate_dst (N := 16) rfl ?_); refine box_event ?hg (N := 16) ?hd (cs := #[.int .u64 0, .int .u64 0, .int .u64 0]) (t := 118) ?hr ?_; (case hd => rfl); (case hg => rfl); (case hr => first | (go_simp; done) | (go_simp; rfl)); intro gb hg w2 hbox hb; have HBX := Aside0.mk hbox; have HG := Aside0.mk hg; have HBB := Aside0.mk hb; clear hbox hg hb))
    go_ret
    exact ⟨gb, rfl, HBX.out, by rw [HG.out]; exact Nat.le_refl _, HBB.out⟩

theorem wrap_u64_nat (i : Nat) (h : i < 1000000) : IntKind.u64.wrap (i : Int) = (i : Int) := by rw [IntKind.wrap_u64]; omega
theorem nd_none : nd [0, 0, 0] 1 = 0 := rfl
/-- The probe of a node that is out; when it is due. -/
def outOf (D : List Int) (mn i : Int) : Int := if 0 ≤ i ∧ i < mn then nd D (i.toNat * 3 + 1) else 0
def dueOf (D : List Int) (mn i : Int) : Int := if 0 ≤ i ∧ i < mn then nd D (i.toNat * 3) else 0
set_option maxHeartbeats 8000000 in
set_option maxRecDepth 100000 in
theorem Out_calls (g : Nat) (D : List Int) (mn ev la ls i : Int) (w : World) (hI : IsP w g D mn ev la ls) :
    Calls Try.prog 36 #[.pointer (some ⟨g, 0, none⟩), .int .i64 i] w fun e w' => e = .returned (.int .u64 (outOf D mn i)) ∧ Below w.heap.size w w' := by
  have HI := Aside0.mk hI
  by_cases c : 0 ≤ i ∧ i < mn
  · obtain ⟨m, rfl⟩ := Int.eq_ofNat_of_zero_le c.1
    have hm : (m : Int) < mn := c.2
    have hj : m * 3 + 1 < 18 := by have := hI.mn6; omega
    have ho : Aside0 (nd D (m * 3 + 1) = outOf D mn m) := ⟨by unfold outOf; rw [if_pos c, Int.toNat_natCast]⟩
    have HJ := Aside0.mk hj
    clear hI c
    go_enter Try.func36, Try.ntmps36
    go_wp2_with (first | (go_at_call 64; with_reducible refine (find_in g D mn ev la ls m _ HI.out hm).mono ?_; rintro e w' ⟨rfl, hb⟩; have HB := Aside0.mk hb; have hc1 : w'.cell? ⟨g, m * 3 + 1, none⟩ = some (.int .u64 (nd D (m * 3 + 1))) := (HI.out.below hb).cD HJ.out; clear hb))
    go_ret
    exact ⟨congrArg (fun x => Ending.returned (.int .u64 x)) ho.out, by repeat (first | exact HB.out | apply pw_below_drewN)⟩
  · have ho : Aside0 ((0 : Int) = outOf D mn i) := ⟨by unfold outOf; rw [if_neg c]⟩
    have HC := Aside0.mk c
    clear hI c
    go_enter Try.func36, Try.ntmps36
    go_wp2_with (first | (go_at_call 64; with_reducible refine (find_out g D mn ev la ls i _ HI.out HC.out).mono ?_; rintro e w' ⟨gb, rfl, hk, hge, hb⟩; have HB := Aside0.mk hb; have hc0 : w'.cell? ⟨gb, 0, none⟩ = some (.int .u64 0) := (blk_cell hk 0).trans rfl; have hc1 : w'.cell? ⟨gb, 1, none⟩ = some (.int .u64 0) := (blk_cell hk 1).trans rfl; clear hb hk hge))
    go_ret
    exact ⟨congrArg (fun x => Ending.returned (.int .u64 x)) ho.out, by repeat (first | exact HB.out | apply pw_below_drewN)⟩
set_option maxHeartbeats 8000000 in
set_option maxRecDepth 100000 in
theorem Due_calls (g : Nat) (D : List Int) (mn ev la ls i : Int) (w : World) (hI : IsP w g D mn ev la ls) :
    Calls Try.prog 37 #[.pointer (some ⟨g, 0, none⟩), .int .i64 i] w fun e w' => e = .returned (.int .u64 (dueOf D mn i)) ∧ Below w.heap.size w w' := by
  have HI := Aside0.mk hI
  by_cases c : 0 ≤ i ∧ i < mn
  · obtain ⟨m, rfl⟩ := Int.eq_ofNat_of_zero_le c.1
    have hm : (m : Int) < mn := c.2
    have hj : m * 3 < 18 := by have := hI.mn6; omega
    have ho : Aside0 (nd D (m * 3) = dueOf D mn m) := ⟨by unfold dueOf; rw [if_pos c, Int.toNat_natCast]⟩
    have HJ := Aside0.mk hj
    clear hI c
    go_enter Try.func37, Try.ntmps37
    go_wp2_with (first | (go_at_call 64; with_reducible refine (find_in g D mn ev la ls m _ HI.out hm).mono ?_; rintro e w' ⟨rfl, hb⟩; have HB := Aside0.mk hb; have hc1 : w'.cell? ⟨g, m * 3, none⟩ = some (.int .u64 (nd D (m * 3))) := (HI.out.below hb).cD HJ.out; clear hb))
    go_ret
    exact ⟨congrArg (fun x => Ending.returned (.int .u64 x)) ho.out, by repeat (first | exact HB.out | apply pw_below_drewN)⟩
  · have ho : Aside0 ((0 : Int) = dueOf D mn i) := ⟨by unfold dueOf; rw [if_neg c]⟩
    have HC := Aside0.mk c
    clear hI c
    go_enter Try.func37, Try.ntmps37
    go_wp2_with (first | (go_at_call 64; with_reducible refine (find_out g D mn ev la ls i _ HI.out HC.out).mono ?_; rintro e w' ⟨gb, rfl, hk, hge, hb⟩; have HB := Aside0.mk hb; have hc0 : w'.cell? ⟨gb, 0, none⟩ = some (.int .u64 0) := (blk_cell hk 0).trans rfl; have hc1 : w'.cell? ⟨gb, 1, none⟩ = some (.int .u64 0) := (blk_cell hk 1).trans rfl; clear hb hk hge))
    go_ret
    exact ⟨congrArg (fun x => Ending.returned (.int .u64 x)) ho.out, by repeat (first | exact HB.out | apply pw_below_drewN)⟩
set_option maxHeartbeats 8000000 in
set_option maxRecDepth 100000 in
theorem Answer_at (g : Nat) (D : List Int) (mn ev la ls i n : Int) (w : World) (r : Bool) (D2 : List Int) (hr : decide (n ≠ 0 ∧ outOf D mn i = n) = r) (hD : (if n ≠ 0 ∧ outOf D mn i = n then D.set (i.toNat * 3 + 1) 0 else D) = D2) (hI : IsP w g D mn ev la ls) :
    Calls Try.prog 34 #[.pointer (some ⟨g, 0, none⟩), .int .i64 i, .int .u64 n] w fun e w' => e = .returned (.bool r) ∧ IsP w' g D2 mn ev la ls ∧ Near w w' g := by
  have HI := Aside0.mk hI
  by_cases c : 0 ≤ i ∧ i < mn
  · obtain ⟨m, rfl⟩ := Int.eq_ofNat_of_zero_le c.1
    have hm : (m : Int) < mn := c.2
    have h6 := hI.mn6
    have hj : m * 3 + 1 < 18 := by omega
    have ho : outOf D mn m = nd D (m * 3 + 1) := by unfold outOf; rw [if_pos c, Int.toNat_natCast]
    rw [ho] at hr hD
    simp only [Int.toNat_natCast] at hD
    obtain ⟨o, hoo⟩ : ∃ o, nd D (m * 3 + 1) = o := ⟨_, rfl⟩
    rw [hoo] at hr hD
    have HCE := Aside0.mk hoo
    have HJ := Aside0.mk hj
    clear hI c ho h6
    by_cases c0 : n = 0
    · have b0 : (n == 0) = true := beq_iff_eq.mpr c0
      have hd := Aside0.mk (show r = false from hr.symm.trans (decide_eq_false (fun h => h.1 c0)))
      have hif := Aside0.mk (show D2 = D from hD.symm.trans (if_neg (fun h => h.1 c0)))
      clear c0 hoo hr hD
      go_enter Try.func34, Try.ntmps34
      go_wp2_with (first | (go_at_call 64; with_reducible refine (find_in g D mn ev la ls m _ HI.out hm).mono ?_; rintro e w' ⟨rfl, hb⟩; have HB := Aside0.mk hb; have hc1 : w'.cell? ⟨g, m * 3 + 1, none⟩ = some (.int .u64 o) := ((HI.out.below hb).cD HJ.out).trans (by rw [HCE.out]); clear hb))
      go_ret
      exact ⟨by rw [hd.out]; rfl, by rw [hif.out]; exact HI.out.below HB.out, Near.of_below HB.out g⟩
    · have b0 : (n == 0) = false := beq_eq_false_iff_ne.mpr c0
      by_cases c1 : o = n
      · have b1 : (o != n) = false := by simp [c1]
        have b1' : (n != n) = false := by simp
        have hd := Aside0.mk (show r = true from hr.symm.trans (decide_eq_true ⟨c0, c1⟩))
        have hif := Aside0.mk (show D2 = D.set (m * 3 + 1) 0 from hD.symm.trans (if_pos ⟨c0, c1⟩))
        clear c0 c1 hoo hr hD
        go_enter Try.func34, Try.ntmps34
        go_wp2_with (first | (go_at_call 64; with_reducible refine (find_in g D mn ev la ls m _ HI.out hm).mono ?_; rintro e w' ⟨rfl, hb⟩; have HB := Aside0.mk hb; have hc1 : w'.cell? ⟨g, m * 3 + 1, none⟩ = some (.int .u64 o) := ((HI.out.below hb).cD HJ.out).trans (by rw [HCE.out]); have hf1 := (HI.out.below hb).fz (m * 3 + 1); clear hb))
        go_ret
        exact ⟨by rw [hd.out]; rfl, by rw [hif.out]; exact (HI.out.below HB.out).setD _ HJ.out 0, (Near.of_below HB.out g).set_ _ _⟩
      · have b1 : (o != n) = true := by simp [c1]
        have hd := Aside0.mk (show r = false from hr.symm.trans (decide_eq_false (fun h => c1 h.2)))
        have hif := Aside0.mk (show D2 = D from hD.symm.trans (if_neg (fun h => c1 h.2)))
        clear c0 c1 hoo hr hD
        go_enter Try.func34, Try.ntmps34
        go_wp2_with (first | (go_at_call 64; with_reducible refine (find_in g D mn ev la ls m _ HI.out hm).mono ?_; rintro e w' ⟨rfl, hb⟩; have HB := Aside0.mk hb; have hc1 : w'.cell? ⟨g, m * 3 + 1, none⟩ = some (.int .u64 o) := ((HI.out.below hb).cD HJ.out).trans (by rw [HCE.out]); clear hb))
        go_ret
        exact ⟨by rw [hd.out]; rfl, by rw [hif.out]; exact HI.out.below HB.out, Near.of_below HB.out g⟩
  · have ho : outOf D mn i = 0 := by unfold outOf; rw [if_neg c]
    have hd := Aside0.mk (show r = false from hr.symm.trans (decide_eq_false (fun h => h.1 (by rw [← h.2, ho]))))
    have hif := Aside0.mk (show D2 = D from hD.symm.trans (if_neg (fun h => h.1 (by rw [← h.2, ho]))))
    have HC := Aside0.mk c
    clear hI c ho hr hD
    by_cases c0 : n = 0
    · have b0 : (n == 0) = true := beq_iff_eq.mpr c0
      clear c0
      go_enter Try.func34, Try.ntmps34
      go_wp2_with (first | (go_at_call 64; with_reducible refine (find_out g D mn ev la ls i _ HI.out HC.out).mono ?_; rintro e w' ⟨gb, rfl, hk, hge, hb⟩; have HB := Aside0.mk hb; have hc0 : w'.cell? ⟨gb, 0, none⟩ = some (.int .u64 0) := (blk_cell hk 0).trans rfl; have hc1 : w'.cell? ⟨gb, 1, none⟩ = some (.int .u64 0) := (blk_cell hk 1).trans rfl; clear hb hk hge))
      go_ret
      exact ⟨by rw [hd.out]; rfl, by rw [hif.out]; exact HI.out.below HB.out, Near.of_below HB.out g⟩
    · have b0 : (n == 0) = false := beq_eq_false_iff_ne.mpr c0
      have b1 : ((0 : Int) != n) = true := by simp; omega
      clear c0
      go_enter Try.func34, Try.ntmps34
      go_wp2_with (first | (go_at_call 64; with_reducible refine (find_out g D mn ev la ls i _ HI.out HC.out).mono ?_; rintro e w' ⟨gb, rfl, hk, hge, hb⟩; have HB := Aside0.mk hb; have hc0 : w'.cell? ⟨gb, 0, none⟩ = some (.int .u64 0) := (blk_cell hk 0).trans rfl; have hc1 : w'.cell? ⟨gb, 1, none⟩ = some (.int .u64 0) := (blk_cell hk 1).trans rfl; clear hb hk hge))
      go_ret
      exact ⟨by rw [hd.out]; rfl, by rw [hif.out]; exact HI.out.below HB.out, Near.of_below HB.out g⟩

/-- The plan of a new prober. -/
def newD (k : Nat) : List Int := (List.range k).foldl (fun D j => D.set (j * 3) (j : Int)) (List.replicate 18 0)
theorem newD_succ (k : Nat) : newD (k + 1) = (newD k).set (k * 3) (k : Int) := by
  unfold newD; rw [List.range_succ, List.foldl_append]; rfl
theorem zeros_cells (n ev la : Int) : cellsP (List.replicate 18 0) n ev la 0 = #[.int .u64 0, .int .u64 0, .int .u64 0, .int .u64 0, .int .u64 0, .int .u64 0, .int .u64 0, .int .u64 0, .int .u64 0, .int .u64 0, .int .u64 0, .int .u64 0, .int .u64 0, .int .u64 0, .int .u64 0, .int .u64 0, .int .u64 0, .int .u64 0, .int .i64 n, .int .u64 ev, .int .u64 la, .int .u64 0] := rfl
def okNew (n ev la : Int) : Prop := 1 ≤ n ∧ n ≤ 6 ∧ 1 ≤ ev ∧ ev ≤ 1000 ∧ 1 ≤ la ∧ la ≤ 1000
set_option maxHeartbeats 8000000 in
set_option maxRecDepth 100000 in
theorem New_bad (n ev la : Int) (w : World) (h : ¬ okNew n ev la) : Calls Try.prog 27 #[.int .i64 n, .int .u64 ev, .int .u64 la] w fun e w' => e = .returned (.tuple #[.pointer none, .int .i64 1]) ∧ w = w' := by
  unfold okNew at h
  by_cases c1 : n < 1
  · have b1 : decide (n < 1) = true := decide_eq_true c1
    clear h c1
    go_enter Try.func27, Try.ntmps27
    go_wp2
    go_ret2
    exact ⟨rfl, rfl⟩
  · have b1 : decide (n < 1) = false := decide_eq_false c1
    by_cases c2 : 6 < n
    · have b2 : decide (6 < n) = true := decide_eq_true c2
      clear h c1 c2
      go_enter Try.func27, Try.ntmps27
      go_wp2
      go_ret2
      exact ⟨rfl, rfl⟩
    · have b2 : decide (6 < n) = false := decide_eq_false c2
      by_cases c3 : 1 ≤ ev ∧ ev ≤ 1000
      · have b3 : decide (1 ≤ ev ∧ ev ≤ 1000) = true := decide_eq_true c3
        have b4 : decide (1 ≤ la ∧ la ≤ 1000) = false := decide_eq_false (fun h4 => h ⟨by omega, by omega, c3.1, c3.2, h4.1, h4.2⟩)
        clear h c1 c2 c3
        go_enter Try.func27, Try.ntmps27
        go_wp2_with (first | (go_at_call 62; with_reducible refine (within_calls ev _).mono ?_; rw [b3]; rintro e w' ⟨rfl, rfl⟩) | (go_at_call 62; with_reducible refine (within_calls la _).mono ?_; rw [b4]; rintro e w' ⟨rfl, rfl⟩))
        go_ret2
        exact ⟨rfl, rfl⟩
      · have b3 : decide (1 ≤ ev ∧ ev ≤ 1000) = false := decide_eq_false c3
        clear h c1 c2 c3
        go_enter Try.func27, Try.ntmps27
        go_wp2_with (first | (go_at_call 62; with_reducible refine (within_calls ev _).mono ?_; rw [b3]; rintro e w' ⟨rfl, rfl⟩))
        go_ret2
        exact ⟨rfl, rfl⟩
set_option maxHeartbeats 8000000 in
set_option maxRecDepth 100000 in
theorem New_ok (n ev la : Int) (w : World) (h : okNew n ev la) : Calls Try.prog 27 #[.int .i64 n, .int .u64 ev, .int .u64 la] w fun e w' => ∃ g : Nat, e = .returned (.tuple #[.pointer (some ⟨g, 0, none⟩), .int .i64 0]) ∧ IsP w' g (newD 6) n ev la 0 ∧ w.heap.size ≤ g ∧ Below w.heap.size w w' := by
  unfold okNew at h
  have b1 : decide (n < 1) = false := decide_eq_false (by omega)
  have b2 : decide (6 < n) = false := decide_eq_false (by omega)
  have b3 := Aside0.mk (show decide (1 ≤ ev ∧ ev ≤ 1000) = true from decide_eq_true (by omega))
  have b4 := Aside0.mk (show decide (1 ≤ la ∧ la ≤ 1000) = true from decide_eq_true (by omega))
  have HN := Aside0.mk (show 1 ≤ n ∧ n ≤ 6 by omega)
  clear h
  go_enter Try.func27, Try.ntmps27
  go_upto_region 4 with (first | (go_at_call 62; with_reducible refine (within_calls ev _).mono ?_; rw [b3.out]; rintro e w' ⟨rfl, rfl⟩) | (go_at_call 62; with_reducible refine (within_calls la _).mono ?_; rw [b4.out]; rintro e w' ⟨rfl, rfl⟩) | ((with_reducible refine gate_dst (N := 30) rfl ?_); refine box_event ?hg (N := 30) ?hd (cs := #[.int .u64 0, .int .u64 0, .int .u64 0, .int .u64 0, .int .u64 0, .int .u64 0, .int .u64 0, .int .u64 0, .int .u64 0, .int .u64 0, .int .u64 0, .int .u64 0, .int .u64 0, .int .u64 0, .int .u64 0, .int .u64 0, .int .u64 0, .int .u64 0, .int .i64 n, .int .u64 ev, .int .u64 la, .int .u64 0]) (t := 121) ?hr ?_; (case hd => rfl); (case hg => rfl); (case hr => first | (go_simp; done) | (go_simp; rfl)); intro g hg w2 hbox hb; have HP := Aside0.mk (show IsP w2 g (newD 0) n ev la 0 by unfold IsP; exact ⟨hbox, rfl, HN.out.1, HN.out.2⟩); have HG := Aside0.mk (show w.heap.size ≤ g by rw [hg]; exact Nat.le_refl _); have HB := Aside0.mk hb; clear hbox hg hb))
  (try simp only [Act.put, List.setIfInBounds_toArray, List.set_cons_zero, List.set_cons_succ])
  go_wp2
  go_loopg [31] 7 (fun kq v31 w' => ∃ (i : Nat), v31 = .int .i64 (i : Int) ∧ Aside0 (kq + i = 7) ∧ Aside0 (i ≤ 6) ∧ Aside0 (IsP w' g (newD i) n ev la 0) ∧ Aside0 (Below w.heap.size w w'))
  case atStart => exact ⟨0, rfl, ⟨rfl⟩, ⟨by omega⟩, HP, HB⟩
  case round =>
    clear HP HB
    obtain ⟨i, rfl, HK, HL, HP, HB⟩ := hrel
    obtain ⟨gk, rfl⟩ : ∃ gk', gk = gk' + 1 := ⟨gk - 1, by have := HK.out; have := HL.out; omega⟩
    by_cases c : i < 6
    · have c1 : decide ((i : Int) < 6) = true := decide_eq_true (by omega)
      have p1 : 0 ≤ (i : Int) := by omega
      have p2 : (i : Int) < 6 := by omega
      have hj : i * 3 < 18 := by omega
      have hw := wrap_u64_nat i (by omega)
      have hc := HP.out.cD hj
      have hf := HP.out.fz (i * 3)
      go_wp2
      go_roundg gk
      case measure => omega
      case rel => exact ⟨i + 1, congrArg (Value.int .i64) (by omega), ⟨by have := HK.out; omega⟩, ⟨by omega⟩, ⟨by rw [newD_succ]; exact HP.out.setD (i * 3) hj _⟩, ⟨below_set HB.out HG.out⟩⟩
    · have c1 : decide ((i : Int) < 6) = false := decide_eq_false (by omega)
      have h6 : i = 6 := by have := HL.out; omega
      subst h6
      go_wp2
      go_ret2
      exact ⟨g, rfl, HP.out, HG.out, HB.out⟩
end Go.Proofs.Ytagmefjpnmjcjaa.Pr
