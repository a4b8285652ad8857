/- The decoder of frames (package frame), by hand: what each method does to its cells. -/
import Derived.Test.YtagmefjpnmjcjabFrSpec
import Derived.Test.YtagmefjpnmjcjabFrx6
namespace Go.Proofs.Ytagmefjpnmjcjab.Fh
open Go.RowKit Go.Proofs.YtagmefjpnmjcjabW.PrintWords Go.Proofs.YtagmefjpnmjcjabW.PrintLast Go.Proofs.YtagmefjpnmjcjabW.PrintMore
open Go.Proofs.Ytagmefjpnmjcjab.Nu (slices_Clone_byte_byte.f slices_Clone_byte_byte.calls)
open Go.Proofs.Ytagmefjpnmjcjab.Fr (info5 info38 info41 S38 k38 k38_mkM k38_openM S41 k41 frame_Read.f frame_Read.calls)
open Go.Proofs.Ytagmefjpnmjcjab.FrNum (readS read_eq)
attribute [local go_sem] max2_int min2_int max_two min_two
set_option linter.unusedVariables false
set_option linter.unusedSimpArgs false

/-- All blocks but g stay, and what lies below is as before. -/
def Near (w w' : World) (g : Nat) : Prop := KeepBut w w' g none ∧ ∀ w0 : World, w0.heap.size ≤ g → Below w0.heap.size w0 w → Below w0.heap.size w0 w'
theorem Near.refl (w : World) (g : Nat) : Near w w g := ⟨KeepBut.refl _ _ _, fun _ _ h => h⟩
theorem Near.drewN {w w1 : World} {g : Nat} (h : Near w w1 g) (m : Nat) : Near w (w1.drewN m) g := ⟨h.1.trans (KeepBut.of_below (pw_below_drewN (Below.refl _ _) m) g none) (.inl rfl), fun w0 hg hB => pw_below_drewN (h.2 w0 hg hB) m⟩
theorem Near.set_ {w w1 : World} {g : Nat} (h : Near w w1 g) (j : Nat) (u : Value) : Near w (w1.setCell ⟨g, j, none⟩ u) g := ⟨h.1.set_ j u, fun w0 hg hB => below_set (h.2 w0 hg hB) hg⟩
theorem Near.bel {w w' w0 : World} {g : Nat} (h : Near w w' g) (hg : w0.heap.size ≤ g) (hB : Below w0.heap.size w0 w) : Below w0.heap.size w0 w' := h.2 w0 hg hB
theorem Near.keep {w w' : World} {g : Nat} (h : Near w w' g) : KeepBut w w' g none := h.1
theorem Near.of_below {w w' : World} (h : Below w.heap.size w w') (g : Nat) : Near w w' g := ⟨KeepBut.of_below h g none, fun w0 hg hB => below_step hB h⟩
theorem Near.then_below {w W w' : World} {g : Nat} (h : Near w W g) (hb : Below W.heap.size W w') : Near w w' g :=
  ⟨h.1.trans (KeepBut.of_below hb g none) (.inl rfl), fun w0 hg hB => below_step (h.2 w0 hg hB) hb⟩
theorem Near.grown {w W w' : World} {g : Nat} (h : Near w W g) {row : Option Nat} (hg : W.grownBy w' row) (hr : ∀ k, row = some k → w.heap.size ≤ k) (hgl : g < w.heap.size) : Near w w' g :=
  ⟨⟨Nat.le_trans h.1.1 hg.size, fun i hi hne _ => (hg.block i (Nat.lt_of_lt_of_le hi h.1.1) (fun e => by have := hr i e.symm; omega)).trans (h.1.2 i hi hne (by simp))⟩,
    fun w0 hw0 hB => (h.2 w0 hw0 hB).grown hg (by have := h.1.1; omega) (fun k hk => by have := hr k hk; omega)⟩
theorem Near.size_ {w w' : World} {g : Nat} (h : Near w w' g) : w.heap.size ≤ w'.heap.size := h.1.1
theorem Near.drew1 {w w1 : World} {g : Nat} (h : Near w w1 g) : Near w w1.drew g := ⟨h.1.trans (KeepBut.of_below (below_drew1 (Below.refl _ _)) g none) (.inl rfl), fun w0 hg hB => below_drew1 (h.2 w0 hg hB)⟩
theorem Near.far {w W : World} {g gb : Nat} (h : Near w W g) (hge : w.heap.size ≤ gb) (j : Nat) (u : Value) (hgl : g < w.heap.size) : Near w (W.setCell ⟨gb, j, none⟩ u) g :=
  ⟨⟨by simpa [World.setCell] using h.1.1, fun i hi hne hr => (Below.heap_setCell W ⟨gb, j, none⟩ u i (by simp; omega)).trans (h.1.2 i hi hne hr)⟩, fun w0 hg hB => below_set (h.2 w0 hg hB) (by omega)⟩

/-- Bytes, wherever a slice of them lies in blocks of bytes. -/
def T8 (W : World) (v : Value) (l : List Int) : Prop := ∃ ok : Nat → Prop, (∀ k, ok k → ∃ cells, W.heap[k]? = some (.cells cells 5 (0, 0))) ∧ Kd.V (Kd.int .u8) 5 W 0 ok v l
section
variable {W W' : World} {v : Value} {l : List Int}
theorem T8.same (h : T8 W v l) (hm : ∀ (k : Nat) (cells : Array Value), W.heap[k]? = some (.cells cells 5 (0, 0)) → W'.heap[k]? = W.heap[k]?) : T8 W' v l := by
  obtain ⟨ok, ho, hv⟩ := h
  refine ⟨ok, fun k hk => ?_, Kd.V_step hv (fun k hk _ => ?_)⟩
  · obtain ⟨cells, hc⟩ := ho k hk
    exact ⟨cells, (hm k cells hc).trans hc⟩
  · obtain ⟨cells, hc⟩ := ho k hk
    exact hm k cells hc
theorem T8.below (h : T8 W v l) (hb : Below W.heap.size W W') : T8 W' v l := h.same (fun k _ hc => hb.block k (blk_lt hc))
theorem T8.drewN (h : T8 W v l) (m : Nat) : T8 (W.drewN m) v l := h.below (pw_below_drewN (Below.refl _ _) m)
theorem T8.drew (h : T8 W v l) : T8 W.drew v l := h.below (below_drew1 (Below.refl _ _))
theorem T8.alloc (h : T8 W v l) (o : Obj) : T8 (W.alloc o) v l := h.below (below_alloc (Below.refl _ _) o)
theorem ne_typed {g k t q : Nat} {cs cells : Array Value} (hg : W.heap[g]? = some (.cells cs t (0, 0))) (hk : W.heap[k]? = some (.cells cells q (0, 0))) (ht : t ≠ q) : k ≠ g := by
  rintro rfl
  rw [hk] at hg
  injection hg with hg
  injection hg with _ hg
  exact ht hg.symm
theorem T8.far (h : T8 W v l) {g t : Nat} {cs : Array Value} (hg : W.heap[g]? = some (.cells cs t (0, 0))) (ht : t ≠ 5) (j : Nat) (u : Value) : T8 (W.setCell ⟨g, j, none⟩ u) v l :=
  h.same (fun k _ hc => Below.heap_setCell W ⟨g, j, none⟩ u k (ne_typed hg hc ht))
theorem T8.keep (h : T8 W v l) {g t : Nat} {cs : Array Value} (hg : W.heap[g]? = some (.cells cs t (0, 0))) (ht : t ≠ 5) (hk : KeepBut W W' g none) : T8 W' v l :=
  h.same (fun k _ hc => hk.2 k (blk_lt hc) (ne_typed hg hc ht) (by simp))
theorem T8.grown (h : T8 W v l) {row : Option Nat} (hg : W.grownBy W' row) (hr : ∀ k, row = some k → ∀ cells, W.heap[k]? ≠ some (.cells cells 5 (0, 0))) : T8 W' v l :=
  h.same (fun k cells hc => hg.block k (blk_lt hc) (fun e => hr k e.symm cells hc))
theorem T8.of_R {base : Nat} {ok : Nat → Prop} (h : Kd.R (Kd.int .u8) 5 W base ok v l) : T8 W v l := by
  refine ⟨_, ?_, Kd.R_V (Kd.R_bound h)⟩
  rintro k ⟨_, _, _, q, hq, cells, hc⟩
  have : q = 5 := by simpa [Kd.int, Kd.scalar] using hq
  subst this
  exact ⟨cells, hc⟩
theorem T8.nil (W : World) : T8 W (.slice none 0 0) [] := ⟨fun _ => False, fun _ h => h.elim, Kd.V_nil _ _ _ _ _⟩
theorem T8.slice (h : T8 W v l) : ∃ A c, v = .slice A l.length c := by
  obtain ⟨_, _, hv⟩ := h
  exact Kd.V_slice hv
theorem T8.at_ {A : Option Addr} {n c : Nat} (h : T8 W (.slice A n c) l) : n = l.length ∧ n ≤ c ∧ Kd.C (Kd.int .u8) W A n l := by
  obtain ⟨_, _, hv⟩ := h
  have h2 := Kd.V_reads' hv
  refine ⟨h2.1, h2.2.1, ?_⟩
  rw [h2.1]
  exact h2.2.2
theorem T8.cut {A : Option Addr} {n c : Nat} (h : T8 W (.slice A n c) l) (m : Nat) (hm : m ≤ n) : T8 W (.slice (if c = m then A else A.map (·.add (m * 1))) (n - m) (c - m)) (l.drop m) := by
  obtain ⟨ok, ho, hv⟩ := h
  have h2 := Kd.V_at hv
  obtain ⟨h3, h4, h5⟩ := h2
  have h6 := Kd.F_cut (m := m) (c := c) h5 (by omega) (by omega)
  refine ⟨ok, ho, ?_⟩
  rw [show n - m = (l.drop m).length by rw [List.length_drop]; omega]
  exact Kd.V_mk (by rw [List.length_drop]; omega) h6
end
/-- A decoder at block g: what it keeps, and what ended it. -/
def IsD (W : World) (g : Nat) (b : List Int) (e : Int) : Prop := ∃ v, W.heap[g]? = some (.cells #[v, .int .i64 e] 93 (0, 0)) ∧ T8 W v b
section
variable {W W' : World} {g : Nat} {b : List Int} {e : Int}
theorem IsD.lt (h : IsD W g b e) : g < W.heap.size := by
  obtain ⟨v, hb, _⟩ := h
  exact blk_lt hb
theorem IsD.typed (h : IsD W g b e) : ∃ cells, W.heap[g]? = some (.cells cells 93 (0, 0)) := by
  obtain ⟨v, hb, _⟩ := h
  exact ⟨_, hb⟩
theorem IsD.below (h : IsD W g b e) (hb : Below W.heap.size W W') : IsD W' g b e := by
  obtain ⟨v, h1, h2⟩ := h
  exact ⟨v, (hb.block g (blk_lt h1)).trans h1, h2.below hb⟩
theorem IsD.drewN (h : IsD W g b e) (m : Nat) : IsD (W.drewN m) g b e := h.below (pw_below_drewN (Below.refl _ _) m)
theorem IsD.drew (h : IsD W g b e) : IsD W.drew g b e := h.below (below_drew1 (Below.refl _ _))
theorem IsD.alloc (h : IsD W g b e) (o : Obj) : IsD (W.alloc o) g b e := h.below (below_alloc (Below.refl _ _) o)
theorem IsD.near (h : IsD W g b e) {g2 : Nat} (hne : g ≠ g2) (ht : ∃ cells, W.heap[g2]? = some (.cells cells 93 (0, 0))) (hn : Near W W' g2) : IsD W' g b e := by
  obtain ⟨v, h1, h2⟩ := h
  obtain ⟨cells, hc⟩ := ht
  exact ⟨v, KeepBut.blk hn.keep h1 hne (by simp), h2.keep hc (by decide) hn.keep⟩
theorem IsD.grown (h : IsD W g b e) {row : Option Nat} {t : Nat} (hg : W.grownBy W' row) (hr : ∀ k, row = some k → ∃ cells, W.heap[k]? = some (.cells cells t (0, 0))) (h1 : t ≠ 93) (h2 : t ≠ 5) : IsD W' g b e := by
  obtain ⟨v, hb, hv⟩ := h
  refine ⟨v, (hg.block g (blk_lt hb) (fun e2 => ?_)).trans hb, hv.grown hg (fun k hk cells hc => ?_)⟩
  · obtain ⟨cells, hc⟩ := hr g e2.symm
    exact ne_typed hc hb h1 rfl
  · obtain ⟨cells2, hc2⟩ := hr k hk
    exact ne_typed hc2 hc h2 rfl
theorem IsD.c0 (h : IsD W g b e) : ∃ A c, W.cell? ⟨g, 0, none⟩ = some (.slice A b.length c) ∧ T8 W (.slice A b.length c) b := by
  obtain ⟨v, hb, hv⟩ := h
  obtain ⟨A, c, rfl⟩ := hv.slice
  exact ⟨A, c, (blk_cell hb 0).trans rfl, hv⟩
theorem IsD.c1 (h : IsD W g b e) : W.cell? ⟨g, 1, none⟩ = some (.int .i64 e) := by
  obtain ⟨v, hb, hv⟩ := h
  exact (blk_cell hb 1).trans rfl
theorem IsD.fz (h : IsD W g b e) (j : Nat) : W.frozen? ⟨g, j, none⟩ = false := by
  obtain ⟨v, hb, hv⟩ := h
  exact blk_frozen hb j
theorem IsD.setE (h : IsD W g b e) (x : Int) : IsD (W.setCell ⟨g, 1, none⟩ (.int .i64 x)) g b x := by
  obtain ⟨v, hb, hv⟩ := h
  exact ⟨v, (blk_set hb 1 (.int .i64 x)).trans rfl, hv.far hb (by decide) 1 _⟩
theorem IsD.setB (h : IsD W g b e) {v2 : Value} {b2 : List Int} (h2 : T8 W v2 b2) : IsD (W.setCell ⟨g, 0, none⟩ v2) g b2 e := by
  obtain ⟨v, hb, hv⟩ := h
  exact ⟨v2, (blk_set hb 0 v2).trans rfl, h2.far hb (by decide) 0 _⟩
end
attribute [local irreducible] IsD T8 Near

set_option maxHeartbeats 8000000 in
set_option maxRecDepth 100000 in
theorem Grow_calls (n : Int) (w : World) (h0 : 0 ≤ n) (hn : n ≤ 1000000000) :
    Calls Try.prog 64 #[.slice none 0 0, .int .i64 n] w fun e w' => ∃ v : Value, e = .returned v ∧ Kd.R (Kd.int .u8) 5 w' w.heap.size (fun _ => True) v [] ∧ Below w.heap.size w w' := by
  have b0 : decide (n < 0) = false := decide_eq_false (by omega)
  have w0 : wrap64 n = n := FrNum.wrap64_of (by omega) (by omega)
  by_cases c : n = 0
  · subst c
    go_enter Try.func64, Try.ntmps64
    go_wp2
    first | go_ret | go_ret2 | go_ret3
    exact ⟨_, rfl, Kd.R_nil _ _ _ _ _, by repeat (first | exact Below.refl _ _ | apply pw_below_drewN)⟩
  · have b1 : decide (0 < n) = true := decide_eq_true (by omega)
    have H0 := Aside0.mk h0
    have HN := Aside0.mk hn
    have HC := Aside0.mk c
    clear c
    go_enter Try.func64, Try.ntmps64
    go_wp2_with (first | ((with_reducible refine gate_builtin (b := .append) (xs := #[.tmp 20, .tmp 21]) rfl ?_); at_builtin; refine Kd.R_append_zeros (Kd.int .u8) (w0 := w) w.heap.size rfl (.tmp 20) (.tmp 21) 22 3 5 (.int .u8 0) 1 rfl Try.underlying22 (k := .i64) Try.underlying3 info5 rfl (by decide) (by omega) (.slice none 0 0) [] 0 (kx := .i64) n (fun _ => True) rfl rfl rfl (fun _ _ => trivial) (Kd.R_nil _ _ _ _ _) H0.out (by repeat (first | exact Below.refl _ _ | apply pw_below_drewN)) (by exact Nat.le_refl _) (by have := H0.out; have := HN.out; simp only [List.length_nil]; omega) ?_; intro v1 w1 ho hb hg hat; have hlen : ([] ++ List.replicate n.toNat (0 : Int)).length = n.toNat := (by simp); have hpos : 0 < ([] ++ List.replicate n.toNat (0 : Int)).length := (by have := H0.out; have := HC.out; rw [hlen]; omega); obtain ⟨gq, cq, ev, hge, hlt, hcell⟩ := Kd.R_form ho hpos; subst ev; have hcap := (Kd.R_reads' ho).2.1; have HT := Aside0.mk (Kd.R_take (m := 0) ho (Nat.zero_le _)); rw [hlen] at hcap ⊢; have HB := Aside0.mk hb; clear ho hb hg hat hpos hge hlt hcell hlen; obtain ⟨i0, hi0, _, hsz0, _⟩ := info_parts info5; have hcut := cut_to (P := Try.prog) 22 5 .i64 Try.underlying22 hi0 (some ⟨gq, 0, none⟩) n.toNat cq 0 (by omega) (by omega) hcap; clear hcap))
    go_ret
    exact ⟨_, rfl, by simpa using HT.out, by repeat (first | exact HB.out | apply pw_below_drewN)⟩
end Go.Proofs.Ytagmefjpnmjcjab.Fh
