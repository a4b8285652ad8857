/- What the printed functions of the frame package compute, in plain words. -/
import Derived.Test.YtagmefjpnmjcjabFrNum
import Derived.Test.YtagmefjpnmjcjabFrx3
import Derived.WalkMore
import Derived.Lib.Bytes
namespace Go.Proofs.Ytagmefjpnmjcjab.FrNum
open Go.RowKit Go.Proofs.Ytagmefjpnmjcjab.Nu Go.Proofs.Ytagmefjpnmjcjab.Fr Go.Proofs.YtagmefjpnmjcjabW.PrintWords Go.Proofs.YtagmefjpnmjcjabW.PrintLast Go.Proofs.YtagmefjpnmjcjabW.PrintMore
set_option linter.unusedVariables false
set_option linter.unusedSimpArgs false

/-- The kind and the body behind a length `n`. -/
def bodyS (n : Int) (r : List Int) : Int × List Int × Int × Int :=
  match r with
  | [] => (0, [], 0, 3)
  | c :: t => if c = 0 then (0, [], 0, 2) else (c, t.take (n - 1).toNat, 2 + n, 0)
/-- The frame behind a length `n`. -/
def lenS (n : Int) (r : List Int) : Int × List Int × Int × Int :=
  if n = 0 then (0, [], 0, 2) else if n > 301 then (0, [], 0, 4) else if (r.length : Int) < n then (0, [], 0, 3) else bodyS n r
/-- The frame that bytes begin with: kind, body, how many bytes, error. -/
def readS (b : List Int) : Int × List Int × Int × Int :=
  match b with
  | x :: y :: r => lenS (256 * x + y) r
  | _ => (0, [], 0, 3)
theorem readS_two (x y : Int) (r : List Int) : readS (x :: y :: r) = lenS (256 * x + y) r := rfl
theorem wrap64_of {n : Int} (h0 : -1000000000 ≤ n) (h1 : n ≤ 1000000000) : wrap64 n = n := by unfold wrap64; omega
theorem read_eq (k : Nat) (b : List Int) (hb : Bytes b) (hl : b.length ≤ 1000000) (hk : 11 ≤ k) : frame_Read.f k b = some (readS b) := by
  unfold frame_Read.f
  rw [take_eq k b 2 hb (by omega) hk, if_pos (by omega)]
  match b, hb, hl with
  | [], _, _ => rfl
  | [x], _, _ => rfl
  | x :: y :: r, hb, hl =>
    have hx := hb x (by simp)
    have hy := hb y (by simp)
    simp only [List.length_cons] at hl
    rw [if_neg (by simp; omega)]
    have hv : vl 0 ((x :: y :: r).take (2 : Int).toNat) = 256 * x + y := by simp [vl]
    have hd : (x :: y :: r).drop (2 : Int).toNat = r := rfl
    rw [hv, hd]
    obtain ⟨n, hn⟩ : ∃ n, 256 * x + y = n := ⟨_, rfl⟩
    simp only [Option.bind_some, hn]
    rw [readS_two, hn]; unfold lenS
    rw [if_pos trivial]
    by_cases c0 : n = 0
    · rw [if_pos c0, if_pos c0]
    · rw [if_neg c0, if_neg c0]
      by_cases c1 : n > 301
      · rw [if_pos c1, if_pos c1]
      · rw [if_neg c1, if_neg c1, u64_small (by omega) (by omega)]
        by_cases c2 : (r.length : Int) < n
        · rw [if_pos c2, if_pos c2]
        · rw [if_neg c2, if_neg c2]
          cases r with
          | nil => simp at c2; omega
          | cons c t =>
            have hc : rd (c :: t) 0 = c := rfl
            unfold bodyS
            rw [if_pos (by simp only [List.length_cons]; omega), hc]; show _ = some (if c = 0 then (0, [], 0, 2) else (c, t.take (n - 1).toNat, 2 + n, 0))
            by_cases c3 : c = 0
            · simp only [c3, if_true]
            · simp only [if_neg c3]
              rw [if_pos (by omega), if_pos (by omega)]
              obtain ⟨m, hm⟩ : ∃ m : Nat, n.toNat = m + 1 := ⟨n.toNat - 1, by omega⟩
              have hm2 : (n - 1).toNat = m := by omega
              simp only [List.length_cons] at c2 hl
              rw [hm, hm2, List.take_succ_cons, List.drop_one, List.tail_cons, clone_eq _ (by rw [List.length_take]; omega)]
              simp only [Option.bind_some]
              rw [wrap64_of (n := n) (by omega) (by omega), wrap64_of (by omega) (by omega)]
end Go.Proofs.Ytagmefjpnmjcjab.FrNum

/- The decoder of frames (package frame), by hand: what each method does to its cells. -/
namespace Go.Proofs.Ytagmefjpnmjcjab.Fh
open Go.RowKit Go.Proofs.YtagmefjpnmjcjabW.PrintWords Go.Proofs.YtagmefjpnmjcjabW.PrintLast Go.Proofs.YtagmefjpnmjcjabW.PrintMore
open Go.Proofs.Ytagmefjpnmjcjab.Nu (slices_Clone_byte_byte.f slices_Clone_byte_byte.calls)
open Go.Proofs.Ytagmefjpnmjcjab.Fr (info5 info38 info41 S38 k38 k38_mkM k38_openM S41 k41 frame_Read.f frame_Read.calls)
open Go.Proofs.Ytagmefjpnmjcjab.FrNum (readS read_eq)
attribute [local go_sem] max2_int min2_int max_two min_two
set_option linter.unusedVariables false
set_option linter.unusedSimpArgs false

/-- All blocks but g stay, and what lies below is as before. -/
def Near (w w' : World) (g : Nat) : Prop := KeepBut w w' g none ∧ ∀ w0 : World, w0.heap.size ≤ g → Below w0.heap.size w0 w → Below w0.heap.size w0 w'
theorem Near.refl (w : World) (g : Nat) : Near w w g := ⟨KeepBut.refl _ _ _, fun _ _ h => h⟩
theorem Near.drewN {w w1 : World} {g : Nat} (h : Near w w1 g) (m : Nat) : Near w (w1.drewN m) g := ⟨h.1.trans (KeepBut.of_below (pw_below_drewN (Below.refl _ _) m) g none) (.inl rfl), fun w0 hg hB => pw_below_drewN (h.2 w0 hg hB) m⟩
theorem Near.set_ {w w1 : World} {g : Nat} (h : Near w w1 g) (j : Nat) (u : Value) : Near w (w1.setCell ⟨g, j, none⟩ u) g := ⟨h.1.set_ j u, fun w0 hg hB => below_set (h.2 w0 hg hB) hg⟩
theorem Near.bel {w w' w0 : World} {g : Nat} (h : Near w w' g) (hg : w0.heap.size ≤ g) (hB : Below w0.heap.size w0 w) : Below w0.heap.size w0 w' := h.2 w0 hg hB
theorem Near.keep {w w' : World} {g : Nat} (h : Near w w' g) : KeepBut w w' g none := h.1
theorem Near.of_below {w w' : World} (h : Below w.heap.size w w') (g : Nat) : Near w w' g := ⟨KeepBut.of_below h g none, fun w0 hg hB => below_step hB h⟩
theorem Near.then_below {w W w' : World} {g : Nat} (h : Near w W g) (hb : Below W.heap.size W w') : Near w w' g :=
  ⟨h.1.trans (KeepBut.of_below hb g none) (.inl rfl), fun w0 hg hB => below_step (h.2 w0 hg hB) hb⟩
theorem Near.grown {w W w' : World} {g : Nat} (h : Near w W g) {row : Option Nat} (hg : W.grownBy w' row) (hr : ∀ k, row = some k → w.heap.size ≤ k) (hgl : g < w.heap.size) : Near w w' g :=
  ⟨⟨Nat.le_trans h.1.1 hg.size, fun i hi hne _ => (hg.block i (Nat.lt_of_lt_of_le hi h.1.1) (fun e => by have := hr i e.symm; omega)).trans (h.1.2 i hi hne (by simp))⟩,
    fun w0 hw0 hB => (h.2 w0 hw0 hB).grown hg (by have := h.1.1; omega) (fun k hk => by have := hr k hk; omega)⟩
theorem Near.size_ {w w' : World} {g : Nat} (h : Near w w' g) : w.heap.size ≤ w'.heap.size := h.1.1
theorem Near.drew1 {w w1 : World} {g : Nat} (h : Near w w1 g) : Near w w1.drew g := ⟨h.1.trans (KeepBut.of_below (below_drew1 (Below.refl _ _)) g none) (.inl rfl), fun w0 hg hB => below_drew1 (h.2 w0 hg hB)⟩
theorem Near.far {w W : World} {g gb : Nat} (h : Near w W g) (hge : w.heap.size ≤ gb) (j : Nat) (u : Value) (hgl : g < w.heap.size) : Near w (W.setCell ⟨gb, j, none⟩ u) g :=
  ⟨⟨by simpa [World.setCell] using h.1.1, fun i hi hne hr => (Below.heap_setCell W ⟨gb, j, none⟩ u i (by simp; omega)).trans (h.1.2 i hi hne hr)⟩, fun w0 hg hB => below_set (h.2 w0 hg hB) (by omega)⟩

/-- Bytes, wherever a slice of them lies in blocks of bytes. -/
def T8 (W : World) (v : Value) (l : List Int) : Prop := ∃ ok : Nat → Prop, (∀ k, ok k → ∃ cells, W.heap[k]? = some (.cells cells 5 (0, 0))) ∧ Kd.V (Kd.int .u8) 5 W 0 ok v l
section
variable {W W' : World} {v : Value} {l : List Int}
theorem T8.same (h : T8 W v l) (hm : ∀ (k : Nat) (cells : Array Value), W.heap[k]? = some (.cells cells 5 (0, 0)) → W'.heap[k]? = W.heap[k]?) : T8 W' v l := by
  obtain ⟨ok, ho, hv⟩ := h
  refine ⟨ok, fun k hk => ?_, Kd.V_step hv (fun k hk _ => ?_)⟩
  · obtain ⟨cells, hc⟩ := ho k hk
    exact ⟨cells, (hm k cells hc).trans hc⟩
  · obtain ⟨cells, hc⟩ := ho k hk
    exact hm k cells hc
theorem T8.below (h : T8 W v l) (hb : Below W.heap.size W W') : T8 W' v l := h.same (fun k _ hc => hb.block k (blk_lt hc))
theorem T8.drewN (h : T8 W v l) (m : Nat) : T8 (W.drewN m) v l := h.below (pw_below_drewN (Below.refl _ _) m)
theorem T8.drew (h : T8 W v l) : T8 W.drew v l := h.below (below_drew1 (Below.refl _ _))
theorem T8.alloc (h : T8 W v l) (o : Obj) : T8 (W.alloc o) v l := h.below (below_alloc (Below.refl _ _) o)
theorem ne_typed {g k t q : Nat} {cs cells : Array Value} (hg : W.heap[g]? = some (.cells cs t (0, 0))) (hk : W.heap[k]? = some (.cells cells q (0, 0))) (ht : t ≠ q) : k ≠ g := by
  rintro rfl
  rw [hk] at hg
  injection hg with hg
  injection hg with _ hg
  exact ht hg.symm
theorem T8.far (h : T8 W v l) {g t : Nat} {cs : Array Value} (hg : W.heap[g]? = some (.cells cs t (0, 0))) (ht : t ≠ 5) (j : Nat) (u : Value) : T8 (W.setCell ⟨g, j, none⟩ u) v l :=
  h.same (fun k _ hc => Below.heap_setCell W ⟨g, j, none⟩ u k (ne_typed hg hc ht))
theorem T8.keep (h : T8 W v l) {g t : Nat} {cs : Array Value} (hg : W.heap[g]? = some (.cells cs t (0, 0))) (ht : t ≠ 5) (hk : KeepBut W W' g none) : T8 W' v l :=
  h.same (fun k _ hc => hk.2 k (blk_lt hc) (ne_typed hg hc ht) (by simp))
theorem T8.grown (h : T8 W v l) {row : Option Nat} (hg : W.grownBy W' row) (hr : ∀ k, row = some k → ∀ cells, W.heap[k]? ≠ some (.cells cells 5 (0, 0))) : T8 W' v l :=
  h.same (fun k cells hc => hg.block k (blk_lt hc) (fun e => hr k e.symm cells hc))
theorem T8.of_R {base : Nat} {ok : Nat → Prop} (h : Kd.R (Kd.int .u8) 5 W base ok v l) : T8 W v l := by
  refine ⟨_, ?_, Kd.R_V (Kd.R_bound h)⟩
  rintro k ⟨_, _, _, q, hq, cells, hc⟩
  have : q = 5 := by simpa [Kd.int, Kd.scalar] using hq
  subst this
  exact ⟨cells, hc⟩
theorem T8.nil (W : World) : T8 W (.slice none 0 0) [] := ⟨fun _ => False, fun _ h => h.elim, Kd.V_nil _ _ _ _ _⟩
theorem T8.slice (h : T8 W v l) : ∃ A c, v = .slice A l.length c := by
  obtain ⟨_, _, hv⟩ := h
  exact Kd.V_slice hv
theorem T8.at_ {A : Option Addr} {n c : Nat} (h : T8 W (.slice A n c) l) : n = l.length ∧ n ≤ c ∧ Kd.C (Kd.int .u8) W A n l := by
  obtain ⟨_, _, hv⟩ := h
  have h2 := Kd.V_reads' hv
  refine ⟨h2.1, h2.2.1, ?_⟩
  rw [h2.1]
  exact h2.2.2
theorem T8.cut {A : Option Addr} {n c : Nat} (h : T8 W (.slice A n c) l) (m : Nat) (hm : m ≤ n) : T8 W (.slice (if c = m then A else A.map (·.add (m * 1))) (n - m) (c - m)) (l.drop m) := by
  obtain ⟨ok, ho, hv⟩ := h
  have h2 := Kd.V_at hv
  obtain ⟨h3, h4, h5⟩ := h2
  have h6 := Kd.F_cut (m := m) (c := c) h5 (by omega) (by omega)
  refine ⟨ok, ho, ?_⟩
  rw [show n - m = (l.drop m).length by rw [List.length_drop]; omega]
  exact Kd.V_mk (by rw [List.length_drop]; omega) h6
end
/-- A decoder at block g: what it keeps, and what ended it. -/
def IsD (W : World) (g : Nat) (b : List Int) (e : Int) : Prop := ∃ v, W.heap[g]? = some (.cells #[v, .int .i64 e] 93 (0, 0)) ∧ T8 W v b
section
variable {W W' : World} {g : Nat} {b : List Int} {e : Int}
theorem IsD.lt (h : IsD W g b e) : g < W.heap.size := by
  obtain ⟨v, hb, _⟩ := h
  exact blk_lt hb
theorem IsD.typed (h : IsD W g b e) : ∃ cells, W.heap[g]? = some (.cells cells 93 (0, 0)) := by
  obtain ⟨v, hb, _⟩ := h
  exact ⟨_, hb⟩
theorem IsD.below (h : IsD W g b e) (hb : Below W.heap.size W W') : IsD W' g b e := by
  obtain ⟨v, h1, h2⟩ := h
  exact ⟨v, (hb.block g (blk_lt h1)).trans h1, h2.below hb⟩
theorem IsD.drewN (h : IsD W g b e) (m : Nat) : IsD (W.drewN m) g b e := h.below (pw_below_drewN (Below.refl _ _) m)
theorem IsD.drew (h : IsD W g b e) : IsD W.drew g b e := h.below (below_drew1 (Below.refl _ _))
theorem IsD.alloc (h : IsD W g b e) (o : Obj) : IsD (W.alloc o) g b e := h.below (below_alloc (Below.refl _ _) o)
theorem IsD.near (h : IsD W g b e) {g2 : Nat} (hne : g ≠ g2) (ht : ∃ cells, W.heap[g2]? = some (.cells cells 93 (0, 0))) (hn : Near W W' g2) : IsD W' g b e := by
  obtain ⟨v, h1, h2⟩ := h
  obtain ⟨cells, hc⟩ := ht
  exact ⟨v, KeepBut.blk hn.keep h1 hne (by simp), h2.keep hc (by decide) hn.keep⟩
theorem IsD.grown (h : IsD W g b e) {row : Option Nat} {t : Nat} (hg : W.grownBy W' row) (hr : ∀ k, row = some k → ∃ cells, W.heap[k]? = some (.cells cells t (0, 0))) (h1 : t ≠ 93) (h2 : t ≠ 5) : IsD W' g b e := by
  obtain ⟨v, hb, hv⟩ := h
  refine ⟨v, (hg.block g (blk_lt hb) (fun e2 => ?_)).trans hb, hv.grown hg (fun k hk cells hc => ?_)⟩
  · obtain ⟨cells, hc⟩ := hr g e2.symm
    exact ne_typed hc hb h1 rfl
  · obtain ⟨cells2, hc2⟩ := hr k hk
    exact ne_typed hc2 hc h2 rfl
theorem IsD.c0 (h : IsD W g b e) : ∃ A c, W.cell? ⟨g, 0, none⟩ = some (.slice A b.length c) ∧ T8 W (.slice A b.length c) b := by
  obtain ⟨v, hb, hv⟩ := h
  obtain ⟨A, c, rfl⟩ := hv.slice
  exact ⟨A, c, (blk_cell hb 0).trans rfl, hv⟩
theorem IsD.c1 (h : IsD W g b e) : W.cell? ⟨g, 1, none⟩ = some (.int .i64 e) := by
  obtain ⟨v, hb, hv⟩ := h
  exact (blk_cell hb 1).trans rfl
theorem IsD.fz (h : IsD W g b e) (j : Nat) : W.frozen? ⟨g, j, none⟩ = false := by
  obtain ⟨v, hb, hv⟩ := h
  exact blk_frozen hb j
theorem IsD.setE (h : IsD W g b e) (x : Int) : IsD (W.setCell ⟨g, 1, none⟩ (.int .i64 x)) g b x := by
  obtain ⟨v, hb, hv⟩ := h
  exact ⟨v, (blk_set hb 1 (.int .i64 x)).trans rfl, hv.far hb (by decide) 1 _⟩
theorem IsD.setB (h : IsD W g b e) {v2 : Value} {b2 : List Int} (h2 : T8 W v2 b2) : IsD (W.setCell ⟨g, 0, none⟩ v2) g b2 e := by
  obtain ⟨v, hb, hv⟩ := h
  exact ⟨v2, (blk_set hb 0 v2).trans rfl, h2.far hb (by decide) 0 _⟩
end
attribute [local irreducible] IsD T8 Near

set_option maxHeartbeats 8000000 in
set_option maxRecDepth 100000 in
theorem Grow_calls (n : Int) (w : World) (h0 : 0 ≤ n) (hn : n ≤ 1000000000) :
    Calls Try.prog 64 #[.slice none 0 0, .int .i64 n] w fun e w' => ∃ v : Value, e = .returned v ∧ Kd.R (Kd.int .u8) 5 w' w.heap.size (fun _ => True) v [] ∧ Below w.heap.size w w' := by
  have b0 : decide (n < 0) = false := decide_eq_false (by omega)
  have w0 : wrap64 n = n := FrNum.wrap64_of (by omega) (by omega)
  by_cases c : n = 0
  · subst c
    go_enter Try.func64, Try.ntmps64
    go_wp2
    first | go_ret | go_ret2 | go_ret3
    exact ⟨_, rfl, Kd.R_nil _ _ _ _ _, by repeat (first | exact Below.refl _ _ | apply pw_below_drewN)⟩
  · have b1 : decide (0 < n) = true := decide_eq_true (by omega)
    have H0 := Aside0.mk h0
    have HN := Aside0.mk hn
    have HC := Aside0.mk c
    clear c
    go_enter Try.func64, Try.ntmps64
    go_wp2_with (first | ((with_reducible refine gate_builtin (b := .append) (xs := #[.tmp 20, .tmp 21]) rfl ?_); at_builtin; refine Kd.R_append_zeros (Kd.int .u8) (w0 := w) w.heap.size rfl (.tmp 20) (.tmp 21) 22 3 5 (.int .u8 0) 1 rfl Try.underlying22 (k := .i64) Try.underlying3 info5 rfl (by decide) (by omega) (.slice none 0 0) [] 0 (kx := .i64) n (fun _ => True) rfl rfl rfl (fun _ _ => trivial) (Kd.R_nil _ _ _ _ _) H0.out (by repeat (first | exact Below.refl _ _ | apply pw_below_drewN)) (by exact Nat.le_refl _) (by have := H0.out; have := HN.out; simp only [List.length_nil]; omega) ?_; intro v1 w1 ho hb hg hat; have hlen : ([] ++ List.replicate n.toNat (0 : Int)).length = n.toNat := (by simp); have hpos : 0 < ([] ++ List.replicate n.toNat (0 : Int)).length := (by have := H0.out; have := HC.out; rw [hlen]; omega); obtain ⟨gq, cq, ev, hge, hlt, hcell⟩ := Kd.R_form ho hpos; subst ev; have hcap := (Kd.R_reads' ho).2.1; have HT := Aside0.mk (Kd.R_take (m := 0) ho (Nat.zero_le _)); rw [hlen] at hcap ⊢; have HB := Aside0.mk hb; clear ho hb hg hat hpos hge hlt hcell hlen; obtain ⟨i0, hi0, _, hsz0, _⟩ := info_parts info5; have hcut := cut_to (P := Try.prog) 22 5 .i64 Try.underlying22 hi0 (some ⟨gq, 0, none⟩) n.toNat cq 0 (by omega) (by omega) hcap; clear hcap))
    go_ret
    exact ⟨_, rfl, by simpa using HT.out, by repeat (first | exact HB.out | apply pw_below_drewN)⟩
end Go.Proofs.Ytagmefjpnmjcjab.Fh

/- The decoder of frames (package frame), by hand: Concat, New, Pending, keep. -/
namespace Go.Proofs.Ytagmefjpnmjcjab.Fh
open Go.RowKit Go.Proofs.YtagmefjpnmjcjabW.PrintWords Go.Proofs.YtagmefjpnmjcjabW.PrintLast Go.Proofs.YtagmefjpnmjcjabW.PrintMore
open Go.Proofs.Ytagmefjpnmjcjab.Nu (slices_Clone_byte_byte.f slices_Clone_byte_byte.calls)
open Go.Proofs.Ytagmefjpnmjcjab.Fr (info5 info38 info41 S38 k38 k38_mkM k38_openM S41 k41 frame_Read.f frame_Read.calls)
open Go.Proofs.Ytagmefjpnmjcjab.FrNum (readS read_eq)
attribute [local go_sem] max2_int min2_int max_two min_two
set_option linter.unusedVariables false
set_option linter.unusedSimpArgs false
attribute [local irreducible] IsD T8 Near
set_option maxHeartbeats 8000000 in
set_option maxRecDepth 100000 in
theorem Concat_calls (g2 : Nat) (A0 A1 : Option Addr) (n0 n1 c0 c1 : Nat) (l0 l1 : List Int) (w : World) (hb : w.heap[g2]? = some (.cells #[.slice A0 n0 c0, .slice A1 n1 c1] 22 (0, 0)))
    (h0 : Kd.C (Kd.int .u8) w A0 n0 l0) (h1 : Kd.C (Kd.int .u8) w A1 n1 l1) (hn : n0 + n1 ≤ 1000000) :
    Calls Try.prog 54 #[.slice (some ⟨g2, 0, none⟩) 2 2] w fun e w' => ∃ v : Value, e = .returned v ∧ Kd.R (Kd.int .u8) 5 w' w.heap.size (fun _ => True) v (l0 ++ l1) ∧ Below w.heap.size w w' := by
  have H0 := Aside0.mk h0
  have H1 := Aside0.mk h1
  have HN := Aside0.mk hn
  have HG := Aside0.mk hb
  have L0 := Aside0.mk h0.1
  have L1 := Aside0.mk h1.1
  have hc0 : w.cell? ⟨g2, 0, none⟩ = some (.slice A0 n0 c0) := (blk_cell hb 0).trans rfl
  have hc1 : w.cell? ⟨g2, 1, none⟩ = some (.slice A1 n1 c1) := (blk_cell hb 1).trans rfl
  have hw0 : wrap64 (n0 : Int) = n0 := FrNum.wrap64_of (by omega) (by omega)
  have hw1 : wrap64 ((n0 : Int) + (n1 : Int)) = (n0 : Int) + n1 := FrNum.wrap64_of (by omega) (by omega)
  have b0 : decide ((n0 : Int) < 0) = false := decide_eq_false (by omega)
  have b1 : decide ((n0 : Int) + (n1 : Int) < 0) = false := decide_eq_false (by omega)
  clear h0 h1 hn hb
  go_enter Try.func54, Try.ntmps54
  go_wp2
  go_loopg [3, 11] 3 (fun kq v3 v11 w' => w = w' ∧ ((v3 = .int .i64 0 ∧ v11 = .int .i64 0 ∧ Aside0 (3 ≤ kq)) ∨ (v3 = .int .i64 (n0 : Int) ∧ v11 = .int .i64 1 ∧ Aside0 (2 ≤ kq)) ∨ (v3 = .int .i64 ((n0 : Int) + (n1 : Int)) ∧ v11 = .int .i64 2 ∧ Aside0 (1 ≤ kq))))
  case atStart => exact ⟨rfl, .inl ⟨rfl, rfl, ⟨Nat.le_refl _⟩⟩⟩
  case round =>
    obtain ⟨rfl, ⟨rfl, rfl, HK⟩ | ⟨rfl, rfl, HK⟩ | ⟨rfl, rfl, HK⟩⟩ := hrel
    · obtain ⟨gk, rfl⟩ : ∃ gk', gk = gk' + 1 := ⟨gk - 1, by have := HK.out; omega⟩
      go_wp2
      go_roundg gk
      case measure => omega
      case rel => exact ⟨rfl, .inr (.inl ⟨congrArg (Value.int .i64) hw0, rfl, ⟨by have := HK.out; omega⟩⟩)⟩
    · obtain ⟨gk, rfl⟩ : ∃ gk', gk = gk' + 1 := ⟨gk - 1, by have := HK.out; omega⟩
      go_wp2
      go_roundg gk
      case measure => omega
      case rel => exact ⟨rfl, .inr (.inr ⟨congrArg (Value.int .i64) hw1, rfl, ⟨by have := HK.out; omega⟩⟩)⟩
    · clear HK
      go_wp2_with (first | (go_at_call 64; with_reducible refine (Grow_calls ((n0 : Int) + (n1 : Int)) _ (by omega) (by have := HN.out; omega)).mono ?_; rintro e w1 ⟨v, rfl, hr, hb⟩; have HR := Aside0.mk hr; have HB := Aside0.mk hb; clear hr hb))
      go_loopg [6, 27] 3 (fun kq v6 v27 w' => Aside0 (Below w.heap.size w w') ∧ ((Aside0 (Kd.R (Kd.int .u8) 5 w' w.heap.size (fun _ => True) v6 []) ∧ v27 = .int .i64 0 ∧ Aside0 (3 ≤ kq)) ∨ (Aside0 (Kd.R (Kd.int .u8) 5 w' w.heap.size (fun _ => True) v6 l0) ∧ v27 = .int .i64 1 ∧ Aside0 (2 ≤ kq)) ∨ (Aside0 (Kd.R (Kd.int .u8) 5 w' w.heap.size (fun _ => True) v6 (l0 ++ l1)) ∧ v27 = .int .i64 2 ∧ Aside0 (1 ≤ kq))))
      case atStart => exact ⟨HB, .inl ⟨HR, rfl, ⟨Nat.le_refl _⟩⟩⟩
      case round =>
        clear HB HR hc0 hc1
        obtain ⟨HB, ⟨HR, rfl, HK⟩ | ⟨HR, rfl, HK⟩ | ⟨HR, rfl, HK⟩⟩ := hrel
        · obtain ⟨gk, rfl⟩ : ∃ gk', gk = gk' + 1 := ⟨gk - 1, by have := HK.out; omega⟩
          have hc0 := pw_cell_below HB.out ((blk_cell HG.out 0).trans rfl)
          go_wp2_with (first | ((with_reducible refine gate_builtin (b := .append) (xs := #[.tmp 31, .tmp 32]) rfl ?_); at_builtin; refine Kd.R_append_row (Value.int .u8) 0 (w0 := w) w.heap.size rfl (.tmp 31) (.tmp 32) 22 5 (.int .u8 0) 1 rfl Try.underlying22 info5 rfl (by omega) _ [] l0 A0 n0 c0 (fun _ => True) rfl rfl (fun _ _ => trivial) HR.out (Kd.C_below H0.out HB.out) HB.out HB.out.size (by have := HN.out; simp only [List.length_nil]; omega) ?_; intro v1 w2 ho hb hg hat; have HR1 := Aside0.mk ho; clear HB; have HB := Aside0.mk hb; clear ho hb hg hat HR))
          go_roundg gk
          case measure => omega
          case rel => exact ⟨HB, .inr (.inl ⟨⟨by rw [List.nil_append] at HR1; exact HR1.out⟩, rfl, ⟨by have := HK.out; omega⟩⟩)⟩
        · obtain ⟨gk, rfl⟩ : ∃ gk', gk = gk' + 1 := ⟨gk - 1, by have := HK.out; omega⟩
          have hc1 := pw_cell_below HB.out ((blk_cell HG.out 1).trans rfl)
          go_wp2_with (first | ((with_reducible refine gate_builtin (b := .append) (xs := #[.tmp 31, .tmp 32]) rfl ?_); at_builtin; refine Kd.R_append_row (Value.int .u8) 0 (w0 := w) w.heap.size rfl (.tmp 31) (.tmp 32) 22 5 (.int .u8 0) 1 rfl Try.underlying22 info5 rfl (by omega) _ l0 l1 A1 n1 c1 (fun _ => True) rfl rfl (fun _ _ => trivial) HR.out (Kd.C_below H1.out HB.out) HB.out HB.out.size (by have := HN.out; have := L0.out; omega) ?_; intro v2 w3 ho hb hg hat; have HR2 := Aside0.mk ho; clear HB; have HB := Aside0.mk hb; clear ho hb hg hat HR))
          go_roundg gk
          case measure => omega
          case rel => exact ⟨HB, .inr (.inr ⟨HR2, rfl, ⟨by have := HK.out; omega⟩⟩)⟩
        · go_wp2
          go_ret
          exact ⟨_, rfl, HR.out, HB.out⟩

set_option maxHeartbeats 8000000 in
set_option maxRecDepth 100000 in
theorem New_calls (w : World) : Calls Try.prog 33 #[] w fun e w' => ∃ g : Nat, e = .returned (.pointer (some ⟨g, 0, none⟩)) ∧ IsD w' g [] 0 ∧ w.heap.size ≤ g ∧ Below w.heap.size w w' := by
  go_enter Try.func33, Try.ntmps33
  go_wp2_with (first | ((with_reducible refine gate_dst (N := 2) rfl ?_); refine box_event ?hg (N := 2) ?hd (cs := #[.slice none 0 0, .int .i64 0]) (t := 93) ?hr ?_; (case hd => rfl); (case hg => rfl); (case hr => first | (go_simp; done) | (go_simp; rfl)); intro gb hg w2 hbox hb; have HBX := Aside0.mk (show IsD w2 gb [] 0 by unfold IsD; exact ⟨_, hbox, T8.nil _⟩); have HG := Aside0.mk hg; have HBB := Aside0.mk hb; clear hbox hg hb))
  go_ret
  exact ⟨gb, rfl, HBX.out, by rw [HG.out]; exact Nat.le_refl _, HBB.out⟩

set_option maxHeartbeats 8000000 in
set_option maxRecDepth 100000 in
theorem Pending_calls (g : Nat) (b : List Int) (e : Int) (n : Nat) (hn : b.length = n) (w : World) (hI : IsD w g b e) :
    Calls Try.prog 36 #[.pointer (some ⟨g, 0, none⟩)] w fun en w' => en = .returned (.int .i64 n) ∧ w = w' := by
  subst hn
  obtain ⟨A, c, hc, _⟩ := hI.c0
  clear hI
  go_enter Try.func36, Try.ntmps36
  go_wp2
  go_ret
  exact ⟨rfl, rfl⟩

set_option maxHeartbeats 8000000 in
set_option maxRecDepth 100000 in
theorem keep_calls (g : Nat) (b l : List Int) (e : Int) (A : Option Addr) (n c : Nat) (hn : l.length = n) (w : World) (hI : IsD w g b e) (hC : Kd.C (Kd.int .u8) w A n l) (hc : n ≤ c) (hl : n ≤ 1000000) :
    Calls Try.prog 55 #[.pointer (some ⟨g, 0, none⟩), .slice A n c] w fun en w' => en = .returned (.tuple #[]) ∧ IsD w' g l e ∧ Near w w' g := by
  have HI := Aside0.mk hI
  have HC := Aside0.mk hC
  clear hI hC
  go_enter Try.func55, Try.ntmps55
  go_wp2_with (first | (go_at_call 51; subst hn; with_reducible refine (slices_Clone_byte_byte.calls A c l l _ HC.out hc (FrNum.clone_eq l (by omega))).mono ?_; rintro e2 w1 ⟨v, rfl, hr, hb⟩; obtain ⟨A3, c3, rfl⟩ := T8.slice (T8.of_R hr); have HR := Aside0.mk (T8.of_R hr); have HB := Aside0.mk hb; have hf := (HI.out.below hb).fz 0; obtain ⟨A2, c2, hcell, _⟩ := (HI.out.below hb).c0; clear hr hb))
  go_end0
  exact ⟨rfl, (HI.out.below HB.out).setB HR.out, (Near.of_below HB.out g).set_ _ _⟩
end Go.Proofs.Ytagmefjpnmjcjab.Fh

/- All frames of bytes, plain. -/
namespace Go.Proofs.Ytagmefjpnmjcjab.Fh
open Go.RowKit Go.Proofs.YtagmefjpnmjcjabW.PrintWords Go.Proofs.YtagmefjpnmjcjabW.PrintLast Go.Proofs.YtagmefjpnmjcjabW.PrintMore
open Go.Proofs.Ytagmefjpnmjcjab.Fr (info5 info38 info41 S38 k38 k38_mkM k38_openM S41 k41 frame_Read.f frame_Read.calls)
open Go.Proofs.Ytagmefjpnmjcjab.FrNum (readS lenS bodyS readS_two read_eq Bytes)
set_option linter.unusedVariables false
set_option linter.unusedSimpArgs false

/-- The frames that bytes begin with, what is left, the error. -/
def allS : Nat → List Int → List S38 × List Int × Int
  | 0, _ => ([], [], 0)
  | k + 1, b =>
    if (readS b).2.2.2 = 0 then ((⟨(readS b).1, (readS b).2.1⟩ : S38) :: (allS k (b.drop (readS b).2.2.1.toNat)).1, (allS k (b.drop (readS b).2.2.1.toNat)).2)
    else if (readS b).2.2.2 = 3 then ([], b, 0) else ([], [], (readS b).2.2.2)
theorem bt_drop {b : List Int} (h : Bytes b) (n : Nat) : Bytes (b.drop n) := fun x hx => h x (List.mem_of_mem_drop hx)
theorem bt_take {b : List Int} (h : Bytes b) (n : Nat) : Bytes (b.take n) := fun x hx => h x (List.mem_of_mem_take hx)
theorem bt_append {b c : List Int} (h : Bytes b) (h2 : Bytes c) : Bytes (b ++ c) := fun x hx => (List.mem_append.1 hx).elim (h x) (h2 x)
theorem bt_left {b c : List Int} (h : Bytes (b ++ c)) : Bytes b := fun x hx => h x (List.mem_append_left _ hx)
theorem bt_right {b c : List Int} (h : Bytes (b ++ c)) : Bytes c := fun x hx => h x (List.mem_append_right _ hx)
/-- A frame that is read: its kind, its body, and how many bytes. -/
theorem readS_ok {b : List Int} (hb : Bytes b) (h : (readS b).2.2.2 = 0) : ∃ x y c t n, b = x :: y :: c :: t ∧ n = 256 * x + y ∧ 1 ≤ n ∧ n ≤ 301 ∧ n ≤ t.length + 1 ∧ c ≠ 0 ∧ readS b = (c, t.take (n - 1).toNat, 2 + n, 0) := by
  match b, hb, h with
  | [], _, h => simp [readS] at h
  | [x], _, h => simp [readS] at h
  | x :: y :: r, hb, h =>
    have hx := hb x (by simp)
    have hy := hb y (by simp)
    rw [readS_two] at h ⊢
    unfold lenS at h ⊢
    obtain ⟨n, hn⟩ : ∃ n, 256 * x + y = n := ⟨_, rfl⟩
    rw [hn] at h ⊢
    by_cases c0 : n = 0
    · rw [if_pos c0] at h; simp at h
    · rw [if_neg c0] at h ⊢
      by_cases c1 : n > 301
      · rw [if_pos c1] at h; simp at h
      · rw [if_neg c1] at h ⊢
        by_cases c2 : (r.length : Int) < n
        · rw [if_pos c2] at h; simp at h
        · rw [if_neg c2] at h ⊢
          match r, c2, h with
          | [], c2, h => simp [bodyS] at h
          | c :: t, c2, h =>
            unfold bodyS at h ⊢
            by_cases c3 : c = 0
            · simp only [if_pos c3] at h; simp at h
            · simp only [if_neg c3]
              exact ⟨x, y, c, t, n, rfl, hn.symm, by omega, by omega, by simp at c2; omega, c3, rfl⟩
theorem readS_n {b : List Int} (hb : Bytes b) (h : (readS b).2.2.2 = 0) : 3 ≤ (readS b).2.2.1 ∧ (readS b).2.2.1 ≤ b.length := by
  obtain ⟨x, y, c, t, n, rfl, _, h1, h2, h3, _, he⟩ := readS_ok hb h
  rw [he]
  simp only [List.length_cons]
  omega
theorem allS_fuel {k k2 : Nat} {b : List Int} (hb : Bytes b) (h : b.length < k) (h2 : b.length < k2) : allS k b = allS k2 b := by
  induction k generalizing k2 b with
  | zero => omega
  | succ k ih =>
    cases k2 with
    | zero => omega
    | succ k2 =>
      unfold allS
      by_cases c : (readS b).2.2.2 = 0
      · have hn := readS_n hb c
        rw [if_pos c, if_pos c, ih (k2 := k2) (bt_drop hb _) (by rw [List.length_drop]; omega) (by rw [List.length_drop]; omega)]
      · rw [if_neg c, if_neg c]
/-- All frames of bytes. -/
def framesS (b : List Int) : List S38 × List Int × Int := allS (b.length + 1) b
/-- What a decoder does. -/
def feedS (b : List Int) (e : Int) (l : List Int) : List S38 × List Int × Int := if e = 0 then framesS (b ++ l) else ([], b, e)
theorem framesS_step {b : List Int} (hb : Bytes b) : framesS b =
    if (readS b).2.2.2 = 0 then ((⟨(readS b).1, (readS b).2.1⟩ : S38) :: (framesS (b.drop (readS b).2.2.1.toNat)).1, (framesS (b.drop (readS b).2.2.1.toNat)).2)
    else if (readS b).2.2.2 = 3 then ([], b, 0) else ([], [], (readS b).2.2.2) := by
  unfold framesS
  rw [show allS (b.length + 1) b = _ from rfl, allS]
  by_cases c : (readS b).2.2.2 = 0
  · have hn := readS_n hb c
    rw [if_pos c, if_pos c, allS_fuel (bt_drop hb _) (k := b.length) (k2 := (b.drop (readS b).2.2.1.toNat).length + 1) (by rw [List.length_drop]; omega) (by omega)]
  · rw [if_neg c, if_neg c]
end Go.Proofs.Ytagmefjpnmjcjab.Fh

/- Feed of a decoder of frames, by hand. -/
namespace Go.Proofs.Ytagmefjpnmjcjab.Fh
open Go.RowKit Go.Proofs.YtagmefjpnmjcjabW.PrintWords Go.Proofs.YtagmefjpnmjcjabW.PrintLast Go.Proofs.YtagmefjpnmjcjabW.PrintMore
open Go.Proofs.Ytagmefjpnmjcjab.Fr (info5 info38 info41 S38 k38 k38_mkM k38_openM S41 k41 frame_Read.f frame_Read.calls)
open Go.Proofs.Ytagmefjpnmjcjab.FrNum (readS read_eq Bytes)
attribute [local go_sem] max2_int min2_int max_two min_two
set_option linter.unusedVariables false
set_option linter.unusedSimpArgs false
theorem M38 {W : World} {base gb : Nat} {v vb : Value} {out : List S38} {c : Int} {body : List Int} {cs : Array Value} (hb : Kd.R (Kd.int .u8) 5 W base (fun _ => True) vb body) (hg : W.heap[gb]? = some (.cells cs 38 (0, 0))) (ho : Kd.R k38 38 W base (fun k => k ≠ gb) v out) :
    k38.M W base (fun k => k ≠ gb ∧ some k ≠ v.ownBlock) ⟨c, body⟩ [.int .u8 c, vb] := k38_mkM _ _ _ ⟨c, body⟩ (Kd.R_mono (Kd.R_apart' (Kd.R_types hb hg (by decide)) (Kd.R_typed ho) (by decide)) (fun k hk => ⟨hk.1.2, hk.2⟩))
theorem Near.trans {w w1 w2 : World} {g : Nat} (h : Near w w1 g) (h2 : Near w1 w2 g) : Near w w2 g := by
  unfold Near at h h2 ⊢
  exact ⟨h.1.trans h2.1 (.inl rfl), fun w0 hg hB => h2.2 w0 hg (h.2 w0 hg hB)⟩
theorem R38.near {w w' : World} {base g : Nat} {v : Value} {out : List S38} (h : Kd.R k38 38 w base (fun _ => True) v out) (ht : ∃ cells, w.heap[g]? = some (.cells cells 93 (0, 0))) (hn : Near w w' g) : Kd.R k38 38 w' base (fun _ => True) v out := by
  obtain ⟨cells, hc⟩ := ht
  exact Kd.R_mono (Kd.R_keep (Kd.R_types h hc (by decide)) hn.keep (fun _ hk => hk.2)) (fun _ hk => hk.1)
theorem IsD.far {W : World} {g gb t : Nat} {b : List Int} {e : Int} {cs : Array Value} (h : IsD W g b e) (hc : W.heap[gb]? = some (.cells cs t (0, 0))) (h1 : t ≠ 93) (h2 : t ≠ 5) (j : Nat) (u : Value) : IsD (W.setCell ⟨gb, j, none⟩ u) g b e := by
  unfold IsD at h ⊢
  obtain ⟨v, hb, hv⟩ := h
  exact ⟨v, (Below.heap_setCell W ⟨gb, j, none⟩ u g (ne_typed hc hb h1)).trans hb, hv.far hc h2 j u⟩
theorem T8.apart {w : World} {gb : Nat} {v : Value} {l : List Int} {cs : Array Value} (h : T8 w v l) (hc : w.heap[gb]? = some (.cells cs 38 (0, 0))) (j : Nat) (u : Value) : T8 (w.setCell ⟨gb, j, none⟩ u) v l := h.far hc (by decide) j u
attribute [local irreducible] IsD T8 Near
set_option maxHeartbeats 8000000 in
set_option maxRecDepth 100000 in
theorem Read_calls (A : Option Addr) (n c : Nat) (l : List Int) (hn : l.length = n) (r1 : Int) (r2 : List Int) (r3 r4 : Int) (w : World) (hC : Kd.C (Kd.int .u8) w A n l) (hc : n ≤ c) (hl : n ≤ 1000000) (hB : Bytes l) (h : readS l = (r1, r2, r3, r4)) :
    Calls Try.prog 28 #[.slice A n c] w fun e w' => ∃ v1_ : Value, e = .returned (.tuple #[.agg #[.int .u8 r1, v1_], .int .i64 r3, .int .i64 r4]) ∧ Kd.R (Kd.int .u8) 5 w' w.heap.size (fun _ => True) v1_ r2 ∧ Below w.heap.size w w' := by
  subst hn
  exact frame_Read.calls 11 A c l r1 r2 r3 r4 w hC hc (by rw [read_eq 11 l hB hl (Nat.le_refl _), h])

set_option maxHeartbeats 8000000 in
set_option maxRecDepth 100000 in
theorem Feed_ended (g : Nat) (b : List Int) (e : Int) (A : Option Addr) (n c : Nat) (w : World) (hI : IsD w g b e) (he : e ≠ 0) :
    Calls Try.prog 34 #[.pointer (some ⟨g, 0, none⟩), .slice A n c] w fun en w' => en = .returned (.tuple #[.slice none 0 0, .int .i64 e]) ∧ Below w.heap.size w w' := by
  have b0 : (e != 0) = true := bne_iff_ne.mpr he
  have HD := Aside0.mk hI
  have HB := Aside0.mk (Below.refl w.heap.size w)
  have hz1 := hI.c1
  clear he hI
  go_enter Try.func34, Try.ntmps34
  go_wp2
  go_step3
  go_wp2
  go_quiet (fail)
  go_wp2
  (try rw [Exit.noGoto_ret])
  go_ret2
  exact ⟨rfl, by repeat (first | exact HB.out | apply pw_below_drewN | apply below_drew1)⟩
set_option maxHeartbeats 8000000 in
set_option maxRecDepth 100000 in
theorem Feed_calls (g : Nat) (b l0 : List Int) (A0 : Option Addr) (n0 c0 : Nat) (hn0 : l0.length = n0) (o : List S38) (b2 : List Int) (e2 : Int) (w : World) (hI : IsD w g b 0) (hC0 : Kd.C (Kd.int .u8) w A0 n0 l0) (hc0 : n0 ≤ c0) (hB : Bytes (b ++ l0)) (hl : b.length + n0 ≤ 1000000) (hS : framesS (b ++ l0) = (o, b2, e2)) :
    Calls Try.prog 34 #[.pointer (some ⟨g, 0, none⟩), .slice A0 n0 c0] w fun en w' => ∃ v, en = .returned (.tuple #[v, .int .i64 e2]) ∧ Kd.R k38 38 w' w.heap.size (fun _ => True) v o ∧ IsD w' g b2 e2 ∧ Near w w' g := by
  have HD := Aside0.mk hI
  have HB := Aside0.mk (Below.refl w.heap.size w)
  have HG := Aside0.mk hI.lt
  have hz1 := hI.c1
  obtain ⟨Ab, cb, hz0, htb⟩ := hI.c0
  have HTB := Aside0.mk htb.at_.2.2
  have HC := Aside0.mk hC0
  have HBY0 := Aside0.mk hB
  have HL0 := Aside0.mk hl
  have HLL := Aside0.mk (show (b ++ l0).length ≤ 1000000 by rw [List.length_append]; omega)
  have HS := Aside0.mk hS
  have hmf : ∀ (fn : Fn) (first cap : Array Value) (w : World), (Instr.makeFunc fn first cap).run Try.prog w = .ok (.func fn first cap) w := fun _ _ _ _ => rfl
  clear hI hC0 hc0 hB hS htb
  go_enter Try.func34, Try.ntmps34
  go_wp2
  go_step3
  go_wp2_with (first | (go_at_call 54; go_loud (with_reducible refine (Concat_calls w.heap.size Ab A0 b.length n0 cb c0 b l0 _ (heap_alloc_new w _) (Kd.C_alloc HTB.out _) (Kd.C_alloc HC.out _) HL0.out).mono ?_; rintro e3 w1 ⟨v1, rfl, ho, hb⟩; obtain ⟨A1, c1, rfl⟩ := Kd.R_slice ho; have HT := Aside0.mk (T8.of_R ho); have HD_ := Aside0.mk ((HD.out.alloc _).below hb); have HB_ := Aside0.mk (below_step (below_alloc (Below.refl _ _) _) hb); clear HD HB; have HD := HD_; have HB := HB_; clear HD_ HB_; clear hb ho hz1 hz0 hn0 HTB HC)))
  go_step3
  go_wp2
  go_loopg [6, 8] 1000002 (fun kq v6 v8 w' => ∃ (k : Nat) (l : List Int) (out o2 : List S38) (A : Option Addr) (n c : Nat), v6 = .slice A n c ∧ Aside0 (l.length = n) ∧ Aside0 (T8 w' (.slice A n c) l) ∧ Aside0 (Kd.R k38 38 w' w.heap.size (fun _ => True) v8 out) ∧ Aside0 (IsD w' g b 0) ∧ Aside0 (Below w.heap.size w w') ∧ Aside0 (Bytes l) ∧ Aside0 (n < k ∧ k ≤ kq ∧ n ≤ 1000000) ∧ Aside0 (allS k l = (o2, b2, e2)) ∧ Aside0 (out ++ o2 = o) ∧ Aside0 (out.length + n ≤ 1000000))
  case atStart => exact ⟨(b ++ l0).length + 1, b ++ l0, [], o, A1, (b ++ l0).length, c1, by rw [List.length_append], ⟨rfl⟩, HT, ⟨Kd.R_nil _ _ _ _ _⟩, HD, HB, HBY0, ⟨Nat.lt_succ_self _, by have := HLL.out; omega, HLL.out⟩, HS, ⟨rfl⟩, ⟨by have := HLL.out; simp only [List.length_nil]; omega⟩⟩
  case round =>
    clear HT HD HB HBY0 HS HLL HL0
    obtain ⟨k, l, out, o2, A, n, c, rfl, HLN, HT, HO, HD, HB, HBY, HK, HS, HOO, HOL⟩ := hrel
    obtain ⟨gk, rfl⟩ : ∃ gk', gk = gk' + 1 := ⟨gk - 1, by have := HK.out; omega⟩
    obtain ⟨k, rfl⟩ : ∃ k', k = k' + 1 := ⟨k - 1, by have := HK.out; omega⟩
    obtain ⟨⟨r1, r2, r3, r4⟩, hrd⟩ : ∃ r, readS l = r := ⟨_, rfl⟩
    have HNC := Aside0.mk HT.out.at_.2.1
    have HN6 := Aside0.mk HK.out.2.2
    have hS := HS.out
    rw [allS, hrd] at hS
    simp only at hS
    have HRD := Aside0.mk hrd
    by_cases ck : r4 = 0
    · subst ck
      rw [if_pos rfl] at hS
      have hn := readS_n HBY.out (by rw [hrd])
      rw [hrd] at hn
      simp only at hn
      obtain ⟨m, rfl⟩ := Int.eq_ofNat_of_zero_le (show 0 ≤ r3 by omega)
      rw [Int.toNat_natCast] at hS
      injection hS with hS1 hS2
      have HM := Aside0.mk (show 3 ≤ m ∧ m ≤ n by have := HLN.out; omega)
      have HS1 := Aside0.mk hS1
      have HS2 := Aside0.mk hS2
      clear hS1 hS2 hn hrd
      go_upto_region 7 with (first | (go_at_call 28; go_loud (with_reducible refine (Read_calls A n c l HLN.out r1 r2 (m : Int) 0 _ HT.out.at_.2.2 HNC.out HN6.out HBY.out HRD.out).mono ?_; rintro e4 w2 ⟨v2, rfl, ho, hb⟩; obtain ⟨A2, c2, rfl⟩ := Kd.R_slice ho; have HO2 := Aside0.mk (Kd.R_lower ho HB.out.size); have HT_ := Aside0.mk (HT.out.below hb); have HO_ := Aside0.mk (Kd.R_below HO.out hb); have HD_ := Aside0.mk (HD.out.below hb); have HB_ := Aside0.mk (below_step HB.out hb); clear HT HO HD HB; have HT := HT_; have HO := HO_; have HD := HD_; have HB := HB_; clear HT_ HO_ HD_ HB_; clear hb ho)) | ((with_reducible refine gate_dst (N := 9) rfl ?_); refine box_event ?hg (N := 9) ?hd (cs := #[.int .u8 0, .slice none 0 0]) (t := 38) ?hr ?_; (case hd => rfl); (case hg => rfl); (case hr => first | (go_simp; done) | (go_simp; rfl)); intro gb hg w3 hbox hb; have HBX := Aside0.mk hbox; have HGE := Aside0.mk (show w.heap.size ≤ gb by rw [hg]; exact HB.out.size); have HT_ := Aside0.mk (HT.out.below hb); have HO_ := Aside0.mk ((Kd.R_mono (Kd.R_below (Kd.R_bound HO.out) hb) (fun k hk => by have := hk.2.2.1; omega) : Kd.R k38 38 _ w.heap.size (fun k => k ≠ gb) u8 out)); have HO2_ := Aside0.mk (Kd.R_below HO2.out hb); have HD_ := Aside0.mk (HD.out.below hb); have HB_ := Aside0.mk (below_step HB.out hb); clear HT HO HO2 HD HB; have HT := HT_; have HO := HO_; have HO2 := HO2_; have HD := HD_; have HB := HB_; clear HT_ HO_ HO2_ HD_ HB_; clear hg hbox hb; have hx0 := blk_cell HBX.out 0; have hx1 := blk_cell HBX.out 1; have hfx0 := blk_frozen HBX.out 0; have hfx1 := blk_frozen HBX.out 1; replace hx0 := hx0.trans rfl; replace hx1 := hx1.trans rfl))
      (try simp only [Act.put, List.setIfInBounds_toArray, List.set_cons_zero, List.set_cons_succ])
      generalize hst : World.setCell (World.setCell w3 ⟨gb, 0, none⟩ (.int .u8 r1)) ⟨gb, 1, none⟩ (.slice A2 r2.length c2) = w4
      have HBX0 := Aside0.mk ((blk_set HBX.out 0 (.int .u8 r1)).trans rfl)
      have HT_ := Aside0.mk (hst ▸ (HT.out.apart HBX.out 0 _).apart HBX0.out 1 _)
      have HO_ := Aside0.mk ((hst ▸ Kd.R_far (p := ⟨gb, 1, none⟩) (Kd.R_far (p := ⟨gb, 0, none⟩) HO.out (fun _ h => h) _) (fun _ h => h) _ : Kd.R k38 38 w4 w.heap.size (fun k => k ≠ gb) u8 out))
      have HO2_ := Aside0.mk (hst ▸ Kd.R_set (Kd.R_set HO2.out HBX.out (by decide) 0 _) HBX0.out (by decide) 1 _)
      have HD_ := Aside0.mk (hst ▸ (HD.out.far HBX.out (by decide) (by decide) 0 _).far HBX0.out (by decide) (by decide) 1 _)
      have HB_ := Aside0.mk (hst ▸ below_set (below_set HB.out HGE.out) HGE.out)
      have HBX_ := Aside0.mk ((hst ▸ (blk_set HBX0.out 1 (.slice A2 r2.length c2)).trans rfl : w4.heap[gb]? = some (.cells #[.int .u8 r1, .slice A2 r2.length c2] 38 (0, 0))))
      clear HT HO HO2 HD HB HBX
      have HT := HT_
      have HO := HO_
      have HO2 := HO2_
      have HD := HD_
      have HB := HB_
      have HBX := HBX_
      clear HT_ HO_ HO2_ HD_ HB_ HBX_
      clear hst hx0 hx1 hfx0 hfx1 HBX0
      go_wp2
      have hu38 := Try.underlying38
      have hm0 : (0 : Int) ≤ (m : Int) := by omega
      have hmn : (m : Int) ≤ (n : Int) := by have := HM.out; omega
      obtain ⟨i0, hi0, _, hsz0, _⟩ := info_parts info5
      have hcut := cut_from (P := Try.prog) 22 5 .i64 Try.underlying22 hi0 1 hsz0 A n c (m : Int) hm0 hmn
      have HTC := HT.out.cut m (by have := HM.out; omega)
      simp only [Int.toNat_natCast] at hcut
      obtain ⟨A5, hA5⟩ : ∃ A5, A5 = (if c = m then A else A.map (·.add (m * 1))) := ⟨_, rfl⟩
      rw [← hA5] at hcut HTC
      have HTC := Aside0.mk HTC
      clear hA5 hi0 hsz0
      have HTC_ := Aside0.mk (HTC.out.drew)
      have HO_ := Aside0.mk (Kd.R_drew HO.out)
      have HO2_ := Aside0.mk (Kd.R_drew HO2.out)
      have HD_ := Aside0.mk (HD.out.drew)
      have HB_ := Aside0.mk (below_drew1 HB.out)
      have HBX_ := Aside0.mk (blk_drew HBX.out)
      clear HTC HO HO2 HD HB HBX
      have HTC := HTC_
      have HO := HO_
      have HO2 := HO2_
      have HD := HD_
      have HB := HB_
      have HBX := HBX_
      clear HTC_ HO_ HO2_ HD_ HB_ HBX_
      refine start_ (n := 9) (S := fun w' => w'.cell? ⟨gb, 0, none⟩ = some (.int .u8 r1) ∧ w'.cell? ⟨gb, 1, none⟩ = some (.slice A2 r2.length c2)) (ds := []) #[false, false, false, false, false, false, false, false, false] (by kernel_rfl) rfl rfl ⟨(blk_cell HBX.out 0).trans rfl, (blk_cell HBX.out 1).trans rfl⟩ (fun hHeld => ?_)
      generalize World.drew w4 = w5 at HTC HO HO2 HD HB HBX hHeld ⊢
      refine pure_ (i := 0) (N := some 45) (v := ?_) (a' := ?_) #[true, false, false, false, false, false, false, false, false] rfl rfl (by kernel_rfl) (fun _ _ _ h => h) (Or.inl ⟨by rfl, ?_⟩) ?_ ?_
      rotate_left
      · intro w'
        go_simp
        with_reducible rfl
      rotate_left
      · simp only [Act.put, List.setIfInBounds_toArray, List.set_cons_zero, List.set_cons_succ, i64_w, i32_w]
        rfl
      refine pure_ (i := 4) (N := some 49) (v := ?_) (a' := ?_) #[true, false, false, false, true, false, false, false, false] rfl rfl (by kernel_rfl) (fun _ _ _ h => h) (Or.inl ⟨by rfl, ?_⟩) ?_ ?_
      rotate_left
      · intro w'
        go_simp
        with_reducible rfl
      rotate_left
      · simp only [Act.put, List.setIfInBounds_toArray, List.set_cons_zero, List.set_cons_succ, i64_w, i32_w]
        rfl
      refine pure_ (i := 5) (N := some 50) (v := ?_) (a' := ?_) #[true, false, false, false, true, true, false, false, false] rfl rfl (by kernel_rfl) (fun _ _ _ h => h) (Or.inl ⟨by rfl, ?_⟩) ?_ ?_
      rotate_left
      · intro w'
        go_simp
        with_reducible rfl
      rotate_left
      · simp only [Act.put, List.setIfInBounds_toArray, List.set_cons_zero, List.set_cons_succ, i64_w, i32_w]
        rfl
      refine pure_ (i := 6) (N := some 51) (v := ?_) (a' := ?_) #[true, false, false, false, true, true, true, false, false] rfl rfl (by kernel_rfl) (fun _ _ _ h => h) (Or.inl ⟨by rfl, ?_⟩) ?_ ?_
      rotate_left
      · intro w'
        go_simp
        with_reducible rfl
      rotate_left
      · simp only [Act.put, List.setIfInBounds_toArray, List.set_cons_zero, List.set_cons_succ, i64_w, i32_w]
        rfl
      refine take_ (i := 1) (N := some 46) (v := ?_) (a' := ?_) #[true, true, false, false, true, true, true, false, false] rfl rfl (by kernel_rfl) (fun _ _ _ h => h) (Or.inl ⟨by rfl, ?_⟩) hHeld ?_ ?_
      rotate_left
      · rintro w' ⟨s0, s1⟩
        go_simp
        with_reducible rfl
      rotate_left
      · simp only [Act.put, List.setIfInBounds_toArray, List.set_cons_zero, List.set_cons_succ, i64_w, i32_w]
        rfl
      refine one_ (i := 2) (N := some 47) #[true, true, true, false, true, true, true, false, false] rfl rfl (by kernel_rfl) (by decide) (fun K hK => ?_)
      refine value_ (w1 := ?_) (v := ?_) (by rfl) rfl ?_ ?_
      rotate_left 2
      · go_simp
        constructor
        · rfl
        · rfl
      refine hK.out _ _ ⟨pw_cell_below (below_alloc (Below.refl _ _) _) ((blk_cell HBX.out 0).trans rfl), pw_cell_below (below_alloc (Below.refl _ _) _) ((blk_cell HBX.out 1).trans rfl)⟩ (fun hHeld => ?_)
      clear hK K
      refine norm_ (a' := ?_) ?_ ?_
      rotate_left
      · show Act.put _ (some 47) _ = _
        simp only [Act.put, List.setIfInBounds_toArray, List.set_cons_zero, List.set_cons_succ, i64_w, i32_w]
        rfl
      refine one_ (i := 3) (N := some 48) #[true, true, true, true, true, true, true, false, false] rfl rfl (by kernel_rfl) (by decide) (fun K hK => ?_)
      refine Kd.R_append_step k38 (w0 := w) w.heap.size (by rfl) (.tmp 45) (.tmp 47) 54 38 (.agg #[.int .u8 0, .slice none 0 0]) 32 rfl Try.underlying54 info38 rfl (by decide) (by omega) u8 out ⟨r1, r2⟩ [.int .u8 r1, .slice A2 r2.length c2] (fun k => k ≠ gb) (fun k => k ≠ gb ∧ some k ≠ u8.ownBlock) (by rfl) (by rfl) (M38 HO2.out HBX.out HO.out) (fun _ hk => hk) (fun k hk => by have := blk_lt HBX.out; omega) HO.out HB.out HB.out.size (by have := HOL.out; have := HM.out; omega) ?_
      intro v1 w6 ho hb hg hat
      have HTY := Aside0.mk (Kd.R_typed HO.out)
      have HBX_ := Aside0.mk ((hg.block gb (blk_lt HBX.out) (Kd.R_away HO.out (fun _ h => h))).trans HBX.out)
      have HTC_ := Aside0.mk (HTC.out.grown hg (fun k hk cells hc => by obtain ⟨c9, h9⟩ := HTY.out k hk; exact ne_typed h9 hc (by decide) rfl))
      have HD_ := Aside0.mk (HD.out.grown hg HTY.out (by decide) (by decide))
      have HO_ := Aside0.mk ((Kd.R_mono ho (fun _ _ => trivial) : Kd.R k38 38 w6 w.heap.size (fun _ => True) v1 (out ++ [⟨r1, r2⟩])))
      have HB_ := Aside0.mk (hb)
      clear HBX HTC HD HO HB
      have HBX := HBX_
      have HTC := HTC_
      have HD := HD_
      have HO := HO_
      have HB := HB_
      clear HBX_ HTC_ HD_ HO_ HB_
      clear ho hb hg hat HTY
      refine hK.out _ _ ⟨(blk_cell HBX.out 0).trans rfl, (blk_cell HBX.out 1).trans rfl⟩ (fun hHeld => ?_)
      clear hK K
      refine norm_ (a' := ?_) ?_ ?_
      rotate_left
      · show Act.put _ (some 48) _ = _
        simp only [Act.put, List.setIfInBounds_toArray, List.set_cons_zero, List.set_cons_succ, i64_w, i32_w]
        rfl
      refine pure_ (i := 7) (N := some 8) (v := ?_) (a' := ?_) #[true, true, true, true, true, true, true, true, false] rfl rfl (by kernel_rfl) (fun _ _ _ h => h) (Or.inl ⟨by rfl, ?_⟩) ?_ ?_
      rotate_left
      · intro w'
        go_simp
        with_reducible rfl
      rotate_left
      · simp only [Act.put, List.setIfInBounds_toArray, List.set_cons_zero, List.set_cons_succ, i64_w, i32_w]
        rfl
      refine pure_ (i := 8) (N := some 6) (v := ?_) (a' := ?_) #[true, true, true, true, true, true, true, true, true] rfl rfl (by kernel_rfl) (fun _ _ _ h => h) (Or.inl ⟨by rfl, ?_⟩) ?_ ?_
      rotate_left
      · intro w'
        go_simp
        with_reducible rfl
      rotate_left
      · simp only [Act.put, List.setIfInBounds_toArray, List.set_cons_zero, List.set_cons_succ, i64_w, i32_w]
        rfl
      refine done_ (by kernel_rfl) ?_

      go_wp2
      go_roundg gk
      case measure => omega
      case rel => exact ⟨k, l.drop m, out ++ [⟨r1, r2⟩], (allS k (l.drop m)).1, A5, n - m, c - m, rfl, ⟨by have := HLN.out; rw [List.length_drop]; omega⟩, HTC, HO, HD, HB, ⟨bt_drop HBY.out _⟩, ⟨by have := HK.out; have := HM.out; omega⟩, ⟨Prod.ext rfl HS2.out⟩, ⟨by rw [← HOO.out, ← HS1.out]; simp⟩, ⟨by have := HOL.out; have := HM.out; rw [List.length_append, List.length_singleton]; omega⟩⟩
    · rw [if_neg ck] at hS
      by_cases c3 : r4 = 3
      · subst c3
        rw [if_pos rfl] at hS
        injection hS with hS1 hS2
        injection hS2 with hS2 hS3
        subst hS1 hS2 hS3
        clear ck hrd
        go_upto_region 7 with (first | (go_at_call 28; go_loud (with_reducible refine (Read_calls A n c l HLN.out r1 r2 r3 3 _ HT.out.at_.2.2 HNC.out HN6.out HBY.out HRD.out).mono ?_; rintro e4 w2 ⟨v2, rfl, ho, hb⟩; obtain ⟨A2, c2, rfl⟩ := Kd.R_slice ho; have HO2 := Aside0.mk (Kd.R_lower ho HB.out.size); have HT_ := Aside0.mk (HT.out.below hb); have HO_ := Aside0.mk (Kd.R_below HO.out hb); have HD_ := Aside0.mk (HD.out.below hb); have HB_ := Aside0.mk (below_step HB.out hb); clear HT HO HD HB; have HT := HT_; have HO := HO_; have HD := HD_; have HB := HB_; clear HT_ HO_ HD_ HB_; clear hb ho)) | ((with_reducible refine gate_dst (N := 9) rfl ?_); refine box_event ?hg (N := 9) ?hd (cs := #[.int .u8 0, .slice none 0 0]) (t := 38) ?hr ?_; (case hd => rfl); (case hg => rfl); (case hr => first | (go_simp; done) | (go_simp; rfl)); intro gb hg w3 hbox hb; have HBX := Aside0.mk hbox; have HGE := Aside0.mk (show w.heap.size ≤ gb by rw [hg]; exact HB.out.size); have HT_ := Aside0.mk (HT.out.below hb); have HO_ := Aside0.mk ((Kd.R_mono (Kd.R_below (Kd.R_bound HO.out) hb) (fun k hk => by have := hk.2.2.1; omega) : Kd.R k38 38 _ w.heap.size (fun k => k ≠ gb) u8 out)); have HO2_ := Aside0.mk (Kd.R_below HO2.out hb); have HD_ := Aside0.mk (HD.out.below hb); have HB_ := Aside0.mk (below_step HB.out hb); clear HT HO HO2 HD HB; have HT := HT_; have HO := HO_; have HO2 := HO2_; have HD := HD_; have HB := HB_; clear HT_ HO_ HO2_ HD_ HB_; clear hg hbox hb; have hx0 := blk_cell HBX.out 0; have hx1 := blk_cell HBX.out 1; have hfx0 := blk_frozen HBX.out 0; have hfx1 := blk_frozen HBX.out 1; replace hx0 := hx0.trans rfl; replace hx1 := hx1.trans rfl))
        (try simp only [Act.put, List.setIfInBounds_toArray, List.set_cons_zero, List.set_cons_succ])
        generalize hst : World.setCell (World.setCell w3 ⟨gb, 0, none⟩ (.int .u8 r1)) ⟨gb, 1, none⟩ (.slice A2 r2.length c2) = w4
        have HBX0 := Aside0.mk ((blk_set HBX.out 0 (.int .u8 r1)).trans rfl)
        have HT_ := Aside0.mk (hst ▸ (HT.out.apart HBX.out 0 _).apart HBX0.out 1 _)
        have HO_ := Aside0.mk ((hst ▸ Kd.R_far (p := ⟨gb, 1, none⟩) (Kd.R_far (p := ⟨gb, 0, none⟩) HO.out (fun _ h => h) _) (fun _ h => h) _ : Kd.R k38 38 w4 w.heap.size (fun k => k ≠ gb) u8 out))
        have HO2_ := Aside0.mk (hst ▸ Kd.R_set (Kd.R_set HO2.out HBX.out (by decide) 0 _) HBX0.out (by decide) 1 _)
        have HD_ := Aside0.mk (hst ▸ (HD.out.far HBX.out (by decide) (by decide) 0 _).far HBX0.out (by decide) (by decide) 1 _)
        have HB_ := Aside0.mk (hst ▸ below_set (below_set HB.out HGE.out) HGE.out)
        have HBX_ := Aside0.mk ((hst ▸ (blk_set HBX0.out 1 (.slice A2 r2.length c2)).trans rfl : w4.heap[gb]? = some (.cells #[.int .u8 r1, .slice A2 r2.length c2] 38 (0, 0))))
        clear HT HO HO2 HD HB HBX
        have HT := HT_
        have HO := HO_
        have HO2 := HO2_
        have HD := HD_
        have HB := HB_
        have HBX := HBX_
        clear HT_ HO_ HO2_ HD_ HB_ HBX_
        clear hst hx0 hx1 hfx0 hfx1 HBX0
        go_wp2_with (first | (go_at_call 55; with_reducible refine (keep_calls g b l 0 A n c HLN.out _ HD.out HT.out.at_.2.2 HNC.out HN6.out).mono ?_; rintro e5 w6 ⟨rfl, hd, hn⟩; have HNR := Aside0.mk ((Near.of_below HB.out g).trans hn); have HO_ := Aside0.mk (R38.near (Kd.R_mono HO.out (fun _ _ => trivial)) HD.out.typed hn); clear HO HD HT HO2 HB HBX; have HO := HO_; clear HO_; have HD := Aside0.mk hd; have hz1 := hd.c1; clear hd hn))
        go_quiet (fail)
        go_wp2
        (try rw [Exit.noGoto_ret])
        go_ret2
        refine ⟨_, rfl, ?_, HD.out.drewN _, HNR.out.drewN _⟩
        have h9 := HOO.out
        rw [List.append_nil] at h9
        rw [← h9]
        exact Kd.R_drewN HO.out _
      · rw [if_neg c3] at hS
        injection hS with hS1 hS2
        injection hS2 with hS2 hS3
        subst hS1 hS2 hS3
        have b0 : (r4 == 0) = false := beq_eq_false_iff_ne.mpr ck
        have b3 : (r4 == 3) = false := beq_eq_false_iff_ne.mpr c3
        clear ck c3 hrd
        go_upto_region 7 with (first | (go_at_call 28; go_loud (with_reducible refine (Read_calls A n c l HLN.out r1 r2 r3 r4 _ HT.out.at_.2.2 HNC.out HN6.out HBY.out HRD.out).mono ?_; rintro e4 w2 ⟨v2, rfl, ho, hb⟩; obtain ⟨A2, c2, rfl⟩ := Kd.R_slice ho; have HO2 := Aside0.mk (Kd.R_lower ho HB.out.size); have HT_ := Aside0.mk (HT.out.below hb); have HO_ := Aside0.mk (Kd.R_below HO.out hb); have HD_ := Aside0.mk (HD.out.below hb); have HB_ := Aside0.mk (below_step HB.out hb); clear HT HO HD HB; have HT := HT_; have HO := HO_; have HD := HD_; have HB := HB_; clear HT_ HO_ HD_ HB_; clear hb ho)) | ((with_reducible refine gate_dst (N := 9) rfl ?_); refine box_event ?hg (N := 9) ?hd (cs := #[.int .u8 0, .slice none 0 0]) (t := 38) ?hr ?_; (case hd => rfl); (case hg => rfl); (case hr => first | (go_simp; done) | (go_simp; rfl)); intro gb hg w3 hbox hb; have HBX := Aside0.mk hbox; have HGE := Aside0.mk (show w.heap.size ≤ gb by rw [hg]; exact HB.out.size); have HT_ := Aside0.mk (HT.out.below hb); have HO_ := Aside0.mk ((Kd.R_mono (Kd.R_below (Kd.R_bound HO.out) hb) (fun k hk => by have := hk.2.2.1; omega) : Kd.R k38 38 _ w.heap.size (fun k => k ≠ gb) u8 out)); have HO2_ := Aside0.mk (Kd.R_below HO2.out hb); have HD_ := Aside0.mk (HD.out.below hb); have HB_ := Aside0.mk (below_step HB.out hb); clear HT HO HO2 HD HB; have HT := HT_; have HO := HO_; have HO2 := HO2_; have HD := HD_; have HB := HB_; clear HT_ HO_ HO2_ HD_ HB_; clear hg hbox hb; have hx0 := blk_cell HBX.out 0; have hx1 := blk_cell HBX.out 1; have hfx0 := blk_frozen HBX.out 0; have hfx1 := blk_frozen HBX.out 1; replace hx0 := hx0.trans rfl; replace hx1 := hx1.trans rfl))
        (try simp only [Act.put, List.setIfInBounds_toArray, List.set_cons_zero, List.set_cons_succ])
        generalize hst : World.setCell (World.setCell w3 ⟨gb, 0, none⟩ (.int .u8 r1)) ⟨gb, 1, none⟩ (.slice A2 r2.length c2) = w4
        have HBX0 := Aside0.mk ((blk_set HBX.out 0 (.int .u8 r1)).trans rfl)
        have HT_ := Aside0.mk (hst ▸ (HT.out.apart HBX.out 0 _).apart HBX0.out 1 _)
        have HO_ := Aside0.mk ((hst ▸ Kd.R_far (p := ⟨gb, 1, none⟩) (Kd.R_far (p := ⟨gb, 0, none⟩) HO.out (fun _ h => h) _) (fun _ h => h) _ : Kd.R k38 38 w4 w.heap.size (fun k => k ≠ gb) u8 out))
        have HO2_ := Aside0.mk (hst ▸ Kd.R_set (Kd.R_set HO2.out HBX.out (by decide) 0 _) HBX0.out (by decide) 1 _)
        have HD_ := Aside0.mk (hst ▸ (HD.out.far HBX.out (by decide) (by decide) 0 _).far HBX0.out (by decide) (by decide) 1 _)
        have HB_ := Aside0.mk (hst ▸ below_set (below_set HB.out HGE.out) HGE.out)
        have HBX_ := Aside0.mk ((hst ▸ (blk_set HBX0.out 1 (.slice A2 r2.length c2)).trans rfl : w4.heap[gb]? = some (.cells #[.int .u8 r1, .slice A2 r2.length c2] 38 (0, 0))))
        clear HT HO HO2 HD HB HBX
        have HT := HT_
        have HO := HO_
        have HO2 := HO2_
        have HD := HD_
        have HB := HB_
        have HBX := HBX_
        clear HT_ HO_ HO2_ HD_ HB_ HBX_
        clear hst hx0 hx1 hfx0 hfx1 HBX0
        go_wp2_with (first | (go_at_call 55; with_reducible refine (keep_calls g b [] 0 none 0 0 rfl _ HD.out (Kd.C_nil _ _) (Nat.le_refl _) (Nat.zero_le _)).mono ?_; rintro e5 w6 ⟨rfl, hd, hn⟩; have HNR := Aside0.mk ((Near.of_below HB.out g).trans hn); have HO_ := Aside0.mk (R38.near (Kd.R_mono HO.out (fun _ _ => trivial)) HD.out.typed hn); clear HO HD HT HO2 HB HBX; have HO := HO_; clear HO_; have HD := Aside0.mk hd; have hz1 := hd.c1; have hf1 := hd.fz 1; clear hd hn))
        have HO1 := Aside0.mk (R38.near HO.out HD.out.typed ((Near.refl _ g).set_ 1 (.int .i64 r4)))
        have HD1 := Aside0.mk (HD.out.setE r4)
        have HN1 := Aside0.mk (HNR.out.set_ 1 (.int .i64 r4))
        clear hz1 hf1 HO HD HNR
        (try simp only [Act.put, List.setIfInBounds_toArray, List.set_cons_zero, List.set_cons_succ])
        generalize World.setCell w6 ⟨g, 1, none⟩ (.int .i64 r4) = w7 at HO1 HD1 HN1 ⊢
        have hz2 := HD1.out.c1
        go_quiet (fail)
        go_wp2
        (try rw [Exit.noGoto_ret])
        go_ret2
        refine ⟨_, rfl, ?_, HD1.out.drewN _, HN1.out.drewN _⟩
        have h9 := HOO.out
        rw [List.append_nil] at h9
        rw [← h9]
        exact Kd.R_drewN HO1.out _
end Go.Proofs.Ytagmefjpnmjcjab.Fh

/- What the printed functions of the frame package and of its document compute, in plain words: bytes, same, frames, all. -/
namespace Go.Proofs.Ytagmefjpnmjcjab.Fh
open Go.RowKit Go.Proofs.Ytagmefjpnmjcjab.Nu Go.Proofs.Ytagmefjpnmjcjab.Fr Go.Proofs.YtagmefjpnmjcjabW.PrintWords Go.Proofs.YtagmefjpnmjcjabW.PrintLast Go.Proofs.YtagmefjpnmjcjabW.PrintMore
open Go.Proofs.Ytagmefjpnmjcjab.FrNum (readS lenS bodyS readS_two read_eq Bytes be fits put_eq same_eq wrap64_of wrap_succ rd_drop u64_small)
set_option linter.unusedVariables false
set_option linter.unusedSimpArgs false

/-- The bytes of a frame. -/
def bytesS (c : Int) (l : List Int) : List Int × Int := if c = 0 then ([], 1) else if l.length > 300 then ([], 4) else (((l.length : Int) + 1) / 256 :: ((l.length : Int) + 1) % 256 :: c :: l, 0)
theorem be2 (n : Int) (h0 : 0 ≤ n) (h : n ≤ 65535) : be 2 n = [n / 256, n % 256] := by
  have e1 : (256 : Int) ^ 1 = 256 := by decide
  have e0 : (256 : Int) ^ 0 = 1 := by decide
  simp only [be, e1, e0]
  congr 1
  · omega
  · congr 1; omega
theorem fits_2 (n : Int) (h0 : 0 ≤ n) (h : n ≤ 65535) : fits 2 n = true := by
  unfold fits
  rw [decide_eq_true_eq]
  have e : (256 : Int) ^ (2 : Int).toNat = 65536 := by decide
  rw [e]; omega
theorem bytes_eq (k : Nat) (c : Int) (l : List Int) (hk : 11 ≤ k) : frame_Bytes.f k c l = some (bytesS c l) := by
  unfold frame_Bytes.f bytesS
  by_cases c0 : c = 0
  · rw [if_pos c0, if_pos c0]
  · rw [if_neg c0, if_neg c0]
    by_cases c1 : l.length > 300
    · rw [if_pos (by omega), if_pos c1]
    · rw [if_neg (by omega), if_neg c1, wrap64_of (by omega) (by omega), u64_small (by omega) (by omega), put_eq k [] 2 _ (by omega) (by omega) (by simp) hk, if_pos (fits_2 _ (by omega) (by omega))]
      simp only [Option.bind_some]
      rw [show (2 : Int).toNat = 2 from rfl, be2 _ (by omega) (by omega)]
      rw [if_pos (by simp), if_pos (by simp; omega)]
      rfl
theorem str_inj {a b : List Int} (ha : Bytes a) (hb : Bytes b) (h : (a.map fun n => UInt8.ofNat n.toNat) = b.map fun n => UInt8.ofNat n.toNat) : a = b := by
  induction a generalizing b with
  | nil =>
    cases b with
    | nil => rfl
    | cons y b => simp at h
  | cons x a ih =>
    cases b with
    | nil => simp at h
    | cons y b =>
      simp only [List.map_cons, List.cons.injEq] at h
      have hx := ha x (by simp)
      have hy := hb y (by simp)
      have h2 := congrArg UInt8.toNat h.1
      rw [UInt8.toNat_ofNat', UInt8.toNat_ofNat', Nat.mod_eq_of_lt (by omega), Nat.mod_eq_of_lt (by omega)] at h2
      rw [ih (fun z hz => ha z (List.mem_cons_of_mem _ hz)) (fun z hz => hb z (List.mem_cons_of_mem _ hz)) h.2]
      congr 1
      omega
theorem same38_eq (a : Int) (l : List Int) (b : Int) (m : List Int) (hl : Bytes l) (hm : Bytes m) : frame_Same.f a l b m = some (decide (a = b ∧ l = m)) := by
  unfold frame_Same.f
  by_cases c : a = b
  · rw [if_pos c]
    unfold bytes_Equal.f
    simp only [Option.bind_some]
    congr 1
    rw [Lib.strOfNums_toList, Lib.strOfNums_toList, Bool.eq_iff_iff, beq_iff_eq, decide_eq_true_eq]
    exact ⟨fun h => ⟨c, str_inj hl hm h⟩, fun h => by rw [h.2]⟩
  · rw [if_neg c]
    congr 1
    symm
    exact decide_eq_false (fun h => c h.1)
instance dec41 : DecidableEq S41 := fun a b => decidable_of_iff (a.f0 = b.f0 ∧ a.f1 = b.f1) ⟨fun h => by cases a; cases b; simp at h; rw [h.1, h.2], fun h => by rw [h]; exact ⟨rfl, rfl⟩⟩
instance dec38 : DecidableEq S38 := fun a b => decidable_of_iff (a.f0 = b.f0 ∧ a.f1 = b.f1) ⟨fun h => by cases a; cases b; simp at h; rw [h.1, h.2], fun h => by rw [h]; exact ⟨rfl, rfl⟩⟩
/-- A frame of the document's. -/
def to41 (x : S38) : S41 := ⟨x.f0, x.f1⟩
theorem to41_inj {a b : S38} (h : to41 a = to41 b) : a = b := by
  cases a; cases b
  unfold to41 at h
  injection h with h1 h2
  subst h1; subst h2
  rfl
theorem map41_inj {a b : List S38} : a.map to41 = b.map to41 ↔ a = b := by
  constructor
  · intro h
    induction a generalizing b with
    | nil => cases b with
      | nil => rfl
      | cons y b => simp at h
    | cons x a ih => cases b with
      | nil => simp at h
      | cons y b =>
        simp only [List.map_cons, List.cons.injEq] at h
        rw [to41_inj h.1, ih h.2]
  · intro h; rw [h]
end Go.Proofs.Ytagmefjpnmjcjab.Fh

/- The frame package's contracts with named lengths; and that signalmanlaw02 is awake, by hand. -/
namespace Go.Proofs.Ytagmefjpnmjcjab.Fh
open Go.RowKit Go.Proofs.YtagmefjpnmjcjabW.PrintWords Go.Proofs.YtagmefjpnmjcjabW.PrintLast Go.Proofs.YtagmefjpnmjcjabW.PrintMore
open Go.Proofs.Ytagmefjpnmjcjab.Nu (signalmanref01_Same.calls)
open Go.Proofs.Ytagmefjpnmjcjab.Fr (info5 info38 info41 S38 k38 z38 k38_mkM k38_openM S41 k41 frame_Read.f frame_Read.calls frame_Bytes.calls frame_Same.calls)
open Go.Proofs.Ytagmefjpnmjcjab.FrNum (readS read_eq Bytes same_eq)
attribute [local go_sem] max2_int min2_int max_two min_two
set_option linter.unusedVariables false
set_option linter.unusedSimpArgs false
theorem bts_of {l : List Int} (h : l.all (fun x => decide (0 ≤ x) && decide (x < 256)) = true) : Bytes l := by
  intro x hx
  have := List.all_eq_true.1 h x hx
  simpa using this
theorem C_lit8 (W : World) (l : List Int) (n : Nat) (hn : l.length = n) (hl : n ≤ 1000000) {cs : Array Value} (hcs : cs = (l.map (Value.int .u8)).toArray) : Kd.C (Kd.int .u8) (W.alloc (.cells cs 5)) (some ⟨W.heap.size, 0, none⟩) n l := by
  subst hcs
  refine ⟨hn, by omega, fun _ => ⟨_, rfl, fun j p hj => ⟨[.int .u8 p], rfl, rfl, fun i u hu => ?_⟩⟩⟩
  have hi : i = 0 := by
    rcases i with _ | i
    · rfl
    · simp at hu
  subst hi
  have hu : Value.int .u8 p = u := by simpa using hu
  subst hu
  rw [show (Addr.add ⟨W.heap.size, 0, none⟩ (j * (Kd.int .u8).sz + 0)) = ⟨W.heap.size, j, none⟩ by rw [add_at]; simp [Kd.int, Kd.scalar]]
  rw [blk_cell (heap_alloc_new W _) j, List.getElem?_toArray, List.getElem?_map, hj]
  rfl
set_option maxHeartbeats 8000000 in
set_option maxRecDepth 100000 in
theorem Bytes_calls (a : Int) (A : Option Addr) (n c : Nat) (l : List Int) (hn : l.length = n) (r1 : List Int) (r2 : Int) (w : World) (hC : Kd.C (Kd.int .u8) w A n l) (hc : n ≤ c) (h : bytesS a l = (r1, r2)) :
    Calls Try.prog 26 #[.agg #[.int .u8 a, .slice A n c]] w fun e w' => ∃ v0_ : Value, e = .returned (.tuple #[v0_, .int .i64 r2]) ∧ Kd.R (Kd.int .u8) 5 w' w.heap.size (fun _ => True) v0_ r1 ∧ Below w.heap.size w w' := by
  subst hn
  exact frame_Bytes.calls 11 a A c l r1 r2 w hC hc (by rw [bytes_eq 11 a l (Nat.le_refl _), h])
set_option maxHeartbeats 8000000 in
set_option maxRecDepth 100000 in
theorem Same38_calls (a : Int) (A : Option Addr) (n c : Nat) (l : List Int) (hn : l.length = n) (b : Int) (B : Option Addr) (m d : Nat) (k : List Int) (hm : k.length = m) (r : Bool) (w : World) (hC : Kd.C (Kd.int .u8) w A n l) (hc : n ≤ c) (hD : Kd.C (Kd.int .u8) w B m k) (hd : m ≤ d) (hl : Bytes l) (hk : Bytes k) (h : decide (a = b ∧ l = k) = r) :
    Calls Try.prog 32 #[.agg #[.int .u8 a, .slice A n c], .agg #[.int .u8 b, .slice B m d]] w fun e w' => e = .returned (.bool r) ∧ Below w.heap.size w w' := by
  subst hn hm
  exact frame_Same.calls a A c l b B d k r w hC hc hD hd (by rw [same38_eq a l b k hl hk, h])
theorem Drawn0.below_ {w w' : World} (h : Drawn0 w w') : Below w.heap.size w w' := by
  obtain ⟨n, rfl⟩ := h
  exact pw_below_drewN (Below.refl _ _) n
set_option maxHeartbeats 8000000 in
set_option maxRecDepth 100000 in
theorem Same8_calls (A : Option Addr) (n c : Nat) (l : List Int) (hn : l.length = n) (B : Option Addr) (m d : Nat) (k : List Int) (hm : k.length = m) (r : Bool) (w : World) (hC : Kd.C (Kd.int .u8) w A n l) (hc : n ≤ c) (hD : Kd.C (Kd.int .u8) w B m k) (hd : m ≤ d) (hl : n ≤ 1000000000) (h : decide (l = k) = r) :
    Calls Try.prog 23 #[.slice A n c, .slice B m d] w fun e w' => e = .returned (.bool r) ∧ Below w.heap.size w w' := by
  subst hn hm
  refine (signalmanref01_Same.calls (l.length + 1) A c l B d k r w hC hc hD hd (by rw [same_eq _ l k (by omega) (Nat.lt_succ_self _), h])).mono ?_
  rintro e w' ⟨rfl, hd⟩
  exact ⟨rfl, Drawn0.below_ hd⟩
theorem T8.near {w w' : World} {g : Nat} {v : Value} {l : List Int} (h : T8 w v l) (ht : ∃ cells, w.heap[g]? = some (.cells cells 93 (0, 0))) (hn : Near w w' g) : T8 w' v l := by
  obtain ⟨cells, hc⟩ := ht
  exact h.keep hc (by decide) hn.keep
attribute [local irreducible] IsD T8 Near

end Go.Proofs.Ytagmefjpnmjcjab.Fh

/- What frames do, in plain words: more bytes behind, frames of their bytes, what is kept. -/
namespace Go.Proofs.Ytagmefjpnmjcjab.Fh
open Go.RowKit Go.Proofs.Ytagmefjpnmjcjab.Fr
open Go.Proofs.Ytagmefjpnmjcjab.FrNum (readS lenS bodyS readS_two Bytes)
set_option linter.unusedVariables false
set_option linter.unusedSimpArgs false

theorem lenS_more {n : Int} (h0 : 0 ≤ n) {r : List Int} (h : (lenS n r).2.2.2 ≠ 3) (y : List Int) : lenS n (r ++ y) = lenS n r := by
  unfold lenS at h ⊢
  by_cases c0 : n = 0
  · rw [if_pos c0, if_pos c0]
  · rw [if_neg c0] at h ⊢
    rw [if_neg c0]
    by_cases c1 : n > 301
    · rw [if_pos c1, if_pos c1]
    · rw [if_neg c1] at h ⊢
      rw [if_neg c1]
      by_cases c2 : (r.length : Int) < n
      · rw [if_pos c2] at h
        exact absurd rfl h
      · rw [if_neg c2, if_neg (by rw [List.length_append]; omega)]
        match r, c2 with
        | [], c2 => simp at c2; omega
        | c :: t, c2 =>
          show bodyS n (c :: (t ++ y)) = bodyS n (c :: t)
          unfold bodyS
          simp only [List.length_cons] at c2
          simp only
          rw [List.take_append_of_le_length (by omega)]
/-- A frame that is told, or an error, is told whatever stands behind. -/
theorem readS_more {x : List Int} (hb : Bytes x) (h : (readS x).2.2.2 ≠ 3) (y : List Int) : readS (x ++ y) = readS x := by
  match x, hb, h with
  | [], _, h => exact absurd rfl h
  | [a], _, h => exact absurd rfl h
  | a :: b :: r, hb, h =>
    have ha := hb a (by simp)
    have hc := hb b (by simp)
    show readS (a :: b :: (r ++ y)) = _
    rw [readS_two, readS_two]
    rw [readS_two] at h
    exact lenS_more (by omega) h y
theorem framesS_more_ (N : Nat) : ∀ (x y : List Int), x.length ≤ N → Bytes (x ++ y) → framesS (x ++ y) = if (framesS x).2.2 = 0 then ((framesS x).1 ++ (framesS ((framesS x).2.1 ++ y)).1, (framesS ((framesS x).2.1 ++ y)).2) else framesS x := by
  induction N with
  | zero =>
    intro x y hx hb
    have : x = [] := List.length_eq_zero_iff.1 (by omega)
    subst this
    rfl
  | succ N ih =>
    intro x y hx hb
    have hbx := bt_left hb
    rw [framesS_step hbx]
    by_cases c : (readS x).2.2.2 = 0
    · have hn := readS_n hbx c
      rw [if_pos c]
      obtain ⟨m, hm⟩ := Int.eq_ofNat_of_zero_le (show 0 ≤ (readS x).2.2.1 by omega)
      have hm2 : (readS x).2.2.1.toNat = m := by omega
      rw [hm2]
      rw [framesS_step hb, readS_more hbx (by omega) y, if_pos c, hm2]
      have hd : (x ++ y).drop m = x.drop m ++ y := List.drop_append_of_le_length (by omega)
      rw [hd]
      have h1 := ih (x.drop m) y (by rw [List.length_drop]; omega) (by rw [← hd]; exact bt_drop hb m)
      rw [h1]
      by_cases c2 : (framesS (x.drop m)).2.2 = 0
      · rw [if_pos c2]
        simp only [if_pos c2]
        rfl
      · rw [if_neg c2]
        simp only [if_neg c2]
    · by_cases c3 : (readS x).2.2.2 = 3
      · rw [if_neg c, if_pos c3]
        simp
      · rw [if_neg c, if_neg c3, framesS_step hb, readS_more hbx c3 y, if_neg c, if_neg c3]
        simp only [if_neg c]
theorem framesS_more {x y : List Int} (hb : Bytes (x ++ y)) : framesS (x ++ y) = if (framesS x).2.2 = 0 then ((framesS x).1 ++ (framesS ((framesS x).2.1 ++ y)).1, (framesS ((framesS x).2.1 ++ y)).2) else framesS x := framesS_more_ x.length x y (Nat.le_refl _) hb
/-- What is kept: bytes of those that came. -/
theorem framesS_kept_ (N : Nat) : ∀ (x : List Int), x.length ≤ N → Bytes x → (framesS x).2.1 = [] ∨ (∃ n, (framesS x).2.1 = x.drop n) ∧ (readS (framesS x).2.1).2.2.2 = 3 := by
  induction N with
  | zero =>
    intro x hx hb
    have : x = [] := List.length_eq_zero_iff.1 (by omega)
    subst this
    exact .inl rfl
  | succ N ih =>
    intro x hx hb
    rw [framesS_step hb]
    by_cases c : (readS x).2.2.2 = 0
    · have hn := readS_n hb c
      rw [if_pos c]
      rcases ih (x.drop (readS x).2.2.1.toNat) (by rw [List.length_drop]; omega) (bt_drop hb _) with h | ⟨⟨n, h⟩, h2⟩
      · exact .inl h
      · refine .inr ⟨⟨(readS x).2.2.1.toNat + n, ?_⟩, h2⟩
        rw [← List.drop_drop]
        exact h
    · by_cases c3 : (readS x).2.2.2 = 3
      · rw [if_neg c, if_pos c3]
        exact .inr ⟨⟨0, rfl⟩, c3⟩
      · rw [if_neg c, if_neg c3]
        exact .inl rfl
theorem framesS_kept_bytes {x : List Int} (hb : Bytes x) : Bytes (framesS x).2.1 := by
  rcases framesS_kept_ x.length x (Nat.le_refl _) hb with h | ⟨⟨n, h⟩, _⟩
  · rw [h]; intro y hy; cases hy
  · rw [h]; exact bt_drop hb n
theorem framesS_kept_le {x : List Int} (hb : Bytes x) : (framesS x).2.1.length ≤ x.length := by
  rcases framesS_kept_ x.length x (Nat.le_refl _) hb with h | ⟨⟨n, h⟩, _⟩
  · rw [h]; simp
  · rw [h, List.length_drop]; omega
theorem readS_short_le {x : List Int} (hb : Bytes x) (h : (readS x).2.2.2 = 3) : x.length ≤ 302 := by
  match x, hb, h with
  | [], _, h => simp
  | [a], _, h => simp
  | a :: b :: r, hb, h =>
    have ha := hb a (by simp)
    have hc := hb b (by simp)
    rw [readS_two] at h
    unfold lenS at h
    by_cases c0 : 256 * a + b = 0
    · rw [if_pos c0] at h; simp at h
    · rw [if_neg c0] at h
      by_cases c1 : 256 * a + b > 301
      · rw [if_pos c1] at h; simp at h
      · rw [if_neg c1] at h
        by_cases c2 : (r.length : Int) < 256 * a + b
        · simp only [List.length_cons]; omega
        · rw [if_neg c2] at h
          match r, c2, h with
          | [], c2, h => simp
          | c :: t, c2, h =>
            unfold bodyS at h
            by_cases c3 : c = 0
            · simp [c3] at h
            · simp [c3] at h
theorem framesS_kept_302 {x : List Int} (hb : Bytes x) : (framesS x).2.1.length ≤ 302 := by
  rcases framesS_kept_ x.length x (Nat.le_refl _) hb with h | ⟨⟨n, h⟩, h2⟩
  · rw [h]; simp
  · exact readS_short_le (framesS_kept_bytes hb) h2
/-- What is told: frames that may be. -/
theorem framesS_told_ (N : Nat) : ∀ (x : List Int), x.length ≤ N → Bytes x → ∀ f ∈ (framesS x).1, 0 < f.f0 ∧ f.f0 < 256 ∧ Bytes f.f1 ∧ f.f1.length ≤ 300 := by
  induction N with
  | zero =>
    intro x hx hb
    have : x = [] := List.length_eq_zero_iff.1 (by omega)
    subst this
    intro f hf
    cases hf
  | succ N ih =>
    intro x hx hb
    rw [framesS_step hb]
    by_cases c : (readS x).2.2.2 = 0
    · have hn := readS_n hb c
      rw [if_pos c]
      intro f hf
      rcases List.mem_cons.1 hf with rfl | hf
      · obtain ⟨a, b, q, t, n, rfl, _, h1, h2, h3, h4, he⟩ := readS_ok hb c
        rw [he]
        have := hb q (by simp)
        refine ⟨?_, ?_, ?_, ?_⟩
        · show 0 < q
          omega
        · show q < 256
          omega
        · exact fun z hz => hb z (by have := List.mem_of_mem_take hz; simp [this])
        · show (t.take (n - 1).toNat).length ≤ 300
          rw [List.length_take]; omega
      · exact ih _ (by rw [List.length_drop]; omega) (bt_drop hb _) f hf
    · by_cases c3 : (readS x).2.2.2 = 3
      · rw [if_neg c, if_pos c3]
        intro f hf; cases hf
      · rw [if_neg c, if_neg c3]
        intro f hf; cases hf
theorem framesS_told {x : List Int} (hb : Bytes x) : ∀ f ∈ (framesS x).1, 0 < f.f0 ∧ f.f0 < 256 ∧ Bytes f.f1 ∧ f.f1.length ≤ 300 := framesS_told_ x.length x (Nat.le_refl _) hb
theorem framesS_count_ (N : Nat) : ∀ (x : List Int), x.length ≤ N → Bytes x → (framesS x).1.length ≤ x.length := by
  induction N with
  | zero =>
    intro x hx hb
    have : x = [] := List.length_eq_zero_iff.1 (by omega)
    subst this
    exact Nat.le_refl _
  | succ N ih =>
    intro x hx hb
    rw [framesS_step hb]
    by_cases c : (readS x).2.2.2 = 0
    · have hn := readS_n hb c
      rw [if_pos c]
      have := ih (x.drop (readS x).2.2.1.toNat) (by rw [List.length_drop]; omega) (bt_drop hb _)
      rw [List.length_drop] at this
      simp only [List.length_cons]
      omega
    · by_cases c3 : (readS x).2.2.2 = 3
      · rw [if_neg c, if_pos c3]; simp
      · rw [if_neg c, if_neg c3]; simp
theorem framesS_count {x : List Int} (hb : Bytes x) : (framesS x).1.length ≤ x.length := framesS_count_ x.length x (Nat.le_refl _) hb
/-- May a frame be? -/
def may (f : S38) : Prop := f.f0 ≠ 0 ∧ f.f1.length ≤ 300
theorem bytesS_ok {c : Int} {l : List Int} (h : (bytesS c l).2 = 0) : c ≠ 0 ∧ l.length ≤ 300 := by
  unfold bytesS at h
  by_cases c0 : c = 0
  · rw [if_pos c0] at h; simp at h
  · rw [if_neg c0] at h
    by_cases c1 : l.length > 300
    · rw [if_pos c1] at h; simp at h
    · exact ⟨c0, by omega⟩
theorem bytesS_eq {c : Int} {l : List Int} (h0 : c ≠ 0) (h1 : l.length ≤ 300) : bytesS c l = (((l.length : Int) + 1) / 256 :: ((l.length : Int) + 1) % 256 :: c :: l, 0) := by
  unfold bytesS
  rw [if_neg h0, if_neg (by omega)]
theorem bytesS_len {c : Int} {l : List Int} (h0 : c ≠ 0) (h1 : l.length ≤ 300) : (bytesS c l).1.length = l.length + 3 := by
  rw [bytesS_eq h0 h1]
  simp
theorem bytesS_bytes {c : Int} {l : List Int} (hc : 0 ≤ c ∧ c < 256) (hl : Bytes l) : Bytes (bytesS c l).1 := by
  unfold bytesS
  by_cases c0 : c = 0
  · rw [if_pos c0]; intro x hx; cases hx
  · rw [if_neg c0]
    by_cases c1 : l.length > 300
    · rw [if_pos c1]; intro x hx; cases hx
    · rw [if_neg c1]
      intro x hx
      simp only [List.mem_cons] at hx
      rcases hx with rfl | rfl | rfl | hx
      · omega
      · omega
      · exact hc
      · exact hl x hx
/-- Its bytes, whatever stands behind, are read as the frame. -/
theorem readS_bytesS {c : Int} {l : List Int} (h0 : c ≠ 0) (h1 : l.length ≤ 300) (m : List Int) : readS ((bytesS c l).1 ++ m) = (c, l, (l.length : Int) + 3, 0) := by
  rw [bytesS_eq h0 h1]
  show readS (((l.length : Int) + 1) / 256 :: ((l.length : Int) + 1) % 256 :: (c :: (l ++ m))) = _
  rw [readS_two, show 256 * (((l.length : Int) + 1) / 256) + ((l.length : Int) + 1) % 256 = (l.length : Int) + 1 by omega]
  unfold lenS
  rw [if_neg (by omega), if_neg (by omega), if_neg (by simp only [List.length_cons, List.length_append]; omega)]
  unfold bodyS
  simp only
  rw [if_neg h0, show ((l.length : Int) + 1 - 1).toNat = l.length by omega, List.take_left']
  · congr 3
    omega
  · rfl
theorem framesS_bytesS {c : Int} {l : List Int} (hc : 0 ≤ c ∧ c < 256) (hl : Bytes l) (h0 : c ≠ 0) (h1 : l.length ≤ 300) {m : List Int} (hm : Bytes m) : framesS ((bytesS c l).1 ++ m) = ((⟨c, l⟩ : S38) :: (framesS m).1, (framesS m).2) := by
  rw [framesS_step (bt_append (bytesS_bytes hc hl) hm), readS_bytesS h0 h1 m]
  have hd : ((bytesS c l).1 ++ m).drop ((l.length : Int) + 3).toNat = m := by
    rw [List.drop_left' (by rw [bytesS_len h0 h1]; omega)]
  simp only [hd, if_true]
/-- The bytes of frames, one behind the other. -/
def allB (l : List S38) : List Int := l.flatMap (fun f => (bytesS f.f0 f.f1).1)
theorem allB_bytes {l : List S38} (h : ∀ f ∈ l, (0 ≤ f.f0 ∧ f.f0 < 256) ∧ Bytes f.f1) : Bytes (allB l) := by
  intro x hx
  unfold allB at hx
  obtain ⟨f, hf, hx⟩ := List.mem_flatMap.1 hx
  exact bytesS_bytes (h f hf).1 (h f hf).2 x hx
theorem framesS_allB {l : List S38} (h : ∀ f ∈ l, (0 ≤ f.f0 ∧ f.f0 < 256) ∧ Bytes f.f1) (hm : ∀ f ∈ l, may f) : framesS (allB l) = (l, [], 0) := by
  induction l with
  | nil => rfl
  | cons f l ih =>
    have e : allB (f :: l) = (bytesS f.f0 f.f1).1 ++ allB l := rfl
    have hf := h f (by simp)
    have hq := hm f (by simp)
    rw [e, framesS_bytesS hf.1 hf.2 hq.1 hq.2 (allB_bytes (fun g hg => h g (List.mem_cons_of_mem _ hg))), ih (fun g hg => h g (List.mem_cons_of_mem _ hg)) (fun g hg => hm g (List.mem_cons_of_mem _ hg))]
end Go.Proofs.Ytagmefjpnmjcjab.Fh

/- The frame package's and its document's contracts with named lengths. -/
namespace Go.Proofs.Ytagmefjpnmjcjab.Fh
open Go.RowKit Go.Proofs.YtagmefjpnmjcjabW.PrintWords Go.Proofs.YtagmefjpnmjcjabW.PrintLast Go.Proofs.YtagmefjpnmjcjabW.PrintMore
open Go.Proofs.Ytagmefjpnmjcjab.Fr
open Go.Proofs.Ytagmefjpnmjcjab.FrNum (readS read_eq Bytes same_eq)
set_option linter.unusedVariables false
set_option linter.unusedSimpArgs false
/-- A row of frames that is read, whatever decoder changes. -/
def T38 (W : World) (N : Nat) (v : Value) (l : List S38) : Prop := Kd.V k38 38 W 0 (fun k => N ≤ k) v l
theorem T38.of_R {W : World} {base N : Nat} {ok : Nat → Prop} {v : Value} {l : List S38} (h : Kd.R k38 38 W base ok v l) (hN : N ≤ base) : T38 W N v l := Kd.V_mono (Kd.R_V (Kd.R_bound h)) (fun k hk => Nat.le_trans hN hk.2.1)
section
variable {W W' : World} {N : Nat} {v : Value} {l : List S38}
theorem T38.below (h : T38 W N v l) (hb : Below W.heap.size W W') : T38 W' N v l := Kd.V_below h hb
theorem T38.alloc (h : T38 W N v l) (o : Obj) : T38 (W.alloc o) N v l := Kd.V_alloc h o
theorem T38.slice (h : T38 W N v l) : ∃ A c, v = .slice A l.length c := Kd.V_slice h
theorem T38.near {g : Nat} (h : T38 W N v l) (hg : g < N) (hn : Near W W' g) : T38 W' N v l := Kd.V_keep h hn.keep (fun k hk e => by omega)
end
theorem frames_len {x : List Int} {o : List S38} {b2 : List Int} {e2 : Int} (hB : Bytes x) (h : framesS x = (o, b2, e2)) : o.length ≤ x.length ∧ b2.length ≤ x.length ∧ Bytes b2 ∧ (∀ f ∈ o, Bytes f.f1 ∧ f.f1.length ≤ 300) := by
  have h1 := framesS_count hB
  have h2 := framesS_kept_le hB
  have h3 := framesS_kept_bytes hB
  have h4 := framesS_told hB
  rw [h] at h1 h2 h3 h4
  exact ⟨h1, h2, h3, fun f hf => (h4 f hf).2.2⟩
end Go.Proofs.Ytagmefjpnmjcjab.Fh

/- FrameFeeds, walked by hand. -/
namespace Go.Proofs.Ytagmefjpnmjcjab.Fh
open Go.RowKit Go.Proofs.YtagmefjpnmjcjabW.PrintWords Go.Proofs.YtagmefjpnmjcjabW.PrintLast Go.Proofs.YtagmefjpnmjcjabW.PrintMore
open Go.Proofs.Ytagmefjpnmjcjab.Fr
open Go.Proofs.Ytagmefjpnmjcjab.FrNum (readS read_eq Bytes)
attribute [local go_sem] max2_int min2_int max_two min_two
set_option linter.unusedVariables false
set_option linter.unusedSimpArgs false
theorem bytes_of_wf {l : List Int} (h : ∀ x ∈ l, (Lit.int .u8 x).wf = true) : Bytes l := fun x hx => by
  have := h x hx
  simp [Lit.wf, IntKind.min, IntKind.max, IntKind.signed, IntKind.bits] at this
  omega
theorem L1_eq (l : List (List Int)) (i : Nat) (h : i < l.length) : rd_L1 l (i : Int) = l[i] := by
  unfold rd_L1
  rw [Int.toNat_natCast, List.getD_eq_getElem?_getD, List.getElem?_eq_getElem h]
  rfl
theorem T8.v {W : World} {v : Value} {l : List Int} (h : T8 W v l) : ∃ ok, Kd.V (Kd.int .u8) 5 W 0 ok v l := by
  obtain ⟨ok, _, hv⟩ := h
  exact ⟨ok, hv⟩
theorem T38.v {W : World} {N : Nat} {v : Value} {l : List S38} (h : T38 W N v l) : Kd.V k38 38 W 0 (fun k => N ≤ k) v l := h
theorem dec_self {α : Type} [DecidableEq α] (a : α) : decide (a = a) = true := decide_eq_true rfl
theorem C_zero {α : Type} (d : Kd α) (W : World) (A : Option Addr) : Kd.C d W A 0 [] := ⟨rfl, by omega, fun h => absurd h (Nat.lt_irrefl 0)⟩
attribute [local irreducible] IsD T8 Near T38

end Go.Proofs.Ytagmefjpnmjcjab.Fh

/- Rows of frames beside a decoder: read between two numbers of blocks (TV), or made (TN). -/
namespace Go.Proofs.Ytagmefjpnmjcjab.Fh
open Go.RowKit Go.Proofs.YtagmefjpnmjcjabW.PrintWords Go.Proofs.YtagmefjpnmjcjabW.PrintLast Go.Proofs.YtagmefjpnmjcjabW.PrintMore
open Go.Proofs.Ytagmefjpnmjcjab.Fr
open Go.Proofs.Ytagmefjpnmjcjab.FrNum (readS read_eq Bytes)
set_option linter.unusedVariables false
set_option linter.unusedSimpArgs false
theorem info3i : (Try.prog.info? 3).map (fun i => (i.zero, i.size, i.bytes)) = some (some (.int .i64 0), 1, 8) := by kernel_rfl
/-- A row that is read; its blocks lie between lo and hi. -/
def TV {α : Type} (d : Kd α) (lo hi : Nat) (W : World) (v : Value) (l : List α) : Prop := Kd.V d 0 W 0 (fun k => lo < k ∧ k < hi) v l
section
variable {α : Type} {d : Kd α} {lo hi e base : Nat} {ok : Nat → Prop} {W W' : World} {v : Value} {l : List α}
theorem TV.of_R (h : Kd.R d e W base ok v l) (hl : lo < base) : TV d lo W.heap.size W v l := by
  have h2 : Kd.V d e W 0 _ v l := Kd.R_V (Kd.R_bound h)
  exact (Kd.V_mono h2 (fun k hk => ⟨Nat.lt_of_lt_of_le hl hk.2.1, hk.2.2.1⟩) : Kd.V d e W 0 (fun k => lo < k ∧ k < W.heap.size) v l)
theorem TV.wide {hi2 : Nat} (h : TV d lo hi W v l) (hh : hi ≤ hi2) : TV d lo hi2 W v l := Kd.V_mono h (fun k hk => ⟨hk.1, Nat.lt_of_lt_of_le hk.2 hh⟩)
theorem TV.below (h : TV d lo hi W v l) (hb : Below W.heap.size W W') : TV d lo hi W' v l := Kd.V_below h hb
theorem TV.alloc (h : TV d lo hi W v l) (o : Obj) : TV d lo hi (W.alloc o) v l := Kd.V_alloc h o
theorem TV.near (h : TV d lo hi W v l) (hn : Near W W' lo) : TV d lo hi W' v l := Kd.V_keep h hn.keep (fun k hk e => by omega)
theorem TV.grown (h : TV d lo hi W v l) {row : Option Nat} (hg : W.grownBy W' row) (hr : ∀ k, row = some k → hi ≤ k) : TV d lo hi W' v l := Kd.V_grown h hg (fun k hk e => by have := hr k e.symm; omega)
theorem TV.vv (h : TV d lo hi W v l) : Kd.V d e W 0 (fun k => lo < k ∧ k < hi) v l := h
theorem TV.slice (h : TV d lo hi W v l) : ∃ A c, v = .slice A l.length c := Kd.V_slice h
theorem TV.at_ {A : Option Addr} {n c : Nat} (h : TV d lo hi W (.slice A n c) l) : Kd.C d W A n l := by
  have h2 := Kd.V_reads' (show Kd.V d 0 W 0 _ (.slice A n c) l from h)
  rw [h2.1]
  exact h2.2.2
theorem C_cut {l : List Int} {A : Option Addr} {n c m t : Nat} (h : Kd.C (Kd.int .u8) W A n l) (hn : l.length = n) (hc : n ≤ c) (hm : m ≤ t) (ht : t ≤ n) : Kd.C (Kd.int .u8) W (if c = m then A else A.map (·.add (m * 1))) (t - m) ((l.take t).drop m) := by
  subst hn
  have h2 := Kd.C_mid (lo := m) (hi := t) (c := c) h hm ht hc
  rw [show ((l.take t).drop m).length = t - m by rw [List.length_drop, List.length_take]; omega] at h2
  exact h2
end
/-- A row of frames that is made, its own block at hi or above, nothing of it at lo or below. -/
def TN (lo hi : Nat) (W : World) (v : Value) (l : List S38) : Prop := Kd.N k38 38 W hi (fun k => lo < k) v l
section
variable {lo hi e base : Nat} {ok : Nat → Prop} {W W' : World} {v : Value} {l : List S38}
theorem TN.nil (lo hi : Nat) (W : World) : TN lo hi W (.slice none 0 0) [] := Kd.N_nil _ _ _ _ _
theorem TN.below (h : TN lo hi W v l) (hb : Below W.heap.size W W') : TN lo hi W' v l := Kd.N_below h hb
theorem TN.alloc (h : TN lo hi W v l) (o : Obj) : TN lo hi (W.alloc o) v l := Kd.N_alloc h o
theorem TN.near (h : TN lo hi W v l) (hn : Near W W' lo) : TN lo hi W' v l := Kd.N_keep h hn.keep (fun k hk e => by omega)
theorem TN.vv (h : TN lo hi W v l) : Kd.V k38 38 W 0 (fun k => lo < k) v l := Kd.N_V h
theorem TN.slice (h : TN lo hi W v l) : ∃ A c, v = .slice A l.length c := Kd.N_slice h
theorem TN.typed (h : TN lo hi W v l) : ∀ k, v.ownBlock = some k → ∃ cells, W.heap[k]? = some (.cells cells 38 (0, 0)) := Kd.N_typed h
theorem TN.base_ (h : TN lo hi W v l) : ∀ k, v.ownBlock = some k → hi ≤ k := Kd.N_base h
/-- A row that is behind an append to the made one. -/
def TF (lo : Nat) (W : World) (v : Value) (A : Option Addr) (n : Nat) (l : List S38) : Prop := Kd.F k38 W (fun k => lo < k ∧ some k ≠ v.ownBlock) A n l
theorem TN.none (lo : Nat) (W : World) (v : Value) : TF lo W v Option.none 0 [] := Kd.F_nil _ _ _
theorem TN.fresh {A : Option Addr} {n c : Nat} (h : Kd.R k38 38 W' W.heap.size ok (.slice A n c) l) {m : List S38} (ho : TN lo hi W v m) (hl : lo < W.heap.size) : TF lo W' v A n l := by
  have hlt : ∀ k, v.ownBlock = some k → k < W.heap.size := by
    exact Kd.N_lt ho
  exact Kd.F_mono (Kd.R_F (Kd.R_bound h)) (fun k hk => ⟨Nat.lt_of_lt_of_le hl hk.2.1, fun e => by have := hlt k e.symm; have := hk.2.1; omega⟩)
end
section
variable {ops : Array Oper} {rest : List Oper} {o : Oper} {a : Act} {Q : Exit → Act → World → Prop}
theorem TN.append_rows {lo hi : Nat} {W : World} {v : Value} {xs ys : List S38} {A : Option Addr} {m c : Nat} (hgd : o.guard = Option.none) (s x : Operand) (ho : o.op = .call { callee := .builtin .append, args := #[s, x], argTypes := #[54, 54] }) (hs : a.eval s = v) (hx : a.eval x = .slice A m c)
    (HO : TN lo hi W v xs) (HR : TF lo W v A m ys) (hw : hi ≤ W.heap.size) (hlo : lo < hi) (hl : xs.length + m ≤ 1000000)
    (h : ∀ v1 w1, TN lo hi w1 v1 (xs ++ ys) → W.grownBy w1 v.ownBlock → (∀ k, v.ownBlock = some k → hi ≤ k) → wpList Try.prog ops Q rest (a.put o.dst v1) w1) :
    wpList Try.prog ops Q (o :: rest) a W :=
  Kd.N_append_rows k38 (w0 := W) hi hgd s x 54 38 (.agg #[.int .u8 0, .slice Option.none 0 0]) 32 ho Try.underlying54 info38 rfl (by decide) (by omega) v xs ys A m c (fun k => lo < k) _ hs hx HO HR (fun _ hk => hk) (fun k hk => Nat.lt_of_lt_of_le hlo (Nat.le_trans hw hk)) (Below.refl _ _) hw (by omega) (fun v1 w1 h1 _ hg _ => h v1 w1 h1 hg (Kd.N_base HO))
end
end Go.Proofs.Ytagmefjpnmjcjab.Fh
