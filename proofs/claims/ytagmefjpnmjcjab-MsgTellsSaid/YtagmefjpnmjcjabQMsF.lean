/- Cut to what this claim names. -/
import Derived.Test.YtagmefjpnmjcjabQFrNum
import Derived.Test.YtagmefjpnmjcjabQFrx3
import Derived.Test.YtagmefjpnmjcjabQFrx5
import Derived.Test.YtagmefjpnmjcjabQFrx4
import Derived.Test.YtagmefjpnmjcjabQFrx6
import Derived.Lib.Bytes
import Derived.WalkMore
/- What the printed functions of the frame package compute, in plain words. -/
namespace Go.Proofs.Ytagmefjpnmjcjab.FrNum
open Go.RowKit Go.Proofs.Ytagmefjpnmjcjab.Nu Go.Proofs.Ytagmefjpnmjcjab.Fr Go.Proofs.YtagmefjpnmjcjabW.PrintWords Go.Proofs.YtagmefjpnmjcjabW.PrintLast Go.Proofs.YtagmefjpnmjcjabW.PrintMore
set_option linter.unusedVariables false
set_option linter.unusedSimpArgs false

/-- The kind and the body behind a length `n`. -/
def bodyS (n : Int) (r : List Int) : Int × List Int × Int × Int :=
  match r with
  | [] => (0, [], 0, 3)
  | c :: t => if c = 0 then (0, [], 0, 2) else (c, t.take (n - 1).toNat, 2 + n, 0)
/-- The frame behind a length `n`. -/
def lenS (n : Int) (r : List Int) : Int × List Int × Int × Int :=
  if n = 0 then (0, [], 0, 2) else if n > 301 then (0, [], 0, 4) else if (r.length : Int) < n then (0, [], 0, 3) else bodyS n r
/-- The frame that bytes begin with: kind, body, how many bytes, error. -/
def readS (b : List Int) : Int × List Int × Int × Int :=
  match b with
  | x :: y :: r => lenS (256 * x + y) r
  | _ => (0, [], 0, 3)
theorem readS_two (x y : Int) (r : List Int) : readS (x :: y :: r) = lenS (256 * x + y) r := rfl
theorem wrap64_of {n : Int} (h0 : -1000000000 ≤ n) (h1 : n ≤ 1000000000) : wrap64 n = n := by unfold wrap64; omega
theorem read_eq (k : Nat) (b : List Int) (hb : Bytes b) (hl : b.length ≤ 1000000) (hk : 11 ≤ k) : frame_Read.f k b = some (readS b) := by
  unfold frame_Read.f
  rw [take_eq k b 2 hb (by omega) hk, if_pos (by omega)]
  match b, hb, hl with
  | [], _, _ => rfl
  | [x], _, _ => rfl
  | x :: y :: r, hb, hl =>
    have hx := hb x (by simp)
    have hy := hb y (by simp)
    simp only [List.length_cons] at hl
    rw [if_neg (by simp; omega)]
    have hv : vl 0 ((x :: y :: r).take (2 : Int).toNat) = 256 * x + y := by simp [vl]
    have hd : (x :: y :: r).drop (2 : Int).toNat = r := rfl
    rw [hv, hd]
    obtain ⟨n, hn⟩ : ∃ n, 256 * x + y = n := ⟨_, rfl⟩
    simp only [Option.bind_some, hn]
    rw [readS_two, hn]; unfold lenS
    rw [if_pos trivial]
    by_cases c0 : n = 0
    · rw [if_pos c0, if_pos c0]
    · rw [if_neg c0, if_neg c0]
      by_cases c1 : n > 301
      · rw [if_pos c1, if_pos c1]
      · rw [if_neg c1, if_neg c1, u64_small (by omega) (by omega)]
        by_cases c2 : (r.length : Int) < n
        · rw [if_pos c2, if_pos c2]
        · rw [if_neg c2, if_neg c2]
          cases r with
          | nil => simp at c2; omega
          | cons c t =>
            have hc : rd (c :: t) 0 = c := rfl
            unfold bodyS
            rw [if_pos (by simp only [List.length_cons]; omega), hc]; show _ = some (if c = 0 then (0, [], 0, 2) else (c, t.take (n - 1).toNat, 2 + n, 0))
            by_cases c3 : c = 0
            · simp only [c3, if_true]
            · simp only [if_neg c3]
              rw [if_pos (by omega), if_pos (by omega)]
              obtain ⟨m, hm⟩ : ∃ m : Nat, n.toNat = m + 1 := ⟨n.toNat - 1, by omega⟩
              have hm2 : (n - 1).toNat = m := by omega
              simp only [List.length_cons] at c2 hl
              rw [hm, hm2, List.take_succ_cons, List.drop_one, List.tail_cons, clone_eq _ (by rw [List.length_take]; omega)]
              simp only [Option.bind_some]
              rw [wrap64_of (n := n) (by omega) (by omega), wrap64_of (by omega) (by omega)]
end Go.Proofs.Ytagmefjpnmjcjab.FrNum

/- The decoder of frames (package frame), by hand: what each method does to its cells. -/
namespace Go.Proofs.Ytagmefjpnmjcjab.Fh
open Go.RowKit Go.Proofs.YtagmefjpnmjcjabW.PrintWords Go.Proofs.YtagmefjpnmjcjabW.PrintLast Go.Proofs.YtagmefjpnmjcjabW.PrintMore
open Go.Proofs.Ytagmefjpnmjcjab.Nu (slices_Clone_byte_byte.f slices_Clone_byte_byte.calls)
open Go.Proofs.Ytagmefjpnmjcjab.Fr (info5 info38 S38 k38 k38_mkM k38_openM S41 k41 frame_Read.f frame_Read.calls)
open Go.Proofs.Ytagmefjpnmjcjab.FrNum (readS read_eq)
attribute [local go_sem] max2_int min2_int max_two min_two
set_option linter.unusedVariables false
set_option linter.unusedSimpArgs false

/-- All blocks but g stay, and what lies below is as before. -/
def Near (w w' : World) (g : Nat) : Prop := KeepBut w w' g none ∧ ∀ w0 : World, w0.heap.size ≤ g → Below w0.heap.size w0 w → Below w0.heap.size w0 w'
theorem Near.refl (w : World) (g : Nat) : Near w w g := ⟨KeepBut.refl _ _ _, fun _ _ h => h⟩
theorem Near.drewN {w w1 : World} {g : Nat} (h : Near w w1 g) (m : Nat) : Near w (w1.drewN m) g := ⟨h.1.trans (KeepBut.of_below (pw_below_drewN (Below.refl _ _) m) g none) (.inl rfl), fun w0 hg hB => pw_below_drewN (h.2 w0 hg hB) m⟩
theorem Near.set_ {w w1 : World} {g : Nat} (h : Near w w1 g) (j : Nat) (u : Value) : Near w (w1.setCell ⟨g, j, none⟩ u) g := ⟨h.1.set_ j u, fun w0 hg hB => below_set (h.2 w0 hg hB) hg⟩
theorem Near.bel {w w' w0 : World} {g : Nat} (h : Near w w' g) (hg : w0.heap.size ≤ g) (hB : Below w0.heap.size w0 w) : Below w0.heap.size w0 w' := h.2 w0 hg hB
theorem Near.keep {w w' : World} {g : Nat} (h : Near w w' g) : KeepBut w w' g none := h.1
theorem Near.of_below {w w' : World} (h : Below w.heap.size w w') (g : Nat) : Near w w' g := ⟨KeepBut.of_below h g none, fun w0 hg hB => below_step hB h⟩
theorem Near.grown {w W w' : World} {g : Nat} (h : Near w W g) {row : Option Nat} (hg : W.grownBy w' row) (hr : ∀ k, row = some k → w.heap.size ≤ k) (hgl : g < w.heap.size) : Near w w' g :=
  ⟨⟨Nat.le_trans h.1.1 hg.size, fun i hi hne _ => (hg.block i (Nat.lt_of_lt_of_le hi h.1.1) (fun e => by have := hr i e.symm; omega)).trans (h.1.2 i hi hne (by simp))⟩,
    fun w0 hw0 hB => (h.2 w0 hw0 hB).grown hg (by have := h.1.1; omega) (fun k hk => by have := hr k hk; omega)⟩
theorem Near.far {w W : World} {g gb : Nat} (h : Near w W g) (hge : w.heap.size ≤ gb) (j : Nat) (u : Value) (hgl : g < w.heap.size) : Near w (W.setCell ⟨gb, j, none⟩ u) g :=
  ⟨⟨by simpa [World.setCell] using h.1.1, fun i hi hne hr => (Below.heap_setCell W ⟨gb, j, none⟩ u i (by simp; omega)).trans (h.1.2 i hi hne hr)⟩, fun w0 hg hB => below_set (h.2 w0 hg hB) (by omega)⟩

/-- Bytes, wherever a slice of them lies in blocks of bytes. -/
def T8 (W : World) (v : Value) (l : List Int) : Prop := ∃ ok : Nat → Prop, (∀ k, ok k → ∃ cells, W.heap[k]? = some (.cells cells 5 (0, 0))) ∧ Kd.V (Kd.int .u8) 5 W 0 ok v l
section
variable {W W' : World} {v : Value} {l : List Int}
theorem T8.same (h : T8 W v l) (hm : ∀ (k : Nat) (cells : Array Value), W.heap[k]? = some (.cells cells 5 (0, 0)) → W'.heap[k]? = W.heap[k]?) : T8 W' v l := by
  obtain ⟨ok, ho, hv⟩ := h
  refine ⟨ok, fun k hk => ?_, Kd.V_step hv (fun k hk _ => ?_)⟩
  · obtain ⟨cells, hc⟩ := ho k hk
    exact ⟨cells, (hm k cells hc).trans hc⟩
  · obtain ⟨cells, hc⟩ := ho k hk
    exact hm k cells hc
theorem T8.below (h : T8 W v l) (hb : Below W.heap.size W W') : T8 W' v l := h.same (fun k _ hc => hb.block k (blk_lt hc))
theorem T8.drewN (h : T8 W v l) (m : Nat) : T8 (W.drewN m) v l := h.below (pw_below_drewN (Below.refl _ _) m)
theorem T8.drew (h : T8 W v l) : T8 W.drew v l := h.below (below_drew1 (Below.refl _ _))
theorem T8.alloc (h : T8 W v l) (o : Obj) : T8 (W.alloc o) v l := h.below (below_alloc (Below.refl _ _) o)
theorem ne_typed {g k t q : Nat} {cs cells : Array Value} (hg : W.heap[g]? = some (.cells cs t (0, 0))) (hk : W.heap[k]? = some (.cells cells q (0, 0))) (ht : t ≠ q) : k ≠ g := by
  rintro rfl
  rw [hk] at hg
  injection hg with hg
  injection hg with _ hg
  exact ht hg.symm
theorem T8.far (h : T8 W v l) {g t : Nat} {cs : Array Value} (hg : W.heap[g]? = some (.cells cs t (0, 0))) (ht : t ≠ 5) (j : Nat) (u : Value) : T8 (W.setCell ⟨g, j, none⟩ u) v l :=
  h.same (fun k _ hc => Below.heap_setCell W ⟨g, j, none⟩ u k (ne_typed hg hc ht))
theorem T8.keep (h : T8 W v l) {g t : Nat} {cs : Array Value} (hg : W.heap[g]? = some (.cells cs t (0, 0))) (ht : t ≠ 5) (hk : KeepBut W W' g none) : T8 W' v l :=
  h.same (fun k _ hc => hk.2 k (blk_lt hc) (ne_typed hg hc ht) (by simp))
theorem T8.grown (h : T8 W v l) {row : Option Nat} (hg : W.grownBy W' row) (hr : ∀ k, row = some k → ∀ cells, W.heap[k]? ≠ some (.cells cells 5 (0, 0))) : T8 W' v l :=
  h.same (fun k cells hc => hg.block k (blk_lt hc) (fun e => hr k e.symm cells hc))
theorem T8.of_R {base : Nat} {ok : Nat → Prop} (h : Kd.R (Kd.int .u8) 5 W base ok v l) : T8 W v l := by
  refine ⟨_, ?_, Kd.R_V (Kd.R_bound h)⟩
  rintro k ⟨_, _, _, q, hq, cells, hc⟩
  have : q = 5 := by simpa [Kd.int, Kd.scalar] using hq
  subst this
  exact ⟨cells, hc⟩
theorem T8.nil (W : World) : T8 W (.slice none 0 0) [] := ⟨fun _ => False, fun _ h => h.elim, Kd.V_nil _ _ _ _ _⟩
theorem T8.slice (h : T8 W v l) : ∃ A c, v = .slice A l.length c := by
  obtain ⟨_, _, hv⟩ := h
  exact Kd.V_slice hv
theorem T8.at_ {A : Option Addr} {n c : Nat} (h : T8 W (.slice A n c) l) : n = l.length ∧ n ≤ c ∧ Kd.C (Kd.int .u8) W A n l := by
  obtain ⟨_, _, hv⟩ := h
  have h2 := Kd.V_reads' hv
  refine ⟨h2.1, h2.2.1, ?_⟩
  rw [h2.1]
  exact h2.2.2
theorem T8.cut {A : Option Addr} {n c : Nat} (h : T8 W (.slice A n c) l) (m : Nat) (hm : m ≤ n) : T8 W (.slice (if c = m then A else A.map (·.add (m * 1))) (n - m) (c - m)) (l.drop m) := by
  obtain ⟨ok, ho, hv⟩ := h
  have h2 := Kd.V_at hv
  obtain ⟨h3, h4, h5⟩ := h2
  have h6 := Kd.F_cut (m := m) (c := c) h5 (by omega) (by omega)
  refine ⟨ok, ho, ?_⟩
  rw [show n - m = (l.drop m).length by rw [List.length_drop]; omega]
  exact Kd.V_mk (by rw [List.length_drop]; omega) h6
end
/-- A decoder at block g: what it keeps, and what ended it. -/
def IsD (W : World) (g : Nat) (b : List Int) (e : Int) : Prop := ∃ v, W.heap[g]? = some (.cells #[v, .int .i64 e] 93 (0, 0)) ∧ T8 W v b
section
variable {W W' : World} {g : Nat} {b : List Int} {e : Int}
theorem IsD.lt (h : IsD W g b e) : g < W.heap.size := by
  obtain ⟨v, hb, _⟩ := h
  exact blk_lt hb
theorem IsD.typed (h : IsD W g b e) : ∃ cells, W.heap[g]? = some (.cells cells 93 (0, 0)) := by
  obtain ⟨v, hb, _⟩ := h
  exact ⟨_, hb⟩
theorem IsD.below (h : IsD W g b e) (hb : Below W.heap.size W W') : IsD W' g b e := by
  obtain ⟨v, h1, h2⟩ := h
  exact ⟨v, (hb.block g (blk_lt h1)).trans h1, h2.below hb⟩
theorem IsD.drewN (h : IsD W g b e) (m : Nat) : IsD (W.drewN m) g b e := h.below (pw_below_drewN (Below.refl _ _) m)
theorem IsD.drew (h : IsD W g b e) : IsD W.drew g b e := h.below (below_drew1 (Below.refl _ _))
theorem IsD.alloc (h : IsD W g b e) (o : Obj) : IsD (W.alloc o) g b e := h.below (below_alloc (Below.refl _ _) o)
theorem IsD.near (h : IsD W g b e) {g2 : Nat} (hne : g ≠ g2) (ht : ∃ cells, W.heap[g2]? = some (.cells cells 93 (0, 0))) (hn : Near W W' g2) : IsD W' g b e := by
  obtain ⟨v, h1, h2⟩ := h
  obtain ⟨cells, hc⟩ := ht
  exact ⟨v, KeepBut.blk hn.keep h1 hne (by simp), h2.keep hc (by decide) hn.keep⟩
theorem IsD.grown (h : IsD W g b e) {row : Option Nat} {t : Nat} (hg : W.grownBy W' row) (hr : ∀ k, row = some k → ∃ cells, W.heap[k]? = some (.cells cells t (0, 0))) (h1 : t ≠ 93) (h2 : t ≠ 5) : IsD W' g b e := by
  obtain ⟨v, hb, hv⟩ := h
  refine ⟨v, (hg.block g (blk_lt hb) (fun e2 => ?_)).trans hb, hv.grown hg (fun k hk cells hc => ?_)⟩
  · obtain ⟨cells, hc⟩ := hr g e2.symm
    exact ne_typed hc hb h1 rfl
  · obtain ⟨cells2, hc2⟩ := hr k hk
    exact ne_typed hc2 hc h2 rfl
theorem IsD.c0 (h : IsD W g b e) : ∃ A c, W.cell? ⟨g, 0, none⟩ = some (.slice A b.length c) ∧ T8 W (.slice A b.length c) b := by
  obtain ⟨v, hb, hv⟩ := h
  obtain ⟨A, c, rfl⟩ := hv.slice
  exact ⟨A, c, (blk_cell hb 0).trans rfl, hv⟩
theorem IsD.c1 (h : IsD W g b e) : W.cell? ⟨g, 1, none⟩ = some (.int .i64 e) := by
  obtain ⟨v, hb, hv⟩ := h
  exact (blk_cell hb 1).trans rfl
theorem IsD.fz (h : IsD W g b e) (j : Nat) : W.frozen? ⟨g, j, none⟩ = false := by
  obtain ⟨v, hb, hv⟩ := h
  exact blk_frozen hb j
theorem IsD.setE (h : IsD W g b e) (x : Int) : IsD (W.setCell ⟨g, 1, none⟩ (.int .i64 x)) g b x := by
  obtain ⟨v, hb, hv⟩ := h
  exact ⟨v, (blk_set hb 1 (.int .i64 x)).trans rfl, hv.far hb (by decide) 1 _⟩
theorem IsD.setB (h : IsD W g b e) {v2 : Value} {b2 : List Int} (h2 : T8 W v2 b2) : IsD (W.setCell ⟨g, 0, none⟩ v2) g b2 e := by
  obtain ⟨v, hb, hv⟩ := h
  exact ⟨v2, (blk_set hb 0 v2).trans rfl, h2.far hb (by decide) 0 _⟩
end
attribute [local irreducible] IsD T8 Near

set_option maxHeartbeats 8000000 in
set_option maxRecDepth 100000 in
theorem Grow_calls (n : Int) (w : World) (h0 : 0 ≤ n) (hn : n ≤ 1000000000) :
    Calls Try.prog 64 #[.slice none 0 0, .int .i64 n] w fun e w' => ∃ v : Value, e = .returned v ∧ Kd.R (Kd.int .u8) 5 w' w.heap.size (fun _ => True) v [] ∧ Below w.heap.size w w' := by
  have b0 : decide (n < 0) = false := decide_eq_false (by omega)
  have w0 : wrap64 n = n := FrNum.wrap64_of (by omega) (by omega)
  by_cases c : n = 0
  · subst c
    go_enter Try.func64, Try.ntmps64
    go_wp2
    first | go_ret | go_ret2 | go_ret3
    exact ⟨_, rfl, Kd.R_nil _ _ _ _ _, by repeat (first | exact Below.refl _ _ | apply pw_below_drewN)⟩
  · have b1 : decide (0 < n) = true := decide_eq_true (by omega)
    have H0 := Aside0.mk h0
    have HN := Aside0.mk hn
    have HC := Aside0.mk c
    clear c
    go_enter Try.func64, Try.ntmps64
    go_wp2_with (first | ((with_reducible refine gate_builtin (b := .append) (xs := #[.tmp 20, .tmp 21]) rfl ?_); at_builtin; refine Kd.R_append_zeros (Kd.int .u8) (w0 := w) w.heap.size rfl (.tmp 20) (.tmp 21) 22 3 5 (.int .u8 0) 1 rfl Try.underlying22 (k := .i64) Try.underlying3 info5 rfl (by decide) (by omega) (.slice none 0 0) [] 0 (kx := .i64) n (fun _ => True) rfl rfl rfl (fun _ _ => trivial) (Kd.R_nil _ _ _ _ _) H0.out (by repeat (first | exact Below.refl _ _ | apply pw_below_drewN)) (by exact Nat.le_refl _) (by have := H0.out; have := HN.out; simp only [List.length_nil]; omega) ?_; intro v1 w1 ho hb hg hat; have hlen : ([] ++ List.replicate n.toNat (0 : Int)).length = n.toNat := (by simp); have hpos : 0 < ([] ++ List.replicate n.toNat (0 : Int)).length := (by have := H0.out; have := HC.out; rw [hlen]; omega); obtain ⟨gq, cq, ev, hge, hlt, hcell⟩ := Kd.R_form ho hpos; subst ev; have hcap := (Kd.R_reads' ho).2.1; have HT := Aside0.mk (Kd.R_take (m := 0) ho (Nat.zero_le _)); rw [hlen] at hcap ⊢; have HB := Aside0.mk hb; clear ho hb hg hat hpos hge hlt hcell hlen; obtain ⟨i0, hi0, _, hsz0, _⟩ := info_parts info5; have hcut := cut_to (P := Try.prog) 22 5 .i64 Try.underlying22 hi0 (some ⟨gq, 0, none⟩) n.toNat cq 0 (by omega) (by omega) hcap; clear hcap))
    go_ret
    exact ⟨_, rfl, by simpa using HT.out, by repeat (first | exact HB.out | apply pw_below_drewN)⟩
end Go.Proofs.Ytagmefjpnmjcjab.Fh

/- The decoder of frames (package frame), by hand: Concat, New, Pending, keep. -/
namespace Go.Proofs.Ytagmefjpnmjcjab.Fh
open Go.RowKit Go.Proofs.YtagmefjpnmjcjabW.PrintWords Go.Proofs.YtagmefjpnmjcjabW.PrintLast Go.Proofs.YtagmefjpnmjcjabW.PrintMore
open Go.Proofs.Ytagmefjpnmjcjab.Nu (slices_Clone_byte_byte.f slices_Clone_byte_byte.calls)
open Go.Proofs.Ytagmefjpnmjcjab.Fr (info5 info38 S38 k38 k38_mkM k38_openM S41 k41 frame_Read.f frame_Read.calls)
open Go.Proofs.Ytagmefjpnmjcjab.FrNum (readS read_eq)
attribute [local go_sem] max2_int min2_int max_two min_two
set_option linter.unusedVariables false
set_option linter.unusedSimpArgs false
attribute [local irreducible] IsD T8 Near
set_option maxHeartbeats 8000000 in
set_option maxRecDepth 100000 in
theorem Concat_calls (g2 : Nat) (A0 A1 : Option Addr) (n0 n1 c0 c1 : Nat) (l0 l1 : List Int) (w : World) (hb : w.heap[g2]? = some (.cells #[.slice A0 n0 c0, .slice A1 n1 c1] 22 (0, 0)))
    (h0 : Kd.C (Kd.int .u8) w A0 n0 l0) (h1 : Kd.C (Kd.int .u8) w A1 n1 l1) (hn : n0 + n1 ≤ 1000000) :
    Calls Try.prog 54 #[.slice (some ⟨g2, 0, none⟩) 2 2] w fun e w' => ∃ v : Value, e = .returned v ∧ Kd.R (Kd.int .u8) 5 w' w.heap.size (fun _ => True) v (l0 ++ l1) ∧ Below w.heap.size w w' := by
  have H0 := Aside0.mk h0
  have H1 := Aside0.mk h1
  have HN := Aside0.mk hn
  have HG := Aside0.mk hb
  have L0 := Aside0.mk h0.1
  have L1 := Aside0.mk h1.1
  have hc0 : w.cell? ⟨g2, 0, none⟩ = some (.slice A0 n0 c0) := (blk_cell hb 0).trans rfl
  have hc1 : w.cell? ⟨g2, 1, none⟩ = some (.slice A1 n1 c1) := (blk_cell hb 1).trans rfl
  have hw0 : wrap64 (n0 : Int) = n0 := FrNum.wrap64_of (by omega) (by omega)
  have hw1 : wrap64 ((n0 : Int) + (n1 : Int)) = (n0 : Int) + n1 := FrNum.wrap64_of (by omega) (by omega)
  have b0 : decide ((n0 : Int) < 0) = false := decide_eq_false (by omega)
  have b1 : decide ((n0 : Int) + (n1 : Int) < 0) = false := decide_eq_false (by omega)
  clear h0 h1 hn hb
  go_enter Try.func54, Try.ntmps54
  go_wp2
  go_loopg [3, 11] 3 (fun kq v3 v11 w' => w = w' ∧ ((v3 = .int .i64 0 ∧ v11 = .int .i64 0 ∧ Aside0 (3 ≤ kq)) ∨ (v3 = .int .i64 (n0 : Int) ∧ v11 = .int .i64 1 ∧ Aside0 (2 ≤ kq)) ∨ (v3 = .int .i64 ((n0 : Int) + (n1 : Int)) ∧ v11 = .int .i64 2 ∧ Aside0 (1 ≤ kq))))
  case atStart => exact ⟨rfl, .inl ⟨rfl, rfl, ⟨Nat.le_refl _⟩⟩⟩
  case round =>
    obtain ⟨rfl, ⟨rfl, rfl, HK⟩ | ⟨rfl, rfl, HK⟩ | ⟨rfl, rfl, HK⟩⟩ := hrel
    · obtain ⟨gk, rfl⟩ : ∃ gk', gk = gk' + 1 := ⟨gk - 1, by have := HK.out; omega⟩
      go_wp2
      go_roundg gk
      case measure => omega
      case rel => exact ⟨rfl, .inr (.inl ⟨congrArg (Value.int .i64) hw0, rfl, ⟨by have := HK.out; omega⟩⟩)⟩
    · obtain ⟨gk, rfl⟩ : ∃ gk', gk = gk' + 1 := ⟨gk - 1, by have := HK.out; omega⟩
      go_wp2
      go_roundg gk
      case measure => omega
      case rel => exact ⟨rfl, .inr (.inr ⟨congrArg (Value.int .i64) hw1, rfl, ⟨by have := HK.out; omega⟩⟩)⟩
    · clear HK
      go_wp2_with (first | (go_at_call 64; with_reducible refine (Grow_calls ((n0 : Int) + (n1 : Int)) _ (by omega) (by have := HN.out; omega)).mono ?_; rintro e w1 ⟨v, rfl, hr, hb⟩; have HR := Aside0.mk hr; have HB := Aside0.mk hb; clear hr hb))
      go_loopg [6, 27] 3 (fun kq v6 v27 w' => Aside0 (Below w.heap.size w w') ∧ ((Aside0 (Kd.R (Kd.int .u8) 5 w' w.heap.size (fun _ => True) v6 []) ∧ v27 = .int .i64 0 ∧ Aside0 (3 ≤ kq)) ∨ (Aside0 (Kd.R (Kd.int .u8) 5 w' w.heap.size (fun _ => True) v6 l0) ∧ v27 = .int .i64 1 ∧ Aside0 (2 ≤ kq)) ∨ (Aside0 (Kd.R (Kd.int .u8) 5 w' w.heap.size (fun _ => True) v6 (l0 ++ l1)) ∧ v27 = .int .i64 2 ∧ Aside0 (1 ≤ kq))))
      case atStart => exact ⟨HB, .inl ⟨HR, rfl, ⟨Nat.le_refl _⟩⟩⟩
      case round =>
        clear HB HR hc0 hc1
        obtain ⟨HB, ⟨HR, rfl, HK⟩ | ⟨HR, rfl, HK⟩ | ⟨HR, rfl, HK⟩⟩ := hrel
        · obtain ⟨gk, rfl⟩ : ∃ gk', gk = gk' + 1 := ⟨gk - 1, by have := HK.out; omega⟩
          have hc0 := pw_cell_below HB.out ((blk_cell HG.out 0).trans rfl)
          go_wp2_with (first | ((with_reducible refine gate_builtin (b := .append) (xs := #[.tmp 31, .tmp 32]) rfl ?_); at_builtin; refine Kd.R_append_row (Value.int .u8) 0 (w0 := w) w.heap.size rfl (.tmp 31) (.tmp 32) 22 5 (.int .u8 0) 1 rfl Try.underlying22 info5 rfl (by omega) _ [] l0 A0 n0 c0 (fun _ => True) rfl rfl (fun _ _ => trivial) HR.out (Kd.C_below H0.out HB.out) HB.out HB.out.size (by have := HN.out; simp only [List.length_nil]; omega) ?_; intro v1 w2 ho hb hg hat; have HR1 := Aside0.mk ho; clear HB; have HB := Aside0.mk hb; clear ho hb hg hat HR))
          go_roundg gk
          case measure => omega
          case rel => exact ⟨HB, .inr (.inl ⟨⟨by rw [List.nil_append] at HR1; exact HR1.out⟩, rfl, ⟨by have := HK.out; omega⟩⟩)⟩
        · obtain ⟨gk, rfl⟩ : ∃ gk', gk = gk' + 1 := ⟨gk - 1, by have := HK.out; omega⟩
          have hc1 := pw_cell_below HB.out ((blk_cell HG.out 1).trans rfl)
          go_wp2_with (first | ((with_reducible refine gate_builtin (b := .append) (xs := #[.tmp 31, .tmp 32]) rfl ?_); at_builtin; refine Kd.R_append_row (Value.int .u8) 0 (w0 := w) w.heap.size rfl (.tmp 31) (.tmp 32) 22 5 (.int .u8 0) 1 rfl Try.underlying22 info5 rfl (by omega) _ l0 l1 A1 n1 c1 (fun _ => True) rfl rfl (fun _ _ => trivial) HR.out (Kd.C_below H1.out HB.out) HB.out HB.out.size (by have := HN.out; have := L0.out; omega) ?_; intro v2 w3 ho hb hg hat; have HR2 := Aside0.mk ho; clear HB; have HB := Aside0.mk hb; clear ho hb hg hat HR))
          go_roundg gk
          case measure => omega
          case rel => exact ⟨HB, .inr (.inr ⟨HR2, rfl, ⟨by have := HK.out; omega⟩⟩)⟩
        · go_wp2
          go_ret
          exact ⟨_, rfl, HR.out, HB.out⟩

set_option maxHeartbeats 8000000 in
set_option maxRecDepth 100000 in
theorem New_calls (w : World) : Calls Try.prog 33 #[] w fun e w' => ∃ g : Nat, e = .returned (.pointer (some ⟨g, 0, none⟩)) ∧ IsD w' g [] 0 ∧ w.heap.size ≤ g ∧ Below w.heap.size w w' := by
  go_enter Try.func33, Try.ntmps33
  go_wp2_with (first | ((with_reducible refine gate_dst (N := 2) rfl ?_); refine box_event ?hg (N := 2) ?hd (cs := #[.slice none 0 0, .int .i64 0]) (t := 93) ?hr ?_; (case hd => rfl); (case hg => rfl); (case hr => first | (go_simp; done) | (go_simp; rfl)); intro gb hg w2 hbox hb; have HBX := Aside0.mk (show IsD w2 gb [] 0 by unfold IsD; exact ⟨_, hbox, T8.nil _⟩); have HG := Aside0.mk hg; have HBB := Aside0.mk hb; clear hbox hg hb))
  go_ret
  exact ⟨gb, rfl, HBX.out, by rw [HG.out]; exact Nat.le_refl _, HBB.out⟩

set_option maxHeartbeats 8000000 in
set_option maxRecDepth 100000 in
theorem Pending_calls (g : Nat) (b : List Int) (e : Int) (n : Nat) (hn : b.length = n) (w : World) (hI : IsD w g b e) :
    Calls Try.prog 36 #[.pointer (some ⟨g, 0, none⟩)] w fun en w' => en = .returned (.int .i64 n) ∧ w = w' := by
  subst hn
  obtain ⟨A, c, hc, _⟩ := hI.c0
  clear hI
  go_enter Try.func36, Try.ntmps36
  go_wp2
  go_ret
  exact ⟨rfl, rfl⟩

set_option maxHeartbeats 8000000 in
set_option maxRecDepth 100000 in
theorem keep_calls (g : Nat) (b l : List Int) (e : Int) (A : Option Addr) (n c : Nat) (hn : l.length = n) (w : World) (hI : IsD w g b e) (hC : Kd.C (Kd.int .u8) w A n l) (hc : n ≤ c) (hl : n ≤ 1000000) :
    Calls Try.prog 55 #[.pointer (some ⟨g, 0, none⟩), .slice A n c] w fun en w' => en = .returned (.tuple #[]) ∧ IsD w' g l e ∧ Near w w' g := by
  have HI := Aside0.mk hI
  have HC := Aside0.mk hC
  clear hI hC
  go_enter Try.func55, Try.ntmps55
  go_wp2_with (first | (go_at_call 51; subst hn; with_reducible refine (slices_Clone_byte_byte.calls A c l l _ HC.out hc (FrNum.clone_eq l (by omega))).mono ?_; rintro e2 w1 ⟨v, rfl, hr, hb⟩; obtain ⟨A3, c3, rfl⟩ := T8.slice (T8.of_R hr); have HR := Aside0.mk (T8.of_R hr); have HB := Aside0.mk hb; have hf := (HI.out.below hb).fz 0; obtain ⟨A2, c2, hcell, _⟩ := (HI.out.below hb).c0; clear hr hb))
  go_end0
  exact ⟨rfl, (HI.out.below HB.out).setB HR.out, (Near.of_below HB.out g).set_ _ _⟩
end Go.Proofs.Ytagmefjpnmjcjab.Fh

/- All frames of bytes, plain. -/
namespace Go.Proofs.Ytagmefjpnmjcjab.Fh
open Go.RowKit Go.Proofs.YtagmefjpnmjcjabW.PrintWords Go.Proofs.YtagmefjpnmjcjabW.PrintLast Go.Proofs.YtagmefjpnmjcjabW.PrintMore
open Go.Proofs.Ytagmefjpnmjcjab.Fr (info5 info38 S38 k38 k38_mkM k38_openM S41 k41 frame_Read.f frame_Read.calls)
open Go.Proofs.Ytagmefjpnmjcjab.FrNum (readS lenS bodyS readS_two read_eq Bytes)
set_option linter.unusedVariables false
set_option linter.unusedSimpArgs false

/-- The frames that bytes begin with, what is left, the error. -/
def allS : Nat → List Int → List S38 × List Int × Int
  | 0, _ => ([], [], 0)
  | k + 1, b =>
    if (readS b).2.2.2 = 0 then ((⟨(readS b).1, (readS b).2.1⟩ : S38) :: (allS k (b.drop (readS b).2.2.1.toNat)).1, (allS k (b.drop (readS b).2.2.1.toNat)).2)
    else if (readS b).2.2.2 = 3 then ([], b, 0) else ([], [], (readS b).2.2.2)
theorem bt_drop {b : List Int} (h : Bytes b) (n : Nat) : Bytes (b.drop n) := fun x hx => h x (List.mem_of_mem_drop hx)
theorem bt_take {b : List Int} (h : Bytes b) (n : Nat) : Bytes (b.take n) := fun x hx => h x (List.mem_of_mem_take hx)
theorem bt_right {b c : List Int} (h : Bytes (b ++ c)) : Bytes c := fun x hx => h x (List.mem_append_right _ hx)
/-- A frame that is read: its kind, its body, and how many bytes. -/
theorem readS_ok {b : List Int} (hb : Bytes b) (h : (readS b).2.2.2 = 0) : ∃ x y c t n, b = x :: y :: c :: t ∧ n = 256 * x + y ∧ 1 ≤ n ∧ n ≤ 301 ∧ n ≤ t.length + 1 ∧ c ≠ 0 ∧ readS b = (c, t.take (n - 1).toNat, 2 + n, 0) := by
  match b, hb, h with
  | [], _, h => simp [readS] at h
  | [x], _, h => simp [readS] at h
  | x :: y :: r, hb, h =>
    have hx := hb x (by simp)
    have hy := hb y (by simp)
    rw [readS_two] at h ⊢
    unfold lenS at h ⊢
    obtain ⟨n, hn⟩ : ∃ n, 256 * x + y = n := ⟨_, rfl⟩
    rw [hn] at h ⊢
    by_cases c0 : n = 0
    · rw [if_pos c0] at h; simp at h
    · rw [if_neg c0] at h ⊢
      by_cases c1 : n > 301
      · rw [if_pos c1] at h; simp at h
      · rw [if_neg c1] at h ⊢
        by_cases c2 : (r.length : Int) < n
        · rw [if_pos c2] at h; simp at h
        · rw [if_neg c2] at h ⊢
          match r, c2, h with
          | [], c2, h => simp [bodyS] at h
          | c :: t, c2, h =>
            unfold bodyS at h ⊢
            by_cases c3 : c = 0
            · simp only [if_pos c3] at h; simp at h
            · simp only [if_neg c3]
              exact ⟨x, y, c, t, n, rfl, hn.symm, by omega, by omega, by simp at c2; omega, c3, rfl⟩
theorem readS_n {b : List Int} (hb : Bytes b) (h : (readS b).2.2.2 = 0) : 3 ≤ (readS b).2.2.1 ∧ (readS b).2.2.1 ≤ b.length := by
  obtain ⟨x, y, c, t, n, rfl, _, h1, h2, h3, _, he⟩ := readS_ok hb h
  rw [he]
  simp only [List.length_cons]
  omega
/-- All frames of bytes. -/
def framesS (b : List Int) : List S38 × List Int × Int := allS (b.length + 1) b
end Go.Proofs.Ytagmefjpnmjcjab.Fh

/- What the printed functions of the frame package and of its document compute, in plain words: bytes, same, frames, all. -/
namespace Go.Proofs.Ytagmefjpnmjcjab.Fh
open Go.RowKit Go.Proofs.Ytagmefjpnmjcjab.Nu Go.Proofs.Ytagmefjpnmjcjab.Fr Go.Proofs.YtagmefjpnmjcjabW.PrintWords Go.Proofs.YtagmefjpnmjcjabW.PrintLast Go.Proofs.YtagmefjpnmjcjabW.PrintMore
open Go.Proofs.Ytagmefjpnmjcjab.FrNum (readS lenS bodyS readS_two read_eq Bytes be fits put_eq same_eq wrap64_of wrap_succ rd_drop u64_small)
set_option linter.unusedVariables false
set_option linter.unusedSimpArgs false

/-- The bytes of a frame. -/
def bytesS (c : Int) (l : List Int) : List Int × Int := if c = 0 then ([], 1) else if l.length > 300 then ([], 4) else (((l.length : Int) + 1) / 256 :: ((l.length : Int) + 1) % 256 :: c :: l, 0)
theorem be2 (n : Int) (h0 : 0 ≤ n) (h : n ≤ 65535) : be 2 n = [n / 256, n % 256] := by
  have e1 : (256 : Int) ^ 1 = 256 := by decide
  have e0 : (256 : Int) ^ 0 = 1 := by decide
  simp only [be, e1, e0]
  congr 1
  · omega
  · congr 1; omega
theorem fits_2 (n : Int) (h0 : 0 ≤ n) (h : n ≤ 65535) : fits 2 n = true := by
  unfold fits
  rw [decide_eq_true_eq]
  have e : (256 : Int) ^ (2 : Int).toNat = 65536 := by decide
  rw [e]; omega
theorem bytes_eq (k : Nat) (c : Int) (l : List Int) (hk : 11 ≤ k) : frame_Bytes.f k c l = some (bytesS c l) := by
  unfold frame_Bytes.f bytesS
  by_cases c0 : c = 0
  · rw [if_pos c0, if_pos c0]
  · rw [if_neg c0, if_neg c0]
    by_cases c1 : l.length > 300
    · rw [if_pos (by omega), if_pos c1]
    · rw [if_neg (by omega), if_neg c1, wrap64_of (by omega) (by omega), u64_small (by omega) (by omega), put_eq k [] 2 _ (by omega) (by omega) (by simp) hk, if_pos (fits_2 _ (by omega) (by omega))]
      simp only [Option.bind_some]
      rw [show (2 : Int).toNat = 2 from rfl, be2 _ (by omega) (by omega)]
      rw [if_pos (by simp), if_pos (by simp; omega)]
      rfl
theorem refBytes_eq (c : Int) (l : List Int) : signalmanref02_Bytes.f c l = some (bytesS c l) := by
  unfold signalmanref02_Bytes.f bytesS
  by_cases c0 : c = 0
  · rw [if_pos c0, if_pos c0]
  · rw [if_neg c0, if_neg c0]
    by_cases c1 : l.length > 300
    · rw [if_pos (by omega), if_pos c1]
    · rw [if_neg (by omega), if_neg c1]
      simp only [Option.bind_some]
      rw [if_pos (by simp; omega)]
      have e0 : wrap64 ((l.length : Int) + 1) = (l.length : Int) + 1 := wrap64_of (by omega) (by omega)
      have e1 : Int.tdiv ((l.length : Int) + 1) 256 = ((l.length : Int) + 1) / 256 := Int.tdiv_eq_ediv_of_nonneg (by omega)
      have e2 : Int.tmod ((l.length : Int) + 1) 256 = ((l.length : Int) + 1) % 256 := Int.tmod_eq_emod_of_nonneg (by omega)
      rw [e0, e1, e2, wrap64_of (by omega) (by omega)]
      have e3 : ((l.length : Int) + 1) / 256 % 256 = ((l.length : Int) + 1) / 256 := by omega
      have e4 : ((l.length : Int) + 1) % 256 % 256 = ((l.length : Int) + 1) % 256 := by omega
      rw [e3, e4]
      rfl
theorem str_inj {a b : List Int} (ha : Bytes a) (hb : Bytes b) (h : (a.map fun n => UInt8.ofNat n.toNat) = b.map fun n => UInt8.ofNat n.toNat) : a = b := by
  induction a generalizing b with
  | nil =>
    cases b with
    | nil => rfl
    | cons y b => simp at h
  | cons x a ih =>
    cases b with
    | nil => simp at h
    | cons y b =>
      simp only [List.map_cons, List.cons.injEq] at h
      have hx := ha x (by simp)
      have hy := hb y (by simp)
      have h2 := congrArg UInt8.toNat h.1
      rw [UInt8.toNat_ofNat', UInt8.toNat_ofNat', Nat.mod_eq_of_lt (by omega), Nat.mod_eq_of_lt (by omega)] at h2
      rw [ih (fun z hz => ha z (List.mem_cons_of_mem _ hz)) (fun z hz => hb z (List.mem_cons_of_mem _ hz)) h.2]
      congr 1
      omega
theorem same38_eq (a : Int) (l : List Int) (b : Int) (m : List Int) (hl : Bytes l) (hm : Bytes m) : frame_Same.f a l b m = some (decide (a = b ∧ l = m)) := by
  unfold frame_Same.f
  by_cases c : a = b
  · rw [if_pos c]
    unfold bytes_Equal.f
    simp only [Option.bind_some]
    congr 1
    rw [Lib.strOfNums_toList, Lib.strOfNums_toList, Bool.eq_iff_iff, beq_iff_eq, decide_eq_true_eq]
    exact ⟨fun h => ⟨c, str_inj hl hm h⟩, fun h => by rw [h.2]⟩
  · rw [if_neg c]
    congr 1
    symm
    exact decide_eq_false (fun h => c h.1)
instance dec41 : DecidableEq S41 := fun a b => decidable_of_iff (a.f0 = b.f0 ∧ a.f1 = b.f1) ⟨fun h => by cases a; cases b; simp at h; rw [h.1, h.2], fun h => by rw [h]; exact ⟨rfl, rfl⟩⟩
instance dec38 : DecidableEq S38 := fun a b => decidable_of_iff (a.f0 = b.f0 ∧ a.f1 = b.f1) ⟨fun h => by cases a; cases b; simp at h; rw [h.1, h.2], fun h => by rw [h]; exact ⟨rfl, rfl⟩⟩
theorem rd41 (l : List S41) (i : Nat) (h : i < l.length) : rd_T41 l (i : Int) = l[i] := by
  unfold rd_T41
  rw [Int.toNat_natCast, List.getD_eq_getElem?_getD, List.getElem?_eq_getElem h]
  rfl
theorem refSame_loop (a b : List S41) (hab : a.length = b.length) (ha : a.length ≤ 1000000) (N : Nat) (hN : N ≤ 1000000) (hb : ∀ x ∈ a, x.f1.length ≤ N) (d : Nat) : ∀ (k i : Nat), i ≤ a.length → a.length - i = d → d + N + 1 < k → signalmanref02_Same.l0 k a b (i : Int) = some (decide (a.drop i = b.drop i)) := by
  induction d with
  | zero =>
    intro k i h1 hd hk
    obtain ⟨k, rfl⟩ : ∃ m, k = m + 1 := ⟨k - 1, by omega⟩
    simp only [signalmanref02_Same.l0]
    rw [if_neg (by omega), List.drop_eq_nil_of_le (by omega), List.drop_eq_nil_of_le (by omega)]
    rfl
  | succ d ih =>
    intro k i h1 hd hk
    obtain ⟨k, rfl⟩ : ∃ m, k = m + 1 := ⟨k - 1, by omega⟩
    simp only [signalmanref02_Same.l0]
    have hi : i < a.length := by omega
    have hx := hb a[i] (List.getElem_mem _)
    rw [if_pos (by omega), if_pos (by omega), if_pos (by omega), rd41 a i (by omega), rd41 b i (by omega), wrap_succ i (by omega), same_eq k _ _ (by omega) (by omega)]
    rw [List.drop_eq_getElem_cons (l := a) (i := i) (by omega), List.drop_eq_getElem_cons (l := b) (i := i) (by omega)]
    generalize a[i] = x at hx ⊢
    generalize b[i] = y
    by_cases e : x.f0 = y.f0
    · rw [if_pos e]
      simp only [Option.bind_some]
      by_cases e1 : x.f1 = y.f1
      · rw [if_pos (decide_eq_true e1), ih k (i + 1) (by omega) (by omega) (by omega)]
        congr 1
        rw [decide_eq_decide]
        have : x = y := by cases x; cases y; simp at e e1; rw [e, e1]
        simp [this]
      · rw [if_neg (by simpa using e1)]
        congr 1; symm
        apply decide_eq_false
        intro h
        injection h with h _
        exact e1 (by rw [h])
    · rw [if_neg e]
      congr 1; symm
      apply decide_eq_false
      intro h
      injection h with h _
      exact e (by rw [h])
theorem refSame_eq (k : Nat) (a b : List S41) (ha : a.length ≤ 1000000) (N : Nat) (hN : N ≤ 1000000) (hb : ∀ x ∈ a, x.f1.length ≤ N) (hk : a.length + N + 1 < k) : signalmanref02_Same.f k a b = some (decide (a = b)) := by
  unfold signalmanref02_Same.f
  by_cases h : a.length = b.length
  · rw [if_pos (by omega)]
    have := refSame_loop a b h ha N hN hb a.length k 0 (by omega) (by omega) hk
    simpa using this
  · rw [if_neg (by omega)]
    congr 1; symm
    exact decide_eq_false (fun e => h (by rw [e]))
end Go.Proofs.Ytagmefjpnmjcjab.Fh

/- What frames do, in plain words: more bytes behind, frames of their bytes, what is kept. -/
namespace Go.Proofs.Ytagmefjpnmjcjab.Fh
open Go.RowKit Go.Proofs.Ytagmefjpnmjcjab.Fr
open Go.Proofs.Ytagmefjpnmjcjab.FrNum (readS lenS bodyS readS_two Bytes)
set_option linter.unusedVariables false
set_option linter.unusedSimpArgs false

/-- May a frame be? -/
def may (f : S38) : Prop := f.f0 ≠ 0 ∧ f.f1.length ≤ 300
end Go.Proofs.Ytagmefjpnmjcjab.Fh

/- Feed of a decoder of frames, by hand. -/
namespace Go.Proofs.Ytagmefjpnmjcjab.Fh
open Go.RowKit Go.Proofs.YtagmefjpnmjcjabW.PrintWords Go.Proofs.YtagmefjpnmjcjabW.PrintLast Go.Proofs.YtagmefjpnmjcjabW.PrintMore
open Go.Proofs.Ytagmefjpnmjcjab.Fr (info5 info38 S38 k38 k38_mkM k38_openM S41 k41 frame_Read.f frame_Read.calls)
open Go.Proofs.Ytagmefjpnmjcjab.FrNum (readS read_eq Bytes)
attribute [local go_sem] max2_int min2_int max_two min_two
set_option linter.unusedVariables false
set_option linter.unusedSimpArgs false
theorem M38 {W : World} {base gb : Nat} {v vb : Value} {out : List S38} {c : Int} {body : List Int} {cs : Array Value} (hb : Kd.R (Kd.int .u8) 5 W base (fun _ => True) vb body) (hg : W.heap[gb]? = some (.cells cs 38 (0, 0))) (ho : Kd.R k38 38 W base (fun k => k ≠ gb) v out) :
    k38.M W base (fun k => k ≠ gb ∧ some k ≠ v.ownBlock) ⟨c, body⟩ [.int .u8 c, vb] := k38_mkM _ _ _ ⟨c, body⟩ (Kd.R_mono (Kd.R_apart' (Kd.R_types hb hg (by decide)) (Kd.R_typed ho) (by decide)) (fun k hk => ⟨hk.1.2, hk.2⟩))
theorem Near.trans {w w1 w2 : World} {g : Nat} (h : Near w w1 g) (h2 : Near w1 w2 g) : Near w w2 g := by
  unfold Near at h h2 ⊢
  exact ⟨h.1.trans h2.1 (.inl rfl), fun w0 hg hB => h2.2 w0 hg (h.2 w0 hg hB)⟩
theorem R38.near {w w' : World} {base g : Nat} {v : Value} {out : List S38} (h : Kd.R k38 38 w base (fun _ => True) v out) (ht : ∃ cells, w.heap[g]? = some (.cells cells 93 (0, 0))) (hn : Near w w' g) : Kd.R k38 38 w' base (fun _ => True) v out := by
  obtain ⟨cells, hc⟩ := ht
  exact Kd.R_mono (Kd.R_keep (Kd.R_types h hc (by decide)) hn.keep (fun _ hk => hk.2)) (fun _ hk => hk.1)
theorem IsD.far {W : World} {g gb t : Nat} {b : List Int} {e : Int} {cs : Array Value} (h : IsD W g b e) (hc : W.heap[gb]? = some (.cells cs t (0, 0))) (h1 : t ≠ 93) (h2 : t ≠ 5) (j : Nat) (u : Value) : IsD (W.setCell ⟨gb, j, none⟩ u) g b e := by
  unfold IsD at h ⊢
  obtain ⟨v, hb, hv⟩ := h
  exact ⟨v, (Below.heap_setCell W ⟨gb, j, none⟩ u g (ne_typed hc hb h1)).trans hb, hv.far hc h2 j u⟩
theorem T8.apart {w : World} {gb : Nat} {v : Value} {l : List Int} {cs : Array Value} (h : T8 w v l) (hc : w.heap[gb]? = some (.cells cs 38 (0, 0))) (j : Nat) (u : Value) : T8 (w.setCell ⟨gb, j, none⟩ u) v l := h.far hc (by decide) j u
attribute [local irreducible] IsD T8 Near
set_option maxHeartbeats 8000000 in
set_option maxRecDepth 100000 in
theorem Read_calls (A : Option Addr) (n c : Nat) (l : List Int) (hn : l.length = n) (r1 : Int) (r2 : List Int) (r3 r4 : Int) (w : World) (hC : Kd.C (Kd.int .u8) w A n l) (hc : n ≤ c) (hl : n ≤ 1000000) (hB : Bytes l) (h : readS l = (r1, r2, r3, r4)) :
    Calls Try.prog 28 #[.slice A n c] w fun e w' => ∃ v1_ : Value, e = .returned (.tuple #[.agg #[.int .u8 r1, v1_], .int .i64 r3, .int .i64 r4]) ∧ Kd.R (Kd.int .u8) 5 w' w.heap.size (fun _ => True) v1_ r2 ∧ Below w.heap.size w w' := by
  subst hn
  exact frame_Read.calls 11 A c l r1 r2 r3 r4 w hC hc (by rw [read_eq 11 l hB hl (Nat.le_refl _), h])

set_option maxHeartbeats 8000000 in
set_option maxRecDepth 100000 in
theorem Feed_ended (g : Nat) (b : List Int) (e : Int) (A : Option Addr) (n c : Nat) (w : World) (hI : IsD w g b e) (he : e ≠ 0) :
    Calls Try.prog 34 #[.pointer (some ⟨g, 0, none⟩), .slice A n c] w fun en w' => en = .returned (.tuple #[.slice none 0 0, .int .i64 e]) ∧ Below w.heap.size w w' := by
  have b0 : (e != 0) = true := bne_iff_ne.mpr he
  have HD := Aside0.mk hI
  have HB := Aside0.mk (Below.refl w.heap.size w)
  have hz1 := hI.c1
  clear he hI
  go_enter Try.func34, Try.ntmps34
  go_wp2
  go_step3
  go_wp2
  go_quiet (fail)
  go_wp2
  (try rw [Exit.noGoto_ret])
  go_ret2
  exact ⟨rfl, by repeat (first | exact HB.out | apply pw_below_drewN | apply below_drew1)⟩
set_option maxHeartbeats 8000000 in
set_option maxRecDepth 100000 in
theorem Feed_calls (g : Nat) (b l0 : List Int) (A0 : Option Addr) (n0 c0 : Nat) (hn0 : l0.length = n0) (o : List S38) (b2 : List Int) (e2 : Int) (w : World) (hI : IsD w g b 0) (hC0 : Kd.C (Kd.int .u8) w A0 n0 l0) (hc0 : n0 ≤ c0) (hB : Bytes (b ++ l0)) (hl : b.length + n0 ≤ 1000000) (hS : framesS (b ++ l0) = (o, b2, e2)) :
    Calls Try.prog 34 #[.pointer (some ⟨g, 0, none⟩), .slice A0 n0 c0] w fun en w' => ∃ v, en = .returned (.tuple #[v, .int .i64 e2]) ∧ Kd.R k38 38 w' w.heap.size (fun _ => True) v o ∧ IsD w' g b2 e2 ∧ Near w w' g := by
  have HD := Aside0.mk hI
  have HB := Aside0.mk (Below.refl w.heap.size w)
  have HG := Aside0.mk hI.lt
  have hz1 := hI.c1
  obtain ⟨Ab, cb, hz0, htb⟩ := hI.c0
  have HTB := Aside0.mk htb.at_.2.2
  have HC := Aside0.mk hC0
  have HBY0 := Aside0.mk hB
  have HL0 := Aside0.mk hl
  have HLL := Aside0.mk (show (b ++ l0).length ≤ 1000000 by rw [List.length_append]; omega)
  have HS := Aside0.mk hS
  have hmf : ∀ (fn : Fn) (first cap : Array Value) (w : World), (Instr.makeFunc fn first cap).run Try.prog w = .ok (.func fn first cap) w := fun _ _ _ _ => rfl
  clear hI hC0 hc0 hB hS htb
  go_enter Try.func34, Try.ntmps34
  go_wp2
  go_step3
  go_wp2_with (first | (go_at_call 54; go_loud (with_reducible refine (Concat_calls w.heap.size Ab A0 b.length n0 cb c0 b l0 _ (heap_alloc_new w _) (Kd.C_alloc HTB.out _) (Kd.C_alloc HC.out _) HL0.out).mono ?_; rintro e3 w1 ⟨v1, rfl, ho, hb⟩; obtain ⟨A1, c1, rfl⟩ := Kd.R_slice ho; have HT := Aside0.mk (T8.of_R ho); have HD_ := Aside0.mk ((HD.out.alloc _).below hb); have HB_ := Aside0.mk (below_step (below_alloc (Below.refl _ _) _) hb); clear HD HB; have HD := HD_; have HB := HB_; clear HD_ HB_; clear hb ho hz1 hz0 hn0 HTB HC)))
  go_step3
  go_wp2
  go_loopg [6, 8] 1000002 (fun kq v6 v8 w' => ∃ (k : Nat) (l : List Int) (out o2 : List S38) (A : Option Addr) (n c : Nat), v6 = .slice A n c ∧ Aside0 (l.length = n) ∧ Aside0 (T8 w' (.slice A n c) l) ∧ Aside0 (Kd.R k38 38 w' w.heap.size (fun _ => True) v8 out) ∧ Aside0 (IsD w' g b 0) ∧ Aside0 (Below w.heap.size w w') ∧ Aside0 (Bytes l) ∧ Aside0 (n < k ∧ k ≤ kq ∧ n ≤ 1000000) ∧ Aside0 (allS k l = (o2, b2, e2)) ∧ Aside0 (out ++ o2 = o) ∧ Aside0 (out.length + n ≤ 1000000))
  case atStart => exact ⟨(b ++ l0).length + 1, b ++ l0, [], o, A1, (b ++ l0).length, c1, by rw [List.length_append], ⟨rfl⟩, HT, ⟨Kd.R_nil _ _ _ _ _⟩, HD, HB, HBY0, ⟨Nat.lt_succ_self _, by have := HLL.out; omega, HLL.out⟩, HS, ⟨rfl⟩, ⟨by have := HLL.out; simp only [List.length_nil]; omega⟩⟩
  case round =>
    clear HT HD HB HBY0 HS HLL HL0
    obtain ⟨k, l, out, o2, A, n, c, rfl, HLN, HT, HO, HD, HB, HBY, HK, HS, HOO, HOL⟩ := hrel
    obtain ⟨gk, rfl⟩ : ∃ gk', gk = gk' + 1 := ⟨gk - 1, by have := HK.out; omega⟩
    obtain ⟨k, rfl⟩ : ∃ k', k = k' + 1 := ⟨k - 1, by have := HK.out; omega⟩
    obtain ⟨⟨r1, r2, r3, r4⟩, hrd⟩ : ∃ r, readS l = r := ⟨_, rfl⟩
    have HNC := Aside0.mk HT.out.at_.2.1
    have HN6 := Aside0.mk HK.out.2.2
    have hS := HS.out
    rw [allS, hrd] at hS
    simp only at hS
    have HRD := Aside0.mk hrd
    by_cases ck : r4 = 0
    · subst ck
      rw [if_pos rfl] at hS
      have hn := readS_n HBY.out (by rw [hrd])
      rw [hrd] at hn
      simp only at hn
      obtain ⟨m, rfl⟩ := Int.eq_ofNat_of_zero_le (show 0 ≤ r3 by omega)
      rw [Int.toNat_natCast] at hS
      injection hS with hS1 hS2
      have HM := Aside0.mk (show 3 ≤ m ∧ m ≤ n by have := HLN.out; omega)
      have HS1 := Aside0.mk hS1
      have HS2 := Aside0.mk hS2
      clear hS1 hS2 hn hrd
      go_upto_region 7 with (first | (go_at_call 28; go_loud (with_reducible refine (Read_calls A n c l HLN.out r1 r2 (m : Int) 0 _ HT.out.at_.2.2 HNC.out HN6.out HBY.out HRD.out).mono ?_; rintro e4 w2 ⟨v2, rfl, ho, hb⟩; obtain ⟨A2, c2, rfl⟩ := Kd.R_slice ho; have HO2 := Aside0.mk (Kd.R_lower ho HB.out.size); have HT_ := Aside0.mk (HT.out.below hb); have HO_ := Aside0.mk (Kd.R_below HO.out hb); have HD_ := Aside0.mk (HD.out.below hb); have HB_ := Aside0.mk (below_step HB.out hb); clear HT HO HD HB; have HT := HT_; have HO := HO_; have HD := HD_; have HB := HB_; clear HT_ HO_ HD_ HB_; clear hb ho)) | ((with_reducible refine gate_dst (N := 9) rfl ?_); refine box_event ?hg (N := 9) ?hd (cs := #[.int .u8 0, .slice none 0 0]) (t := 38) ?hr ?_; (case hd => rfl); (case hg => rfl); (case hr => first | (go_simp; done) | (go_simp; rfl)); intro gb hg w3 hbox hb; have HBX := Aside0.mk hbox; have HGE := Aside0.mk (show w.heap.size ≤ gb by rw [hg]; exact HB.out.size); have HT_ := Aside0.mk (HT.out.below hb); have HO_ := Aside0.mk ((Kd.R_mono (Kd.R_below (Kd.R_bound HO.out) hb) (fun k hk => by have := hk.2.2.1; omega) : Kd.R k38 38 _ w.heap.size (fun k => k ≠ gb) u8 out)); have HO2_ := Aside0.mk (Kd.R_below HO2.out hb); have HD_ := Aside0.mk (HD.out.below hb); have HB_ := Aside0.mk (below_step HB.out hb); clear HT HO HO2 HD HB; have HT := HT_; have HO := HO_; have HO2 := HO2_; have HD := HD_; have HB := HB_; clear HT_ HO_ HO2_ HD_ HB_; clear hg hbox hb; have hx0 := blk_cell HBX.out 0; have hx1 := blk_cell HBX.out 1; have hfx0 := blk_frozen HBX.out 0; have hfx1 := blk_frozen HBX.out 1; replace hx0 := hx0.trans rfl; replace hx1 := hx1.trans rfl))
      (try simp only [Act.put, List.setIfInBounds_toArray, List.set_cons_zero, List.set_cons_succ])
      generalize hst : World.setCell (World.setCell w3 ⟨gb, 0, none⟩ (.int .u8 r1)) ⟨gb, 1, none⟩ (.slice A2 r2.length c2) = w4
      have HBX0 := Aside0.mk ((blk_set HBX.out 0 (.int .u8 r1)).trans rfl)
      have HT_ := Aside0.mk (hst ▸ (HT.out.apart HBX.out 0 _).apart HBX0.out 1 _)
      have HO_ := Aside0.mk ((hst ▸ Kd.R_far (p := ⟨gb, 1, none⟩) (Kd.R_far (p := ⟨gb, 0, none⟩) HO.out (fun _ h => h) _) (fun _ h => h) _ : Kd.R k38 38 w4 w.heap.size (fun k => k ≠ gb) u8 out))
      have HO2_ := Aside0.mk (hst ▸ Kd.R_set (Kd.R_set HO2.out HBX.out (by decide) 0 _) HBX0.out (by decide) 1 _)
      have HD_ := Aside0.mk (hst ▸ (HD.out.far HBX.out (by decide) (by decide) 0 _).far HBX0.out (by decide) (by decide) 1 _)
      have HB_ := Aside0.mk (hst ▸ below_set (below_set HB.out HGE.out) HGE.out)
      have HBX_ := Aside0.mk ((hst ▸ (blk_set HBX0.out 1 (.slice A2 r2.length c2)).trans rfl : w4.heap[gb]? = some (.cells #[.int .u8 r1, .slice A2 r2.length c2] 38 (0, 0))))
      clear HT HO HO2 HD HB HBX
      have HT := HT_
      have HO := HO_
      have HO2 := HO2_
      have HD := HD_
      have HB := HB_
      have HBX := HBX_
      clear HT_ HO_ HO2_ HD_ HB_ HBX_
      clear hst hx0 hx1 hfx0 hfx1 HBX0
      go_wp2
      have hu38 := Try.underlying38
      have hm0 : (0 : Int) ≤ (m : Int) := by omega
      have hmn : (m : Int) ≤ (n : Int) := by have := HM.out; omega
      obtain ⟨i0, hi0, _, hsz0, _⟩ := info_parts info5
      have hcut := cut_from (P := Try.prog) 22 5 .i64 Try.underlying22 hi0 1 hsz0 A n c (m : Int) hm0 hmn
      have HTC := HT.out.cut m (by have := HM.out; omega)
      simp only [Int.toNat_natCast] at hcut
      obtain ⟨A5, hA5⟩ : ∃ A5, A5 = (if c = m then A else A.map (·.add (m * 1))) := ⟨_, rfl⟩
      rw [← hA5] at hcut HTC
      have HTC := Aside0.mk HTC
      clear hA5 hi0 hsz0
      have HTC_ := Aside0.mk (HTC.out.drew)
      have HO_ := Aside0.mk (Kd.R_drew HO.out)
      have HO2_ := Aside0.mk (Kd.R_drew HO2.out)
      have HD_ := Aside0.mk (HD.out.drew)
      have HB_ := Aside0.mk (below_drew1 HB.out)
      have HBX_ := Aside0.mk (blk_drew HBX.out)
      clear HTC HO HO2 HD HB HBX
      have HTC := HTC_
      have HO := HO_
      have HO2 := HO2_
      have HD := HD_
      have HB := HB_
      have HBX := HBX_
      clear HTC_ HO_ HO2_ HD_ HB_ HBX_
      refine start_ (n := 9) (S := fun w' => w'.cell? ⟨gb, 0, none⟩ = some (.int .u8 r1) ∧ w'.cell? ⟨gb, 1, none⟩ = some (.slice A2 r2.length c2)) (ds := []) #[false, false, false, false, false, false, false, false, false] (by kernel_rfl) rfl rfl ⟨(blk_cell HBX.out 0).trans rfl, (blk_cell HBX.out 1).trans rfl⟩ (fun hHeld => ?_)
      generalize World.drew w4 = w5 at HTC HO HO2 HD HB HBX hHeld ⊢
      refine pure_ (i := 0) (N := some 45) (v := ?_) (a' := ?_) #[true, false, false, false, false, false, false, false, false] rfl rfl (by kernel_rfl) (fun _ _ _ h => h) (Or.inl ⟨by rfl, ?_⟩) ?_ ?_
      rotate_left
      · intro w'
        go_simp
        with_reducible rfl
      rotate_left
      · simp only [Act.put, List.setIfInBounds_toArray, List.set_cons_zero, List.set_cons_succ, i64_w, i32_w]
        rfl
      refine pure_ (i := 4) (N := some 49) (v := ?_) (a' := ?_) #[true, false, false, false, true, false, false, false, false] rfl rfl (by kernel_rfl) (fun _ _ _ h => h) (Or.inl ⟨by rfl, ?_⟩) ?_ ?_
      rotate_left
      · intro w'
        go_simp
        with_reducible rfl
      rotate_left
      · simp only [Act.put, List.setIfInBounds_toArray, List.set_cons_zero, List.set_cons_succ, i64_w, i32_w]
        rfl
      refine pure_ (i := 5) (N := some 50) (v := ?_) (a' := ?_) #[true, false, false, false, true, true, false, false, false] rfl rfl (by kernel_rfl) (fun _ _ _ h => h) (Or.inl ⟨by rfl, ?_⟩) ?_ ?_
      rotate_left
      · intro w'
        go_simp
        with_reducible rfl
      rotate_left
      · simp only [Act.put, List.setIfInBounds_toArray, List.set_cons_zero, List.set_cons_succ, i64_w, i32_w]
        rfl
      refine pure_ (i := 6) (N := some 51) (v := ?_) (a' := ?_) #[true, false, false, false, true, true, true, false, false] rfl rfl (by kernel_rfl) (fun _ _ _ h => h) (Or.inl ⟨by rfl, ?_⟩) ?_ ?_
      rotate_left
      · intro w'
        go_simp
        with_reducible rfl
      rotate_left
      · simp only [Act.put, List.setIfInBounds_toArray, List.set_cons_zero, List.set_cons_succ, i64_w, i32_w]
        rfl
      refine take_ (i := 1) (N := some 46) (v := ?_) (a' := ?_) #[true, true, false, false, true, true, true, false, false] rfl rfl (by kernel_rfl) (fun _ _ _ h => h) (Or.inl ⟨by rfl, ?_⟩) hHeld ?_ ?_
      rotate_left
      · rintro w' ⟨s0, s1⟩
        go_simp
        with_reducible rfl
      rotate_left
      · simp only [Act.put, List.setIfInBounds_toArray, List.set_cons_zero, List.set_cons_succ, i64_w, i32_w]
        rfl
      refine one_ (i := 2) (N := some 47) #[true, true, true, false, true, true, true, false, false] rfl rfl (by kernel_rfl) (by decide) (fun K hK => ?_)
      refine value_ (w1 := ?_) (v := ?_) (by rfl) rfl ?_ ?_
      rotate_left 2
      · go_simp
        constructor
        · rfl
        · rfl
      refine hK.out _ _ ⟨pw_cell_below (below_alloc (Below.refl _ _) _) ((blk_cell HBX.out 0).trans rfl), pw_cell_below (below_alloc (Below.refl _ _) _) ((blk_cell HBX.out 1).trans rfl)⟩ (fun hHeld => ?_)
      clear hK K
      refine norm_ (a' := ?_) ?_ ?_
      rotate_left
      · show Act.put _ (some 47) _ = _
        simp only [Act.put, List.setIfInBounds_toArray, List.set_cons_zero, List.set_cons_succ, i64_w, i32_w]
        rfl
      refine one_ (i := 3) (N := some 48) #[true, true, true, true, true, true, true, false, false] rfl rfl (by kernel_rfl) (by decide) (fun K hK => ?_)
      refine Kd.R_append_step k38 (w0 := w) w.heap.size (by rfl) (.tmp 45) (.tmp 47) 54 38 (.agg #[.int .u8 0, .slice none 0 0]) 32 rfl Try.underlying54 info38 rfl (by decide) (by omega) u8 out ⟨r1, r2⟩ [.int .u8 r1, .slice A2 r2.length c2] (fun k => k ≠ gb) (fun k => k ≠ gb ∧ some k ≠ u8.ownBlock) (by rfl) (by rfl) (M38 HO2.out HBX.out HO.out) (fun _ hk => hk) (fun k hk => by have := blk_lt HBX.out; omega) HO.out HB.out HB.out.size (by have := HOL.out; have := HM.out; omega) ?_
      intro v1 w6 ho hb hg hat
      have HTY := Aside0.mk (Kd.R_typed HO.out)
      have HBX_ := Aside0.mk ((hg.block gb (blk_lt HBX.out) (Kd.R_away HO.out (fun _ h => h))).trans HBX.out)
      have HTC_ := Aside0.mk (HTC.out.grown hg (fun k hk cells hc => by obtain ⟨c9, h9⟩ := HTY.out k hk; exact ne_typed h9 hc (by decide) rfl))
      have HD_ := Aside0.mk (HD.out.grown hg HTY.out (by decide) (by decide))
      have HO_ := Aside0.mk ((Kd.R_mono ho (fun _ _ => trivial) : Kd.R k38 38 w6 w.heap.size (fun _ => True) v1 (out ++ [⟨r1, r2⟩])))
      have HB_ := Aside0.mk (hb)
      clear HBX HTC HD HO HB
      have HBX := HBX_
      have HTC := HTC_
      have HD := HD_
      have HO := HO_
      have HB := HB_
      clear HBX_ HTC_ HD_ HO_ HB_
      clear ho hb hg hat HTY
      refine hK.out _ _ ⟨(blk_cell HBX.out 0).trans rfl, (blk_cell HBX.out 1).trans rfl⟩ (fun hHeld => ?_)
      clear hK K
      refine norm_ (a' := ?_) ?_ ?_
      rotate_left
      · show Act.put _ (some 48) _ = _
        simp only [Act.put, List.setIfInBounds_toArray, List.set_cons_zero, List.set_cons_succ, i64_w, i32_w]
        rfl
      refine pure_ (i := 7) (N := some 8) (v := ?_) (a' := ?_) #[true, true, true, true, true, true, true, true, false] rfl rfl (by kernel_rfl) (fun _ _ _ h => h) (Or.inl ⟨by rfl, ?_⟩) ?_ ?_
      rotate_left
      · intro w'
        go_simp
        with_reducible rfl
      rotate_left
      · simp only [Act.put, List.setIfInBounds_toArray, List.set_cons_zero, List.set_cons_succ, i64_w, i32_w]
        rfl
      refine pure_ (i := 8) (N := some 6) (v := ?_) (a' := ?_) #[true, true, true, true, true, true, true, true, true] rfl rfl (by kernel_rfl) (fun _ _ _ h => h) (Or.inl ⟨by rfl, ?_⟩) ?_ ?_
      rotate_left
      · intro w'
        go_simp
        with_reducible rfl
      rotate_left
      · simp only [Act.put, List.setIfInBounds_toArray, List.set_cons_zero, List.set_cons_succ, i64_w, i32_w]
        rfl
      refine done_ (by kernel_rfl) ?_

      go_wp2
      go_roundg gk
      case measure => omega
      case rel => exact ⟨k, l.drop m, out ++ [⟨r1, r2⟩], (allS k (l.drop m)).1, A5, n - m, c - m, rfl, ⟨by have := HLN.out; rw [List.length_drop]; omega⟩, HTC, HO, HD, HB, ⟨bt_drop HBY.out _⟩, ⟨by have := HK.out; have := HM.out; omega⟩, ⟨Prod.ext rfl HS2.out⟩, ⟨by rw [← HOO.out, ← HS1.out]; simp⟩, ⟨by have := HOL.out; have := HM.out; rw [List.length_append, List.length_singleton]; omega⟩⟩
    · rw [if_neg ck] at hS
      by_cases c3 : r4 = 3
      · subst c3
        rw [if_pos rfl] at hS
        injection hS with hS1 hS2
        injection hS2 with hS2 hS3
        subst hS1 hS2 hS3
        clear ck hrd
        go_upto_region 7 with (first | (go_at_call 28; go_loud (with_reducible refine (Read_calls A n c l HLN.out r1 r2 r3 3 _ HT.out.at_.2.2 HNC.out HN6.out HBY.out HRD.out).mono ?_; rintro e4 w2 ⟨v2, rfl, ho, hb⟩; obtain ⟨A2, c2, rfl⟩ := Kd.R_slice ho; have HO2 := Aside0.mk (Kd.R_lower ho HB.out.size); have HT_ := Aside0.mk (HT.out.below hb); have HO_ := Aside0.mk (Kd.R_below HO.out hb); have HD_ := Aside0.mk (HD.out.below hb); have HB_ := Aside0.mk (below_step HB.out hb); clear HT HO HD HB; have HT := HT_; have HO := HO_; have HD := HD_; have HB := HB_; clear HT_ HO_ HD_ HB_; clear hb ho)) | ((with_reducible refine gate_dst (N := 9) rfl ?_); refine box_event ?hg (N := 9) ?hd (cs := #[.int .u8 0, .slice none 0 0]) (t := 38) ?hr ?_; (case hd => rfl); (case hg => rfl); (case hr => first | (go_simp; done) | (go_simp; rfl)); intro gb hg w3 hbox hb; have HBX := Aside0.mk hbox; have HGE := Aside0.mk (show w.heap.size ≤ gb by rw [hg]; exact HB.out.size); have HT_ := Aside0.mk (HT.out.below hb); have HO_ := Aside0.mk ((Kd.R_mono (Kd.R_below (Kd.R_bound HO.out) hb) (fun k hk => by have := hk.2.2.1; omega) : Kd.R k38 38 _ w.heap.size (fun k => k ≠ gb) u8 out)); have HO2_ := Aside0.mk (Kd.R_below HO2.out hb); have HD_ := Aside0.mk (HD.out.below hb); have HB_ := Aside0.mk (below_step HB.out hb); clear HT HO HO2 HD HB; have HT := HT_; have HO := HO_; have HO2 := HO2_; have HD := HD_; have HB := HB_; clear HT_ HO_ HO2_ HD_ HB_; clear hg hbox hb; have hx0 := blk_cell HBX.out 0; have hx1 := blk_cell HBX.out 1; have hfx0 := blk_frozen HBX.out 0; have hfx1 := blk_frozen HBX.out 1; replace hx0 := hx0.trans rfl; replace hx1 := hx1.trans rfl))
        (try simp only [Act.put, List.setIfInBounds_toArray, List.set_cons_zero, List.set_cons_succ])
        generalize hst : World.setCell (World.setCell w3 ⟨gb, 0, none⟩ (.int .u8 r1)) ⟨gb, 1, none⟩ (.slice A2 r2.length c2) = w4
        have HBX0 := Aside0.mk ((blk_set HBX.out 0 (.int .u8 r1)).trans rfl)
        have HT_ := Aside0.mk (hst ▸ (HT.out.apart HBX.out 0 _).apart HBX0.out 1 _)
        have HO_ := Aside0.mk ((hst ▸ Kd.R_far (p := ⟨gb, 1, none⟩) (Kd.R_far (p := ⟨gb, 0, none⟩) HO.out (fun _ h => h) _) (fun _ h => h) _ : Kd.R k38 38 w4 w.heap.size (fun k => k ≠ gb) u8 out))
        have HO2_ := Aside0.mk (hst ▸ Kd.R_set (Kd.R_set HO2.out HBX.out (by decide) 0 _) HBX0.out (by decide) 1 _)
        have HD_ := Aside0.mk (hst ▸ (HD.out.far HBX.out (by decide) (by decide) 0 _).far HBX0.out (by decide) (by decide) 1 _)
        have HB_ := Aside0.mk (hst ▸ below_set (below_set HB.out HGE.out) HGE.out)
        have HBX_ := Aside0.mk ((hst ▸ (blk_set HBX0.out 1 (.slice A2 r2.length c2)).trans rfl : w4.heap[gb]? = some (.cells #[.int .u8 r1, .slice A2 r2.length c2] 38 (0, 0))))
        clear HT HO HO2 HD HB HBX
        have HT := HT_
        have HO := HO_
        have HO2 := HO2_
        have HD := HD_
        have HB := HB_
        have HBX := HBX_
        clear HT_ HO_ HO2_ HD_ HB_ HBX_
        clear hst hx0 hx1 hfx0 hfx1 HBX0
        go_wp2_with (first | (go_at_call 55; with_reducible refine (keep_calls g b l 0 A n c HLN.out _ HD.out HT.out.at_.2.2 HNC.out HN6.out).mono ?_; rintro e5 w6 ⟨rfl, hd, hn⟩; have HNR := Aside0.mk ((Near.of_below HB.out g).trans hn); have HO_ := Aside0.mk (R38.near (Kd.R_mono HO.out (fun _ _ => trivial)) HD.out.typed hn); clear HO HD HT HO2 HB HBX; have HO := HO_; clear HO_; have HD := Aside0.mk hd; have hz1 := hd.c1; clear hd hn))
        go_quiet (fail)
        go_wp2
        (try rw [Exit.noGoto_ret])
        go_ret2
        refine ⟨_, rfl, ?_, HD.out.drewN _, HNR.out.drewN _⟩
        have h9 := HOO.out
        rw [List.append_nil] at h9
        rw [← h9]
        exact Kd.R_drewN HO.out _
      · rw [if_neg c3] at hS
        injection hS with hS1 hS2
        injection hS2 with hS2 hS3
        subst hS1 hS2 hS3
        have b0 : (r4 == 0) = false := beq_eq_false_iff_ne.mpr ck
        have b3 : (r4 == 3) = false := beq_eq_false_iff_ne.mpr c3
        clear ck c3 hrd
        go_upto_region 7 with (first | (go_at_call 28; go_loud (with_reducible refine (Read_calls A n c l HLN.out r1 r2 r3 r4 _ HT.out.at_.2.2 HNC.out HN6.out HBY.out HRD.out).mono ?_; rintro e4 w2 ⟨v2, rfl, ho, hb⟩; obtain ⟨A2, c2, rfl⟩ := Kd.R_slice ho; have HO2 := Aside0.mk (Kd.R_lower ho HB.out.size); have HT_ := Aside0.mk (HT.out.below hb); have HO_ := Aside0.mk (Kd.R_below HO.out hb); have HD_ := Aside0.mk (HD.out.below hb); have HB_ := Aside0.mk (below_step HB.out hb); clear HT HO HD HB; have HT := HT_; have HO := HO_; have HD := HD_; have HB := HB_; clear HT_ HO_ HD_ HB_; clear hb ho)) | ((with_reducible refine gate_dst (N := 9) rfl ?_); refine box_event ?hg (N := 9) ?hd (cs := #[.int .u8 0, .slice none 0 0]) (t := 38) ?hr ?_; (case hd => rfl); (case hg => rfl); (case hr => first | (go_simp; done) | (go_simp; rfl)); intro gb hg w3 hbox hb; have HBX := Aside0.mk hbox; have HGE := Aside0.mk (show w.heap.size ≤ gb by rw [hg]; exact HB.out.size); have HT_ := Aside0.mk (HT.out.below hb); have HO_ := Aside0.mk ((Kd.R_mono (Kd.R_below (Kd.R_bound HO.out) hb) (fun k hk => by have := hk.2.2.1; omega) : Kd.R k38 38 _ w.heap.size (fun k => k ≠ gb) u8 out)); have HO2_ := Aside0.mk (Kd.R_below HO2.out hb); have HD_ := Aside0.mk (HD.out.below hb); have HB_ := Aside0.mk (below_step HB.out hb); clear HT HO HO2 HD HB; have HT := HT_; have HO := HO_; have HO2 := HO2_; have HD := HD_; have HB := HB_; clear HT_ HO_ HO2_ HD_ HB_; clear hg hbox hb; have hx0 := blk_cell HBX.out 0; have hx1 := blk_cell HBX.out 1; have hfx0 := blk_frozen HBX.out 0; have hfx1 := blk_frozen HBX.out 1; replace hx0 := hx0.trans rfl; replace hx1 := hx1.trans rfl))
        (try simp only [Act.put, List.setIfInBounds_toArray, List.set_cons_zero, List.set_cons_succ])
        generalize hst : World.setCell (World.setCell w3 ⟨gb, 0, none⟩ (.int .u8 r1)) ⟨gb, 1, none⟩ (.slice A2 r2.length c2) = w4
        have HBX0 := Aside0.mk ((blk_set HBX.out 0 (.int .u8 r1)).trans rfl)
        have HT_ := Aside0.mk (hst ▸ (HT.out.apart HBX.out 0 _).apart HBX0.out 1 _)
        have HO_ := Aside0.mk ((hst ▸ Kd.R_far (p := ⟨gb, 1, none⟩) (Kd.R_far (p := ⟨gb, 0, none⟩) HO.out (fun _ h => h) _) (fun _ h => h) _ : Kd.R k38 38 w4 w.heap.size (fun k => k ≠ gb) u8 out))
        have HO2_ := Aside0.mk (hst ▸ Kd.R_set (Kd.R_set HO2.out HBX.out (by decide) 0 _) HBX0.out (by decide) 1 _)
        have HD_ := Aside0.mk (hst ▸ (HD.out.far HBX.out (by decide) (by decide) 0 _).far HBX0.out (by decide) (by decide) 1 _)
        have HB_ := Aside0.mk (hst ▸ below_set (below_set HB.out HGE.out) HGE.out)
        have HBX_ := Aside0.mk ((hst ▸ (blk_set HBX0.out 1 (.slice A2 r2.length c2)).trans rfl : w4.heap[gb]? = some (.cells #[.int .u8 r1, .slice A2 r2.length c2] 38 (0, 0))))
        clear HT HO HO2 HD HB HBX
        have HT := HT_
        have HO := HO_
        have HO2 := HO2_
        have HD := HD_
        have HB := HB_
        have HBX := HBX_
        clear HT_ HO_ HO2_ HD_ HB_ HBX_
        clear hst hx0 hx1 hfx0 hfx1 HBX0
        go_wp2_with (first | (go_at_call 55; with_reducible refine (keep_calls g b [] 0 none 0 0 rfl _ HD.out (Kd.C_nil _ _) (Nat.le_refl _) (Nat.zero_le _)).mono ?_; rintro e5 w6 ⟨rfl, hd, hn⟩; have HNR := Aside0.mk ((Near.of_below HB.out g).trans hn); have HO_ := Aside0.mk (R38.near (Kd.R_mono HO.out (fun _ _ => trivial)) HD.out.typed hn); clear HO HD HT HO2 HB HBX; have HO := HO_; clear HO_; have HD := Aside0.mk hd; have hz1 := hd.c1; have hf1 := hd.fz 1; clear hd hn))
        have HO1 := Aside0.mk (R38.near HO.out HD.out.typed ((Near.refl _ g).set_ 1 (.int .i64 r4)))
        have HD1 := Aside0.mk (HD.out.setE r4)
        have HN1 := Aside0.mk (HNR.out.set_ 1 (.int .i64 r4))
        clear hz1 hf1 HO HD HNR
        (try simp only [Act.put, List.setIfInBounds_toArray, List.set_cons_zero, List.set_cons_succ])
        generalize World.setCell w6 ⟨g, 1, none⟩ (.int .i64 r4) = w7 at HO1 HD1 HN1 ⊢
        have hz2 := HD1.out.c1
        go_quiet (fail)
        go_wp2
        (try rw [Exit.noGoto_ret])
        go_ret2
        refine ⟨_, rfl, ?_, HD1.out.drewN _, HN1.out.drewN _⟩
        have h9 := HOO.out
        rw [List.append_nil] at h9
        rw [← h9]
        exact Kd.R_drewN HO1.out _
end Go.Proofs.Ytagmefjpnmjcjab.Fh

/- The frame package's contracts with named lengths; and that signalmanlaw02 is awake, by hand. -/
namespace Go.Proofs.Ytagmefjpnmjcjab.Fh
open Go.RowKit Go.Proofs.YtagmefjpnmjcjabW.PrintWords Go.Proofs.YtagmefjpnmjcjabW.PrintLast Go.Proofs.YtagmefjpnmjcjabW.PrintMore
open Go.Proofs.Ytagmefjpnmjcjab.Nu (signalmanref01_Same.calls)
open Go.Proofs.Ytagmefjpnmjcjab.Fr (info5 info38 S38 k38 z38 k38_mkM k38_openM S41 k41 frame_Read.f frame_Read.calls frame_Bytes.calls frame_Same.calls)
open Go.Proofs.Ytagmefjpnmjcjab.FrNum (readS read_eq Bytes same_eq)
attribute [local go_sem] max2_int min2_int max_two min_two
set_option linter.unusedVariables false
set_option linter.unusedSimpArgs false
theorem bts_of {l : List Int} (h : l.all (fun x => decide (0 ≤ x) && decide (x < 256)) = true) : Bytes l := by
  intro x hx
  have := List.all_eq_true.1 h x hx
  simpa using this
theorem C_lit8 (W : World) (l : List Int) (n : Nat) (hn : l.length = n) (hl : n ≤ 1000000) {cs : Array Value} (hcs : cs = (l.map (Value.int .u8)).toArray) : Kd.C (Kd.int .u8) (W.alloc (.cells cs 5)) (some ⟨W.heap.size, 0, none⟩) n l := by
  subst hcs
  refine ⟨hn, by omega, fun _ => ⟨_, rfl, fun j p hj => ⟨[.int .u8 p], rfl, rfl, fun i u hu => ?_⟩⟩⟩
  have hi : i = 0 := by
    rcases i with _ | i
    · rfl
    · simp at hu
  subst hi
  have hu : Value.int .u8 p = u := by simpa using hu
  subst hu
  rw [show (Addr.add ⟨W.heap.size, 0, none⟩ (j * (Kd.int .u8).sz + 0)) = ⟨W.heap.size, j, none⟩ by rw [add_at]; simp [Kd.int, Kd.scalar]]
  rw [blk_cell (heap_alloc_new W _) j, List.getElem?_toArray, List.getElem?_map, hj]
  rfl
set_option maxHeartbeats 8000000 in
set_option maxRecDepth 100000 in
theorem Bytes_calls (a : Int) (A : Option Addr) (n c : Nat) (l : List Int) (hn : l.length = n) (r1 : List Int) (r2 : Int) (w : World) (hC : Kd.C (Kd.int .u8) w A n l) (hc : n ≤ c) (h : bytesS a l = (r1, r2)) :
    Calls Try.prog 26 #[.agg #[.int .u8 a, .slice A n c]] w fun e w' => ∃ v0_ : Value, e = .returned (.tuple #[v0_, .int .i64 r2]) ∧ Kd.R (Kd.int .u8) 5 w' w.heap.size (fun _ => True) v0_ r1 ∧ Below w.heap.size w w' := by
  subst hn
  exact frame_Bytes.calls 11 a A c l r1 r2 w hC hc (by rw [bytes_eq 11 a l (Nat.le_refl _), h])
set_option maxHeartbeats 8000000 in
set_option maxRecDepth 100000 in
theorem Same38_calls (a : Int) (A : Option Addr) (n c : Nat) (l : List Int) (hn : l.length = n) (b : Int) (B : Option Addr) (m d : Nat) (k : List Int) (hm : k.length = m) (r : Bool) (w : World) (hC : Kd.C (Kd.int .u8) w A n l) (hc : n ≤ c) (hD : Kd.C (Kd.int .u8) w B m k) (hd : m ≤ d) (hl : Bytes l) (hk : Bytes k) (h : decide (a = b ∧ l = k) = r) :
    Calls Try.prog 32 #[.agg #[.int .u8 a, .slice A n c], .agg #[.int .u8 b, .slice B m d]] w fun e w' => e = .returned (.bool r) ∧ Below w.heap.size w w' := by
  subst hn hm
  exact frame_Same.calls a A c l b B d k r w hC hc hD hd (by rw [same38_eq a l b k hl hk, h])
theorem Drawn0.below_ {w w' : World} (h : Drawn0 w w') : Below w.heap.size w w' := by
  obtain ⟨n, rfl⟩ := h
  exact pw_below_drewN (Below.refl _ _) n
set_option maxHeartbeats 8000000 in
set_option maxRecDepth 100000 in
theorem Same8_calls (A : Option Addr) (n c : Nat) (l : List Int) (hn : l.length = n) (B : Option Addr) (m d : Nat) (k : List Int) (hm : k.length = m) (r : Bool) (w : World) (hC : Kd.C (Kd.int .u8) w A n l) (hc : n ≤ c) (hD : Kd.C (Kd.int .u8) w B m k) (hd : m ≤ d) (hl : n ≤ 1000000000) (h : decide (l = k) = r) :
    Calls Try.prog 23 #[.slice A n c, .slice B m d] w fun e w' => e = .returned (.bool r) ∧ Below w.heap.size w w' := by
  subst hn hm
  refine (signalmanref01_Same.calls (l.length + 1) A c l B d k r w hC hc hD hd (by rw [same_eq _ l k (by omega) (Nat.lt_succ_self _), h])).mono ?_
  rintro e w' ⟨rfl, hd⟩
  exact ⟨rfl, Drawn0.below_ hd⟩
theorem T8.near {w w' : World} {g : Nat} {v : Value} {l : List Int} (h : T8 w v l) (ht : ∃ cells, w.heap[g]? = some (.cells cells 93 (0, 0))) (hn : Near w w' g) : T8 w' v l := by
  obtain ⟨cells, hc⟩ := ht
  exact h.keep hc (by decide) hn.keep
attribute [local irreducible] IsD T8 Near

set_option maxHeartbeats 8000000 in
set_option maxRecDepth 100000 in
theorem awake_calls (w : World) : Calls Try.prog 25 #[] w fun e w' => e = .returned (.bool true) ∧ Below w.heap.size w w' := by
  have hu38 := Try.underlying38
  go_enter Try.func25, Try.ntmps25
  go_upto_region 8 with (first | (go_at_call 33; with_reducible refine (New_calls _).mono ?_; rintro e w1 ⟨g, rfl, hi, hg, hb⟩; have HI := Aside0.mk hi; have HG := Aside0.mk hg; have HB := Aside0.mk hb; clear hi hg hb) | (go_at_call 34; with_reducible refine (Feed_calls g [] [0] (some ⟨w1.heap.size, 0, none⟩) 1 1 rfl [] [0] 0 _ (HI.out.alloc _) ?hC (Nat.le_refl _) ?hB (by simp) ?hS).mono ?_; (case hC => exact C_lit8 w1 [0] 1 rfl (by decide) rfl); (case hB => exact bts_of rfl); (case hS => kernel_rfl); rintro e w2 ⟨v2, rfl, ho, hi, hn⟩; obtain ⟨A2, c2, rfl⟩ := Kd.R_slice ho; have HB_ := Aside0.mk (hn.bel HG.out (below_alloc HB.out _)); have HI_ := Aside0.mk (hi); clear HB HI; have HB := HB_; have HI := HI_; clear HB_ HI_; clear ho hi hn) | (go_at_call 34; with_reducible refine (Feed_calls g [0] [2, 7, 9, 0] (some ⟨w2.heap.size, 0, none⟩) 4 4 rfl [⟨7, [9]⟩] [0] 0 _ (HI.out.alloc _) ?hC (Nat.le_refl _) ?hB (by simp) ?hS).mono ?_; (case hC => exact C_lit8 w2 [2, 7, 9, 0] 4 rfl (by decide) rfl); (case hB => exact bts_of rfl); (case hS => kernel_rfl); rintro e w3 ⟨v3, rfl, ho, hi, hn⟩; obtain ⟨g4, c4, rfl, hge4, _, _⟩ := Kd.R_form ho (by simp); have HGE4 := Aside0.mk (Nat.le_trans HB.out.size (Nat.le_trans (by simp) hge4)); have HR4 := Aside0.mk (Kd.R_lower ho (show w.heap.size ≤ _ from (below_alloc HB.out _).size)); have HB_ := Aside0.mk (hn.bel HG.out (below_alloc HB.out _)); have HI_ := Aside0.mk (hi); clear HB HI; have HB := HB_; have HI := HI_; clear HB_ HI_; clear ho hi hn hge4) | (go_at_call 26; with_reducible refine (Bytes_calls 7 (some ⟨w3.heap.size, 0, none⟩) 1 1 [9] rfl [0, 2, 7, 9] 0 _ ?hC (Nat.le_refl _) ?hS).mono ?_; (case hS => kernel_rfl); (case hC => exact C_lit8 w3 [9] 1 rfl (by decide) rfl); rintro e w4 ⟨v6, rfl, ho, hb⟩; obtain ⟨A6, c6, rfl⟩ := Kd.R_slice ho; have HT6 := Aside0.mk (show T8 w4 (.slice A6 4 c6) [0, 2, 7, 9] from T8.of_R ho); have HB_ := Aside0.mk (below_step (below_alloc HB.out _) hb); have HI_ := Aside0.mk ((HI.out.alloc _).below hb); have HR4_ := Aside0.mk (Kd.R_below (Kd.R_alloc HR4.out _) hb); clear HB HI HR4; have HB := HB_; have HI := HI_; have HR4 := HR4_; clear HB_ HI_ HR4_; clear ho hb) | (go_at_call 28; with_reducible refine (Read_calls (some ⟨w4.heap.size, 0, none⟩) 5 5 [0, 2, 7, 9, 0] rfl 7 [9] 4 0 _ ?hC (Nat.le_refl _) (by decide) ?hB ?hS).mono ?_; (case hS => kernel_rfl); (case hC => exact C_lit8 w4 [0, 2, 7, 9, 0] 5 rfl (by decide) rfl); (case hB => exact bts_of rfl); rintro e w5 ⟨v8, rfl, ho, hb⟩; obtain ⟨A8, c8, rfl⟩ := Kd.R_slice ho; have HB_ := Aside0.mk (below_step (below_alloc HB.out _) hb); have HI_ := Aside0.mk ((HI.out.alloc _).below hb); have HT6_ := Aside0.mk ((HT6.out.alloc _).below hb); have HR4_ := Aside0.mk (Kd.R_below (Kd.R_alloc HR4.out _) hb); clear HB HI HT6 HR4; have HB := HB_; have HI := HI_; have HT6 := HT6_; have HR4 := HR4_; clear HB_ HI_ HT6_ HR4_; clear ho hb) | ((with_reducible refine gate_dst (N := 8) rfl ?_); refine box_event ?hg (N := 8) ?hd (cs := #[.int .u8 0, .slice none 0 0]) (t := 38) ?hr ?_; (case hd => rfl); (case hg => rfl); (case hr => first | (go_simp; done) | (go_simp; rfl)); intro gb hg w6 hbox hb; have HBX := Aside0.mk hbox; have HGE := Aside0.mk (show w.heap.size ≤ gb by rw [hg]; exact HB.out.size); have HT6_ := Aside0.mk (HT6.out.below hb); have HR4_ := Aside0.mk ((Kd.R_mono (Kd.R_below (Kd.R_bound HR4.out) hb) (fun k hk => by have := hk.2.2.1; omega) : Kd.R k38 38 _ w.heap.size (fun k => k ≠ gb) _ _)); have HI_ := Aside0.mk (HI.out.below hb); have HB_ := Aside0.mk (below_step HB.out hb); clear HT6 HR4 HI HB; have HT6 := HT6_; have HR4 := HR4_; have HI := HI_; have HB := HB_; clear HT6_ HR4_ HI_ HB_; clear hg hbox hb; have hx0 := blk_cell HBX.out 0; have hx1 := blk_cell HBX.out 1; have hfx0 := blk_frozen HBX.out 0; have hfx1 := blk_frozen HBX.out 1; replace hx0 := hx0.trans rfl; replace hx1 := hx1.trans rfl))
  (try simp only [Act.put, List.setIfInBounds_toArray, List.set_cons_zero, List.set_cons_succ])
  have HBX0 := Aside0.mk ((blk_set HBX.out 0 (.int .u8 7)).trans rfl)
  generalize hst : World.setCell (World.setCell w6 ⟨gb, 0, none⟩ (.int .u8 7)) ⟨gb, 1, none⟩ (.slice A8 1 c8) = w7
  have HT6_ := Aside0.mk (hst ▸ (HT6.out.apart HBX.out 0 _).apart HBX0.out 1 _)
  have HR4_ := Aside0.mk ((hst ▸ Kd.R_mono (Kd.R_far (p := ⟨gb, 1, none⟩) (Kd.R_far (p := ⟨gb, 0, none⟩) HR4.out (fun _ h => h) _) (fun _ h => h) _) (fun _ _ => trivial) : Kd.R k38 38 w7 w.heap.size (fun _ => True) _ _))
  have HI_ := Aside0.mk (hst ▸ (HI.out.far HBX.out (by decide) (by decide) 0 _).far HBX0.out (by decide) (by decide) 1 _)
  have HB_ := Aside0.mk (hst ▸ below_set (below_set HB.out HGE.out) HGE.out)
  clear HT6 HR4 HI HB
  have HT6 := HT6_
  have HR4 := HR4_
  have HI := HI_
  have HB := HB_
  clear HT6_ HR4_ HI_ HB_
  clear hst hx0 hx1 hfx0 hfx1 HBX0 HBX
  go_upto_region 11 with (first | (go_at_call 36; with_reducible refine (Pending_calls g [0] 0 1 rfl _ HI.out).mono ?_; rintro e w8 ⟨rfl, rfl⟩) | (go_at_call 34; with_reducible refine (Feed_calls g [0] [0] (some ⟨w7.heap.size, 0, none⟩) 1 1 rfl [] [] 2 _ (HI.out.alloc _) ?hC (Nat.le_refl _) ?hB (by simp) ?hS).mono ?_; (case hC => exact C_lit8 w7 [0] 1 rfl (by decide) rfl); (case hB => exact bts_of rfl); (case hS => kernel_rfl); rintro e w8 ⟨v12, rfl, ho, hi, hn⟩; obtain ⟨A12, c12, rfl⟩ := Kd.R_slice ho; have HT6_ := Aside0.mk ((HT6.out.alloc _).near (HI.out.alloc _).typed hn); have HR4_ := Aside0.mk (R38.near (Kd.R_alloc HR4.out _) (HI.out.alloc _).typed hn); have HB_ := Aside0.mk (hn.bel HG.out (below_alloc HB.out _)); have HI_ := Aside0.mk (hi); clear HT6 HR4 HB HI; have HT6 := HT6_; have HR4 := HR4_; have HB := HB_; have HI := HI_; clear HT6_ HR4_ HB_ HI_; clear ho hi hn) | (go_at_call 34; with_reducible refine (Feed_ended g [] 2 _ 4 4 _ (HI.out.alloc _) (by decide)).mono ?_; rintro e w9 ⟨rfl, hb⟩; have HT6_ := Aside0.mk ((HT6.out.alloc _).below hb); have HR4_ := Aside0.mk (Kd.R_below (Kd.R_alloc HR4.out _) hb); have HI_ := Aside0.mk ((HI.out.alloc _).below hb); have HB_ := Aside0.mk (below_step (below_alloc HB.out _) hb); clear HT6 HR4 HI HB; have HT6 := HT6_; have HR4 := HR4_; have HI := HI_; have HB := HB_; clear HT6_ HR4_ HI_ HB_; clear hb))
  obtain ⟨cs13, _, hM13, hcell13, _⟩ := Kd.R_elem HR4.out z38 0 (by decide) (by decide)
  obtain ⟨v13, rfl, hr13⟩ := k38_openM hM13
  obtain ⟨A13, c13, rfl⟩ := Kd.R_slice hr13
  have HT13 := Aside0.mk (show T8 w9 (.slice A13 1 c13) [9] from T8.of_R hr13)
  have hc0 : w9.cell? ⟨g4, 0, none⟩ = some (.int .u8 7) := hcell13 0 _ rfl
  have hc1 : w9.cell? ⟨g4, 1, none⟩ = some (.slice A13 1 c13) := hcell13 1 _ rfl
  clear hM13 hcell13 hr13
  go_wp2_with (first | (go_at_call 32; with_reducible refine (Same38_calls 7 A13 1 c13 [9] rfl 7 (some ⟨w9.heap.size, 0, none⟩) 1 1 [9] rfl true _ (Kd.C_alloc HT13.out.at_.2.2 _) HT13.out.at_.2.1 ?hC (Nat.le_refl _) ?hB ?hB2 rfl).mono ?_; (case hC => exact C_lit8 w9 [9] 1 rfl (by decide) rfl); (case hB => exact bts_of rfl); (case hB2 => exact bts_of rfl); rintro e w10 ⟨rfl, hb⟩; have HT6_ := Aside0.mk ((HT6.out.alloc _).below hb); have HI_ := Aside0.mk ((HI.out.alloc _).below hb); have HB_ := Aside0.mk (below_step (below_alloc HB.out _) hb); clear HT6 HI HB; have HT6 := HT6_; have HI := HI_; have HB := HB_; clear HT6_ HI_ HB_; clear hb) | (go_at_call 23; with_reducible refine (Same8_calls A6 4 c6 [0, 2, 7, 9] rfl (some ⟨w10.heap.size, 0, none⟩) 4 4 [0, 2, 7, 9] rfl true _ (Kd.C_alloc HT6.out.at_.2.2 _) HT6.out.at_.2.1 ?hC (Nat.le_refl _) (by decide) rfl).mono ?_; (case hC => exact C_lit8 w10 [0, 2, 7, 9] 4 rfl (by decide) rfl); rintro e w11 ⟨rfl, hb⟩; have HI_ := Aside0.mk ((HI.out.alloc _).below hb); have HB_ := Aside0.mk (below_step (below_alloc HB.out _) hb); clear HI HB; have HI := HI_; have HB := HB_; clear HI_ HB_; clear hb) | (go_at_call 36; with_reducible refine (Pending_calls g [] 2 0 rfl _ HI.out).mono ?_; rintro e w12 ⟨rfl, rfl⟩))
  go_ret
  exact ⟨rfl, HB.out⟩
end Go.Proofs.Ytagmefjpnmjcjab.Fh

/- The frame package's and its document's contracts with named lengths. -/
namespace Go.Proofs.Ytagmefjpnmjcjab.Fh
open Go.RowKit Go.Proofs.YtagmefjpnmjcjabW.PrintWords Go.Proofs.YtagmefjpnmjcjabW.PrintLast Go.Proofs.YtagmefjpnmjcjabW.PrintMore
open Go.Proofs.Ytagmefjpnmjcjab.Fr
open Go.Proofs.Ytagmefjpnmjcjab.FrNum (readS read_eq Bytes same_eq)
set_option linter.unusedVariables false
set_option linter.unusedSimpArgs false
theorem Same41_calls (A : Option Addr) (n c : Nat) (a : List S41) (hn : a.length = n) (B : Option Addr) (m d : Nat) (b : List S41) (hm : b.length = m) (r : Bool) (w : World) (hC : Kd.C k41 w A n a) (hc : n ≤ c) (hD : Kd.C k41 w B m b) (hd : m ≤ d) (hl : n ≤ 1000000) (hb : ∀ x ∈ a, x.f1.length ≤ 1000000) (h : decide (a = b) = r) :
    Calls Try.prog 30 #[.slice A n c, .slice B m d] w fun e w' => e = .returned (.bool r) ∧ Below w.heap.size w w' := by
  subst hn hm
  refine (signalmanref02_Same.calls (a.length + 1000002) A c a B d b r w hC hc hD hd (by rw [refSame_eq _ a b hl 1000000 (Nat.le_refl _) hb (by omega), h])).mono ?_
  rintro e w' ⟨rfl, hd⟩
  exact ⟨rfl, Drawn0.below_ hd⟩
/-- A row of frames that is read, whatever decoder changes. -/
def T38 (W : World) (N : Nat) (v : Value) (l : List S38) : Prop := Kd.V k38 38 W 0 (fun k => N ≤ k) v l
theorem T38.of_R {W : World} {base N : Nat} {ok : Nat → Prop} {v : Value} {l : List S38} (h : Kd.R k38 38 W base ok v l) (hN : N ≤ base) : T38 W N v l := Kd.V_mono (Kd.R_V (Kd.R_bound h)) (fun k hk => Nat.le_trans hN hk.2.1)
section
variable {W W' : World} {N : Nat} {v : Value} {l : List S38}
theorem T38.below (h : T38 W N v l) (hb : Below W.heap.size W W') : T38 W' N v l := Kd.V_below h hb
theorem T38.alloc (h : T38 W N v l) (o : Obj) : T38 (W.alloc o) N v l := Kd.V_alloc h o
theorem T38.slice (h : T38 W N v l) : ∃ A c, v = .slice A l.length c := Kd.V_slice h
theorem T38.near {g : Nat} (h : T38 W N v l) (hg : g < N) (hn : Near W W' g) : T38 W' N v l := Kd.V_keep h hn.keep (fun k hk e => by omega)
end
end Go.Proofs.Ytagmefjpnmjcjab.Fh

/- FrameFeeds, walked by hand. -/
namespace Go.Proofs.Ytagmefjpnmjcjab.Fh
open Go.RowKit Go.Proofs.YtagmefjpnmjcjabW.PrintWords Go.Proofs.YtagmefjpnmjcjabW.PrintLast Go.Proofs.YtagmefjpnmjcjabW.PrintMore
open Go.Proofs.Ytagmefjpnmjcjab.Fr
open Go.Proofs.Ytagmefjpnmjcjab.FrNum (readS read_eq Bytes)
attribute [local go_sem] max2_int min2_int max_two min_two
set_option linter.unusedVariables false
set_option linter.unusedSimpArgs false
theorem bytes_of_wf {l : List Int} (h : ∀ x ∈ l, (Lit.int .u8 x).wf = true) : Bytes l := fun x hx => by
  have := h x hx
  simp [Lit.wf, IntKind.min, IntKind.max, IntKind.signed, IntKind.bits] at this
  omega
theorem T8.v {W : World} {v : Value} {l : List Int} (h : T8 W v l) : ∃ ok, Kd.V (Kd.int .u8) 5 W 0 ok v l := by
  obtain ⟨ok, _, hv⟩ := h
  exact ⟨ok, hv⟩
theorem T38.v {W : World} {N : Nat} {v : Value} {l : List S38} (h : T38 W N v l) : Kd.V k38 38 W 0 (fun k => N ≤ k) v l := h
attribute [local irreducible] IsD T8 Near T38

end Go.Proofs.Ytagmefjpnmjcjab.Fh
