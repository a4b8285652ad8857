/- The document's plan of probes: New, by hand. -/
import Derived.Test.YtagmefjpnmjcjaaPrDoc
namespace Go.Proofs.Ytagmefjpnmjcjaa.Pr
open Go.RowKit Go.Proofs.YtagmefjpnmjcjaaW.PrintWords Go.Proofs.YtagmefjpnmjcjaaW.PrintLast Go.Proofs.YtagmefjpnmjcjaaW.PrintMore
open Go.Proofs.Ytagmefjpnmjcjaa.Wa (Near)
attribute [local go_sem] max2_int min2_int max_two min_two
set_option linter.unusedVariables false
set_option linter.unusedSimpArgs false

set_option maxHeartbeats 8000000 in
set_option maxRecDepth 100000 in
theorem DNew_bad (n ev la : Int) (w : World) (h : ¬ okNew n ev la) : Calls Try.prog 28 #[.int .i64 n, .int .u64 ev, .int .u64 la] w fun e w' => e = .returned (.tuple #[.pointer none, .int .i64 1]) ∧ w = w' := by
  unfold okNew at h
  by_cases c1 : n < 1
  · have b0 : decide (n < 1) = true := decide_eq_true c1
    clear h c1
    go_enter Try.func28, Try.ntmps28
    go_wp2
    go_ret2
    exact ⟨rfl, rfl⟩
  · have b0 : decide (n < 1) = false := decide_eq_false c1
    by_cases c2 : 6 < n
    · have b1 : decide (6 < n) = true := decide_eq_true c2
      clear h c1 c2
      go_enter Try.func28, Try.ntmps28
      go_wp2
      go_ret2
      exact ⟨rfl, rfl⟩
    · have b1 : decide (6 < n) = false := decide_eq_false c2
      by_cases c3 : ev < 1
      · have b2 : decide (ev < 1) = true := decide_eq_true c3
        clear h c1 c2 c3
        go_enter Try.func28, Try.ntmps28
        go_wp2
        go_ret2
        exact ⟨rfl, rfl⟩
      · have b2 : decide (ev < 1) = false := decide_eq_false c3
        by_cases c4 : 1000 < ev
        · have b3 : decide (1000 < ev) = true := decide_eq_true c4
          clear h c1 c2 c3 c4
          go_enter Try.func28, Try.ntmps28
          go_wp2
          go_ret2
          exact ⟨rfl, rfl⟩
        · have b3 : decide (1000 < ev) = false := decide_eq_false c4
          by_cases c5 : la < 1
          · have b4 : decide (la < 1) = true := decide_eq_true c5
            clear h c1 c2 c3 c4 c5
            go_enter Try.func28, Try.ntmps28
            go_wp2
            go_ret2
            exact ⟨rfl, rfl⟩
          · have b4 : decide (la < 1) = false := decide_eq_false c5
            by_cases c6 : 1000 < la
            · have b5 : decide (1000 < la) = true := decide_eq_true c6
              clear h c1 c2 c3 c4 c5 c6
              go_enter Try.func28, Try.ntmps28
              go_wp2
              go_ret2
              exact ⟨rfl, rfl⟩
            · have b5 : decide (1000 < la) = false := decide_eq_false c6
              exact absurd ⟨by omega, by omega, by omega, by omega, by omega, by omega⟩ h
theorem info22 : (Try.prog.info? 22).map (fun i => (i.zero, i.size, i.bytes)) = some (some (.int .u64 0), 1, 8) := by kernel_rfl
abbrev kU : Kd Int := Kd.int .u64
theorem R_other {w w1 : World} {base : Nat} {v v0 : Value} {L : List Int} (h : Kd.R kU 22 w base (fun _ => True) v L) (hne : NeRow v v0) (hg : w.grownBy w1 v0.ownBlock) : Kd.R kU 22 w1 base (fun _ => True) v L :=
  ⟨fun _ _ => trivial, OwnRow.other h.2 hg (ne_other (ne_symm hne))⟩
theorem ne_app {W : World} {v v1 v' : Value} {base : Nat} {L : List Int} (h : NeRow v v') (hat : v1.ownBlock = v.ownBlock ∨ ∃ b, v1.ownBlock = some b ∧ W.heap.size ≤ b) (hR : Kd.R kU 22 W base (fun _ => True) v' L) : NeRow v1 v' := fun k hk hk' => by
  rcases hat with e | ⟨b, e, hb⟩
  · exact h k (e.symm.trans hk) hk'
  · rw [e] at hk
    have := Kd.R_lt hR k hk'
    simp at hk
    omega
theorem R_Row {w : World} {base : Nat} {v : Value} {L : List Int} (h : Kd.R kU 22 w base (fun _ => True) v L) (hp : 0 < L.length) : ∃ b c, v = .slice (some ⟨b, 0, none⟩) L.length c ∧ Row w b L ∧ base ≤ b := by
  obtain ⟨_, inner, ⟨h1, h2⟩, hr⟩ := h
  have hlen : inner.length = L.length := by have := hr.1; simpa [kU, Kd.int, Kd.scalar] using this
  have hin : inner = L.map (Value.int .u64) := by
    apply List.ext_getElem?
    intro j
    by_cases hj : j < L.length
    · have h3 : (inner.drop (j * 1)).take 1 = [Value.int .u64 L[j]] := hr.2 j L[j] (List.getElem?_eq_getElem hj)
      rw [Nat.mul_one] at h3
      rw [List.getElem?_map, List.getElem?_eq_getElem hj]
      have h4 : ((inner.drop j).take 1)[0]? = some (Value.int .u64 L[j]) := by rw [h3]; rfl
      rw [List.getElem?_take_of_lt (by omega), List.getElem?_drop] at h4
      simpa using h4
    · rw [List.getElem?_eq_none (by omega), List.getElem?_eq_none (by simp; omega)]
  rcases h2 with ⟨_, h0⟩ | ⟨g, cap, cur, rfl, hb, hh, hn, hm, hc, ht⟩
  · omega
  · refine ⟨g, cap, rfl, ⟨cur.toList.drop L.length, ?_⟩, hb⟩
    have e1 : L.map (Value.int .u64) = cur.toList.take L.length := by
      rw [← hin, ← ht]
      congr 1
      exact Nat.mul_one _
    rw [hh, e1, List.take_append_drop]
theorem col_succ {D : List Int} {i k : Nat} : col D (i + 1) k = col D i k ++ [nd D (i * 3 + k)] := by simp [col, List.range_succ]
theorem newD_nd : ∀ j : Nat, j < 6 → nd (newD 6) (j * 3 + 0) = j ∧ nd (newD 6) (j * 3 + 1) = 0 ∧ nd (newD 6) (j * 3 + 2) = 0 := by
  intro j hj
  have : j = 0 ∨ j = 1 ∨ j = 2 ∨ j = 3 ∨ j = 4 ∨ j = 5 := by omega
  rcases this with rfl | rfl | rfl | rfl | rfl | rfl <;> exact ⟨rfl, rfl, rfl⟩
attribute [local irreducible] IsP IsD Near NearD Blk.has
set_option maxHeartbeats 8000000 in
set_option maxRecDepth 100000 in
theorem DNew_ok (n : Nat) (ev la : Int) (w : World) (h : okNew n ev la) : Calls Try.prog 28 #[.int .i64 n, .int .u64 ev, .int .u64 la] w fun e w' => ∃ q : Blk, e = .returned (.tuple #[.pointer (some ⟨q.g, 0, none⟩), .int .i64 0]) ∧ IsD w' q n (newD 6) ev la 0 ∧ (∀ k, q.has k → w.heap.size ≤ k) ∧ Below w.heap.size w w' := by
  unfold okNew at h
  have b1 : decide ((n : Int) < 1) = false := decide_eq_false (by omega)
  have b1p : ¬ n < 1 := by omega
  have b1n : decide (n < 1) = false := decide_eq_false (by omega)
  have b2 : decide (6 < (n : Int)) = false := decide_eq_false (by omega)
  have b2p : ¬ 6 < n := by omega
  have b2n : decide (6 < n) = false := decide_eq_false (by omega)
  have b3 : decide (ev < 1) = false := decide_eq_false (by omega)
  have b4 : decide (1000 < ev) = false := decide_eq_false (by omega)
  have b5 : decide (la < 1) = false := decide_eq_false (by omega)
  have b6 : decide (1000 < la) = false := decide_eq_false (by omega)
  have HN6 := Aside0.mk (show 1 ≤ n ∧ n ≤ 6 by omega)
  clear h
  go_enter Try.func28, Try.ntmps28
  go_upto_region 4 with (first | ((with_reducible refine gate_dst (N := 35) rfl ?_); refine box_event ?hg (N := 35) ?hd (cs := #[.slice none 0 0, .slice none 0 0, .slice none 0 0, .int .u64 ev, .int .u64 la, .int .u64 0]) (t := 70) ?hr ?_; (case hd => rfl); (case hg => rfl); (case hr => first | (go_simp; done) | (go_simp; rfl)); intro g hg w2 hbox hb; have HG := Aside0.mk hbox; have HGE := Aside0.mk (show w.heap.size ≤ g by rw [hg]; exact Nat.le_refl _); have HB := Aside0.mk hb; clear hbox hg hb))
  (try simp only [Act.put, List.setIfInBounds_toArray, List.set_cons_zero, List.set_cons_succ])
  go_wp2
  go_loopg [9] (n + 1) (fun kq v9 w' => ∃ (i : Nat) (v0 v1 v2 : Value), v9 = .int .i64 (i : Int) ∧ Aside0 (kq + i = n + 1) ∧ Aside0 (i ≤ n) ∧ Aside0 (w'.heap[g]? = some (.cells #[v0, v1, v2, .int .u64 ev, .int .u64 la, .int .u64 0] 70 (0, 0))) ∧ Aside0 (Kd.R kU 22 w' w.heap.size (fun _ => True) v0 (col (newD 6) i 0)) ∧ Aside0 (Kd.R kU 22 w' w.heap.size (fun _ => True) v1 (col (newD 6) i 1)) ∧ Aside0 (Kd.R kU 22 w' w.heap.size (fun _ => True) v2 (col (newD 6) i 2)) ∧ Aside0 (NeRow v0 v1) ∧ Aside0 (NeRow v0 v2) ∧ Aside0 (NeRow v1 v2) ∧ Aside0 (Below w.heap.size w w'))
  case atStart => exact ⟨0, .slice none 0 0, .slice none 0 0, .slice none 0 0, rfl, ⟨by omega⟩, ⟨by omega⟩, HG, ⟨Kd.R_nil _ _ _ _ _⟩, ⟨Kd.R_nil _ _ _ _ _⟩, ⟨Kd.R_nil _ _ _ _ _⟩, ⟨ne_nil _⟩, ⟨ne_nil _⟩, ⟨ne_nil _⟩, HB⟩
  case round =>
    clear HG HB
    obtain ⟨i, v0, v1, v2, rfl, HK, HL, HG, H0, H1, H2, N01, N02, N12, HB⟩ := hrel
    by_cases ci : i < n
    · obtain ⟨gk1, rfl⟩ : ∃ gk', gk = gk' + 1 := ⟨gk - 1, by have := HK.out; omega⟩
      have c1 : decide ((i : Int) < (n : Int)) = true := decide_eq_true (by omega)
      have c1n : decide (i < n) = true := decide_eq_true ci
      have hwi : wrap64 ((i : Int) + 1) = ((i + 1 : Nat) : Int) := by have := HN6.out; unfold wrap64; omega
      have hwu : IntKind.u64.wrap (i : Int) = (i : Int) := wrap_u64_nat i (by have := HN6.out; omega)
      have HC0 := Aside0.mk (show col (newD 6) i 0 ++ [(i : Int)] = col (newD 6) (i + 1) 0 by rw [col_succ, (newD_nd i (by have := HN6.out; omega)).1])
      have HC1 := Aside0.mk (show col (newD 6) i 1 ++ [(0 : Int)] = col (newD 6) (i + 1) 1 by rw [col_succ, (newD_nd i (by have := HN6.out; omega)).2.1])
      have HC2 := Aside0.mk (show col (newD 6) i 2 ++ [(0 : Int)] = col (newD 6) (i + 1) 2 by rw [col_succ, (newD_nd i (by have := HN6.out; omega)).2.2])
      have HI6 := Aside0.mk (show i < 6 by have := HN6.out; omega)
      have hz : wr.cell? ⟨g, 0, none⟩ = some (v0) := (blk_cell HG.out 0).trans rfl
      go_upto_region 8 with (first | ((with_reducible refine gate_builtin (b := .append) (xs := #[.tmp 45, .tmp 48]) rfl ?_); at_builtin; refine Kd.R_append kU (w0 := w) w.heap.size rfl (.tmp 45) (.tmp 48) 43 22 (.int .u64 0) 8 rfl Try.underlying43 info22 rfl (by decide) (by omega) _ (col (newD 6) i 0) (i : Int) [.int .u64 (i : Int)] (fun _ => True) (fun _ => False) rfl rfl ?aP (fun _ hk => hk.elim) ?aF ?aO ?aB ?aS ?aL ?_; (case aP => exact rfl); (case aF => exact (fun _ _ => trivial)); (case aO => exact H0.out); (case aB => exact HB.out); (case aS => exact HB.out.size); (case aL => rw [col_len]; have := HI6.out; omega); intro x0 w3 ho hb hg hat; rw [HC0.out] at ho; obtain ⟨ya0, yk0, ex_⟩ := Kd.R_slice ho; rw [col_len] at ex_; subst ex_; have N01_ := Aside0.mk (ne_app N01.out hat H1.out); have N02_ := Aside0.mk (ne_app N02.out hat H2.out); have HG_ := Aside0.mk ((hg.block g (blk_lt HG.out) (Kd.R_ne H0.out HG.out (by decide))).trans HG.out); have H1_ := Aside0.mk (R_other H1.out (ne_symm N01.out) hg); have H2_ := Aside0.mk (R_other H2.out (ne_symm N02.out) hg); have H0_ := Aside0.mk (ho); have HB_ := Aside0.mk (hb); clear N01 N02 HG H1 H2 H0 HB; have N01 := N01_; have N02 := N02_; have HG := HG_; have H1 := H1_; have H2 := H2_; have H0 := H0_; have HB := HB_; clear N01_ N02_ HG_ H1_ H2_ H0_ HB_; clear ho hb hg hat; have hy : w3.cell? ⟨g, 0, none⟩ = some (v0) := (blk_cell HG.out 0).trans rfl; have hf := blk_frozen HG.out 0))
      (try simp only [Act.put, List.setIfInBounds_toArray, List.set_cons_zero, List.set_cons_succ])
      generalize hst : World.setCell w3 ⟨g, 0, none⟩ (.slice ya0 (i + 1) yk0) = w4
      have H0_ := Aside0.mk (hst ▸ Kd.R_set H0.out HG.out (by decide) 0 (.slice ya0 (i + 1) yk0))
      have H1_ := Aside0.mk (hst ▸ Kd.R_set H1.out HG.out (by decide) 0 (.slice ya0 (i + 1) yk0))
      have H2_ := Aside0.mk (hst ▸ Kd.R_set H2.out HG.out (by decide) 0 (.slice ya0 (i + 1) yk0))
      have HB_ := Aside0.mk (hst ▸ below_set HB.out HGE.out)
      have HG_ := Aside0.mk ((hst ▸ (by simpa using blk_set HG.out 0 (.slice ya0 (i + 1) yk0) : (World.setCell w3 ⟨g, 0, none⟩ (.slice ya0 (i + 1) yk0)).heap[g]? = some (.cells #[.slice ya0 (i + 1) yk0, v1, v2, .int .u64 ev, .int .u64 la, .int .u64 0] 70 (0, 0))) : w4.heap[g]? = some (.cells #[.slice ya0 (i + 1) yk0, v1, v2, .int .u64 ev, .int .u64 la, .int .u64 0] 70 (0, 0))))
      clear H0 H1 H2 HB HG
      have H0 := H0_
      have H1 := H1_
      have H2 := H2_
      have HB := HB_
      have HG := HG_
      clear H0_ H1_ H2_ HB_ HG_
      clear hz hst hy hf
      have hz : w4.cell? ⟨g, 1, none⟩ = some (v1) := (blk_cell HG.out 1).trans rfl
      go_upto_region 9 with (first | ((with_reducible refine gate_builtin (b := .append) (xs := #[.tmp 56, .tmp 57]) rfl ?_); at_builtin; refine Kd.R_append kU (w0 := w) w.heap.size rfl (.tmp 56) (.tmp 57) 43 22 (.int .u64 0) 8 rfl Try.underlying43 info22 rfl (by decide) (by omega) _ (col (newD 6) i 1) (0) [.int .u64 (0)] (fun _ => True) (fun _ => False) rfl rfl ?aP (fun _ hk => hk.elim) ?aF ?aO ?aB ?aS ?aL ?_; (case aP => exact rfl); (case aF => exact (fun _ _ => trivial)); (case aO => exact H1.out); (case aB => exact HB.out); (case aS => exact HB.out.size); (case aL => rw [col_len]; have := HI6.out; omega); intro x1 w5 ho hb hg hat; rw [HC1.out] at ho; obtain ⟨ya1, yk1, ex_⟩ := Kd.R_slice ho; rw [col_len] at ex_; subst ex_; have N01_ := Aside0.mk (ne_symm (ne_app (ne_symm N01.out) hat H0.out)); have N12_ := Aside0.mk (ne_app N12.out hat H2.out); have HG_ := Aside0.mk ((hg.block g (blk_lt HG.out) (Kd.R_ne H1.out HG.out (by decide))).trans HG.out); have H0_ := Aside0.mk (R_other H0.out N01.out hg); have H2_ := Aside0.mk (R_other H2.out (ne_symm N12.out) hg); have H1_ := Aside0.mk (ho); have HB_ := Aside0.mk (hb); clear N01 N12 HG H0 H2 H1 HB; have N01 := N01_; have N12 := N12_; have HG := HG_; have H0 := H0_; have H2 := H2_; have H1 := H1_; have HB := HB_; clear N01_ N12_ HG_ H0_ H2_ H1_ HB_; clear ho hb hg hat; have hy : w5.cell? ⟨g, 1, none⟩ = some (v1) := (blk_cell HG.out 1).trans rfl; have hf := blk_frozen HG.out 1))
      (try simp only [Act.put, List.setIfInBounds_toArray, List.set_cons_zero, List.set_cons_succ])
      generalize hst : World.setCell w5 ⟨g, 1, none⟩ (.slice ya1 (i + 1) yk1) = w6
      have H0_ := Aside0.mk (hst ▸ Kd.R_set H0.out HG.out (by decide) 1 (.slice ya1 (i + 1) yk1))
      have H1_ := Aside0.mk (hst ▸ Kd.R_set H1.out HG.out (by decide) 1 (.slice ya1 (i + 1) yk1))
      have H2_ := Aside0.mk (hst ▸ Kd.R_set H2.out HG.out (by decide) 1 (.slice ya1 (i + 1) yk1))
      have HB_ := Aside0.mk (hst ▸ below_set HB.out HGE.out)
      have HG_ := Aside0.mk ((hst ▸ (by simpa using blk_set HG.out 1 (.slice ya1 (i + 1) yk1) : (World.setCell w5 ⟨g, 1, none⟩ (.slice ya1 (i + 1) yk1)).heap[g]? = some (.cells #[.slice ya0 (i + 1) yk0, .slice ya1 (i + 1) yk1, v2, .int .u64 ev, .int .u64 la, .int .u64 0] 70 (0, 0))) : w6.heap[g]? = some (.cells #[.slice ya0 (i + 1) yk0, .slice ya1 (i + 1) yk1, v2, .int .u64 ev, .int .u64 la, .int .u64 0] 70 (0, 0))))
      clear H0 H1 H2 HB HG
      have H0 := H0_
      have H1 := H1_
      have H2 := H2_
      have HB := HB_
      have HG := HG_
      clear H0_ H1_ H2_ HB_ HG_
      clear hz hst hy hf
      have hz : w6.cell? ⟨g, 2, none⟩ = some (v2) := (blk_cell HG.out 2).trans rfl
      go_upto_region 6 with (first | ((with_reducible refine gate_builtin (b := .append) (xs := #[.tmp 65, .tmp 66]) rfl ?_); at_builtin; refine Kd.R_append kU (w0 := w) w.heap.size rfl (.tmp 65) (.tmp 66) 43 22 (.int .u64 0) 8 rfl Try.underlying43 info22 rfl (by decide) (by omega) _ (col (newD 6) i 2) (0) [.int .u64 (0)] (fun _ => True) (fun _ => False) rfl rfl ?aP (fun _ hk => hk.elim) ?aF ?aO ?aB ?aS ?aL ?_; (case aP => exact rfl); (case aF => exact (fun _ _ => trivial)); (case aO => exact H2.out); (case aB => exact HB.out); (case aS => exact HB.out.size); (case aL => rw [col_len]; have := HI6.out; omega); intro x2 w7 ho hb hg hat; rw [HC2.out] at ho; obtain ⟨ya2, yk2, ex_⟩ := Kd.R_slice ho; rw [col_len] at ex_; subst ex_; have N02_ := Aside0.mk (ne_symm (ne_app (ne_symm N02.out) hat H0.out)); have N12_ := Aside0.mk (ne_symm (ne_app (ne_symm N12.out) hat H1.out)); have HG_ := Aside0.mk ((hg.block g (blk_lt HG.out) (Kd.R_ne H2.out HG.out (by decide))).trans HG.out); have H0_ := Aside0.mk (R_other H0.out N02.out hg); have H1_ := Aside0.mk (R_other H1.out N12.out hg); have H2_ := Aside0.mk (ho); have HB_ := Aside0.mk (hb); clear N02 N12 HG H0 H1 H2 HB; have N02 := N02_; have N12 := N12_; have HG := HG_; have H0 := H0_; have H1 := H1_; have H2 := H2_; have HB := HB_; clear N02_ N12_ HG_ H0_ H1_ H2_ HB_; clear ho hb hg hat; have hy : w7.cell? ⟨g, 2, none⟩ = some (v2) := (blk_cell HG.out 2).trans rfl; have hf := blk_frozen HG.out 2))
      (try simp only [Act.put, List.setIfInBounds_toArray, List.set_cons_zero, List.set_cons_succ])
      generalize hst : World.setCell w7 ⟨g, 2, none⟩ (.slice ya2 (i + 1) yk2) = w8
      have H0_ := Aside0.mk (hst ▸ Kd.R_set H0.out HG.out (by decide) 2 (.slice ya2 (i + 1) yk2))
      have H1_ := Aside0.mk (hst ▸ Kd.R_set H1.out HG.out (by decide) 2 (.slice ya2 (i + 1) yk2))
      have H2_ := Aside0.mk (hst ▸ Kd.R_set H2.out HG.out (by decide) 2 (.slice ya2 (i + 1) yk2))
      have HB_ := Aside0.mk (hst ▸ below_set HB.out HGE.out)
      have HG_ := Aside0.mk ((hst ▸ (by simpa using blk_set HG.out 2 (.slice ya2 (i + 1) yk2) : (World.setCell w7 ⟨g, 2, none⟩ (.slice ya2 (i + 1) yk2)).heap[g]? = some (.cells #[.slice ya0 (i + 1) yk0, .slice ya1 (i + 1) yk1, .slice ya2 (i + 1) yk2, .int .u64 ev, .int .u64 la, .int .u64 0] 70 (0, 0))) : w8.heap[g]? = some (.cells #[.slice ya0 (i + 1) yk0, .slice ya1 (i + 1) yk1, .slice ya2 (i + 1) yk2, .int .u64 ev, .int .u64 la, .int .u64 0] 70 (0, 0))))
      clear H0 H1 H2 HB HG
      have H0 := H0_
      have H1 := H1_
      have H2 := H2_
      have HB := HB_
      have HG := HG_
      clear H0_ H1_ H2_ HB_ HG_
      clear hz hst hy hf
      go_wp2
      go_roundg gk1
      case measure => omega
      case rel => exact ⟨i + 1, _, _, _, congrArg (Value.int .i64) (by omega), ⟨by have := HK.out; omega⟩, ⟨by omega⟩, HG, H0, H1, H2, N01, N02, N12, HB⟩
    · have c1 : decide ((i : Int) < (n : Int)) = false := decide_eq_false (by omega)
      have c1n : decide (i < n) = false := decide_eq_false ci
      have hin : i = n := by have := HL.out; omega
      subst hin
      obtain ⟨b0, k0, rfl, R0, g0⟩ := R_Row H0.out (by rw [col_len]; exact HN6.out.1)
      obtain ⟨b1_, k1, rfl, R1, g1⟩ := R_Row H1.out (by rw [col_len]; exact HN6.out.1)
      obtain ⟨b2_, k2, rfl, R2, g2⟩ := R_Row H2.out (by rw [col_len]; exact HN6.out.1)
      have HQ := Aside0.mk (show IsD wr ⟨g, b0, b1_, b2_, k0, k1, k2⟩ i (newD 6) ev la 0 from by
        unfold IsD
        refine ⟨by have := HG.out; simp only [col_len] at this; exact this, R0, R1, R2, ⟨fun e => N01.out b0 rfl (by simp [Value.ownBlock]; exact e.symm), fun e => N02.out b0 rfl (by simp [Value.ownBlock]; exact e.symm), fun e => N12.out b1_ rfl (by simp [Value.ownBlock]; exact e.symm)⟩, rfl, HN6.out⟩)
      have HQB := Aside0.mk (show ∀ k, Blk.has ⟨g, b0, b1_, b2_, k0, k1, k2⟩ k → w.heap.size ≤ k from fun k hk => by
        unfold Blk.has at hk
        have := HGE.out
        simp at hk
        omega)
      clear R0 R1 R2 g0 g1 g2 ci
      go_wp2
      go_ret2
      exact ⟨⟨g, b0, b1_, b2_, k0, k1, k2⟩, rfl, HQ.out, HQB.out, HB.out⟩
end Go.Proofs.Ytagmefjpnmjcjaa.Pr
