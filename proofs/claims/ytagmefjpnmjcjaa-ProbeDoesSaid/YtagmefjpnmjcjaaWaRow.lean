/- WaitsRow, walked by hand. -/
import Derived.Test.YtagmefjpnmjcjaaWaDropLaw
namespace Go.Proofs.Ytagmefjpnmjcjaa.Wa
open Go.RowKit Go.Proofs.YtagmefjpnmjcjaaW.PrintWords Go.Proofs.YtagmefjpnmjcjaaW.PrintLast Go.Proofs.YtagmefjpnmjcjaaW.PrintMore
attribute [local go_sem] max2_int min2_int max_two min_two
set_option linter.unusedVariables false
set_option linter.unusedSimpArgs false

/-! #### an act -/
structure S84 where
  f0 : Int
  f1 : Int
def z84 : S84 := ⟨(0 : Int), (0 : Int)⟩
def k84 : Kd S84 := Kd.iso (Kd.pair (Kd.int .i64) (Kd.int .i64)) (fun x : S84 => (x.f0, x.f1))
theorem k84_open {w : World} {x : S84} {cs : List Value} (h : k84.K w x cs) : cs = [.int .i64 x.f0, .int .i64 x.f1] := by
  obtain ⟨_, _, rfl, rfl, rfl⟩ := h
  exact rfl
def rd_T84 (xs : List S84) (i : Int) : S84 := xs.getD i.toNat z84
theorem at_T84 {w : World} {A : Option Addr} {n : Nat} {xs : List S84} (h : Kd.C k84 w A n xs) (i : Int) (h0 : 0 ≤ i) (h1 : i < n) : ∃ ad , A = some ad ∧ w.cell? (ad.add (i.toNat * 2)) = some (.int .i64 (rd_T84 xs i).f0) ∧ w.cell? ⟨(ad.add (i.toNat * 2)).block, (ad.add (i.toNat * 2)).off + 1, none⟩ = some (.int .i64 (rd_T84 xs i).f1) := by
  obtain ⟨ad, c, e, _, hK, hc0⟩ := Kd.C_get h z84 i h0 h1
  have hc : ∀ j u, c[j]? = some u → w.cell? (ad.add (i.toNat * 2 + j)) = some u := hc0
  obtain rfl := k84_open hK
  exact ⟨ad, e, hc 0 _ rfl, by rw [← add_field _ _ 1 (by omega)]; exact hc 1 _ rfl⟩
theorem act_store {wb : World} {gb : Nat} {a b : Int} (h : wb.heap[gb]? = some (.cells #[.int .i64 0, .int .i64 0] 84 (0, 0))) : ((wb.setCell ⟨gb, 0, none⟩ (.int .i64 a)).setCell ⟨gb, 1, none⟩ (.int .i64 b)).heap[gb]? = some (.cells #[.int .i64 a, .int .i64 b] 84 (0, 0)) := by
  simpa using blk_set (blk_set h 0 (.int .i64 a)) 1 (.int .i64 b)
theorem IsW.far {w : World} {g gb : Nat} {L : List Int} {mo : Int} (h : IsW w g L mo) (hne : g ≠ gb) (j : Nat) (u : Value) : IsW (w.setCell ⟨gb, j, none⟩ u) g L mo := by
  obtain ⟨ids, fr, HG, h2⟩ := h
  exact ⟨ids, fr, blk_far HG hne u, h2⟩
theorem IsW.grown {w w1 : World} {g : Nat} {L : List Int} {mo : Int} (h : IsW w g L mo) {row : Option Nat} (hg : w.grownBy w1 row) (hne : some g ≠ row) : IsW w1 g L mo := by
  obtain ⟨ids, fr, HG, h2⟩ := h
  exact ⟨ids, fr, (hg.block g (blk_lt HG) hne).trans HG, h2⟩
theorem IsW.q_ne {α : Type} {d : Kd α} {e base : Nat} {ok : Nat → Prop} {v : Value} {xs : List α} {w : World} {g : Nat} {L : List Int} {mo : Int} (h : IsW w g L mo) (hq : Kd.Q d e w base ok v xs) (ht : e ≠ 127) : some g ≠ v.ownBlock := by
  obtain ⟨ids, fr, HG, h2⟩ := h
  exact Kd.Q_ne hq HG ht
theorem IsW.q_keep {w w' : World} {g : Nat} {L : List Int} {mo : Int} {base : Nat} {v : Value} {xs : List Int} (h : IsW w g L mo) (hq : Kd.Q (Kd.int .i64) 3 w base (fun _ => True) v xs) (hn : Near w w' g) : Kd.Q (Kd.int .i64) 3 w' base (fun _ => True) v xs := by
  obtain ⟨ids, fr, HG, h2⟩ := h
  exact Kd.Q_mono (Kd.Q_keep (Kd.Q_types hq HG (by decide)) hn.1 (fun k hk => hk.2)) (fun _ hk => hk.1)
theorem IsW.ne84 {w : World} {g gb : Nat} {L : List Int} {mo : Int} {cs : Array Value} (h : IsW w g L mo) (hb : w.heap[gb]? = some (.cells cs 84 (0, 0))) : gb ≠ g := by
  obtain ⟨ids, fr, HG, h2⟩ := h
  rintro rfl
  rw [HG] at hb
  injection hb with hb
  injection hb with _ hb
  exact absurd hb (by decide)
theorem rd_nat {L : List Int} {j : Nat} (h : j < L.length) : rd L (j : Int) = L[j] := by
  unfold rd
  rw [Int.toNat_natCast, List.getD_eq_getElem?_getD, List.getElem?_eq_getElem h]
  rfl
theorem Near.keep {w w' : World} {g : Nat} (h : Near w w' g) : KeepBut w w' g none := h.1
theorem putE_zero {L : List Int} {mo id : Int} : (putE L mo id == 0) = decide (id ∉ L ∧ (L.length : Int) ≠ mo) := by
  unfold putE
  by_cases c : id ∈ L
  · rw [if_pos c]; simp [c]
  · rw [if_neg c]
    by_cases c2 : (L.length : Int) = mo
    · rw [if_pos c2]; simp [c2]
    · rw [if_neg c2]; simp [c, c2]
theorem putL_new {L : List Int} {mo id : Int} (h1 : id ∉ L) (h2 : (L.length : Int) ≠ mo) : putL L mo id = L ++ [id] := by
  unfold putL; rw [if_neg h1, if_neg h2]
theorem putE_new {L : List Int} {mo id : Int} (h1 : id ∉ L) (h2 : (L.length : Int) ≠ mo) : putE L mo id = 0 := by
  unfold putE; rw [if_neg h1, if_neg h2]
theorem putL_old {L : List Int} {mo id : Int} (h : ¬ (id ∉ L ∧ (L.length : Int) ≠ mo)) : putL L mo id = L := by
  unfold putL
  by_cases c : id ∈ L
  · rw [if_pos c]
  · rw [if_neg c, if_pos (by by_cases c2 : (L.length : Int) = mo; exact c2; exact absurd ⟨c, c2⟩ h)]
theorem posOf_at {L : List Int} (hn : L.Nodup) (i : Nat) (hi : i < L.length) : posOf L L[i] = i := by
  unfold posOf
  rw [if_pos (List.idxOf_lt_length_iff.2 (List.getElem_mem hi)), hn.idxOf_getElem i hi]
attribute [local irreducible] IsW Near putE putL posOf

theorem IsW.most_ {w : World} {g : Nat} {L : List Int} {mo : Int} (h : IsW w g L mo) : (L.length : Int) ≤ mo := by
  unfold IsW at h
  obtain ⟨ids, fr, HG, h2, h3, h4⟩ := h
  exact h3
theorem R_empty (W : World) (base : Nat) (h : base ≤ W.heap.size) : Kd.R (Kd.int .i64) 3 (W.alloc (.cells #[] 3)) base (fun _ => True) (.slice (some ⟨W.heap.size, 0, none⟩) 0 0) [] :=
  ⟨fun _ _ => trivial, OwnRow.lit (e := 3) (size := 1) (ps := ([] : List Int)) (inner := []) W base (Reps.none _ _) h (by simp)⟩
theorem head_cell {w : World} {base : Nat} {A : Option Addr} {c : Nat} {x : Int} {T : List Int} (h : Kd.Q (Kd.int .i64) 3 w base (fun _ => True) (.slice A (x :: T).length c) (x :: T)) : ∃ ad, A = some ad ∧ w.cell? ad = some (.int .i64 x) := by
  obtain ⟨ad, e, hx⟩ := Kd.at_int (Kd.Q_reads' h).2.2 0 (by omega) (by simp)
  exact ⟨ad, e, by simpa [Addr.add, rd] using hx⟩
set_option maxHeartbeats 8000000 in
set_option maxRecDepth 100000 in
theorem WaitsRow_calls (most : Int) (A0 : Option Addr) (c0 : Nat) (l : List S84) (w : World) (hr : Kd.C k84 w A0 l.length l) (hc : l.length ≤ c0) :
    Calls Try.prog 10 #[.int .i64 most, .slice A0 l.length c0] w fun e w' => e = .returned (.bool true) ∧ Below w.heap.size w w' := by
  have HB := Aside0.mk (Below.refl w.heap.size w)
  have HR := Aside0.mk hr
  clear hr hc
  by_cases cm : 0 ≤ most ∧ most ≤ 12
  · by_cases cl : l.length ≤ 200
    · have b2 : decide (200 < (l.length : Int)) = false := decide_eq_false (by omega)
      go_enter Try.func10, Try.ntmps10
      go_wp2_with (first | (go_at_call 38; refine (awake_calls _).mono ?_; rintro e w' ⟨rfl, hb⟩; have HB' := Aside0.mk (below_step HB.out hb); clear hb HB; have HB := HB'; clear HB') | (go_at_call 39; refine (New_ok most _ cm.1 cm.2).mono ?_; rintro e w' ⟨g, rfl, hI, hg, hb⟩; have HI := Aside0.mk hI; have HG := Aside0.mk (Nat.le_trans HB.out.size hg); have HB' := Aside0.mk (below_step HB.out hb); clear hI hg hb HB; have HB := HB'; clear HB'))
      go_loopg [7, 33] (l.length + 1) (fun kq v7 v33 w' => ∃ (i : Nat) (L : List Int), v33 = .int .i64 (i : Int) ∧ Aside0 (kq + i = l.length + 1) ∧ Aside0 (i ≤ l.length) ∧ Aside0 L.Nodup ∧ Aside0 (Kd.Q (Kd.int .i64) 3 w' w.heap.size (fun _ => True) v7 L) ∧ Aside0 (IsW w' g L most) ∧ Aside0 (Below w.heap.size w w'))
      case atStart => exact ⟨0, [], rfl, ⟨by omega⟩, ⟨by omega⟩, ⟨List.nodup_nil⟩, ⟨Kd.Q_nil _ _ _ _ _⟩, HI, HB⟩
      case round =>
        clear HI HB
        obtain ⟨i, L, rfl, HK, HL, HN, HQ, HI, HB⟩ := hrel
        obtain ⟨gk0, rfl⟩ : ∃ gk', gk = gk' + 1 := ⟨gk - 1, by have := HK.out; have := HL.out; omega⟩
        obtain ⟨A7, c7, rfl, h7⟩ := Kd.Q_slice HQ.out
        have HLE := Aside0.mk HI.out.len
        by_cases ci : i < l.length
        · have cb : decide ((i : Int) < (l.length : Int)) = true := decide_eq_true (by omega)
          have p101 : 0 ≤ (i : Int) := by omega
          have q101 : (i : Int) < (l.length : Int) := by omega
          obtain ⟨ad101, e101, hx0, hx1⟩ := at_T84 HR.out i p101 q101
          cases e101
          replace hx0 := (HB.out.cell (World.block_lt_of_cell? w _ hx0)).trans hx0
          replace hx1 := (HB.out.cell (World.block_lt_of_cell? w _ hx1)).trans hx1
          simp only [Int.toNat_natCast] at hx0 hx1
          obtain ⟨dx, hdx⟩ : ∃ d, (rd_T84 l i).f0 = d := ⟨_, rfl⟩
          obtain ⟨ix, hix⟩ : ∃ d, (rd_T84 l i).f1 = d := ⟨_, rfl⟩
          rw [hdx] at hx0
          rw [hix] at hx1
          clear hdx hix
          go_upto_region 10 with ((with_reducible refine gate_dst (N := 9) rfl ?_); refine box_event ?hg (N := 9) ?hd (cs := #[.int .i64 0, .int .i64 0]) (t := 84) ?hr ?_; (case hd => rfl); (case hg => rfl); (case hr => first | (go_simp; done) | (go_simp; rfl)); intro gb hgb wb hbox hb; have BK := Aside0.mk hbox; have NG := Aside0.mk (show g ≠ gb from fun e_ => by have := HI.out.lt; omega); have GE := Aside0.mk (show w.heap.size ≤ gb by rw [hgb]; exact HB.out.size); have HI_ := Aside0.mk (HI.out.below hb); have HQ_ := Aside0.mk (Kd.Q_below HQ.out hb); have HB_ := Aside0.mk (below_step HB.out hb); clear HI HQ HB hbox hb hgb; have HI := HI_; have HQ := HQ_; have HB := HB_; clear HI_ HQ_ HB_; have hz0 : wb.cell? ⟨gb, 0, none⟩ = some (.int .i64 0) := (blk_cell BK.out 0).trans rfl; have hz1 : wb.cell? ⟨gb, 1, none⟩ = some (.int .i64 0) := (blk_cell BK.out 1).trans rfl; have hf0 := blk_frozen BK.out 0; have hf1 := blk_frozen BK.out 1)
          (try simp only [Act.put, List.setIfInBounds_toArray, List.set_cons_zero, List.set_cons_succ])
          generalize hW2 : (World.setCell (World.setCell wb ⟨gb, 0, none⟩ (.int .i64 dx)) ⟨gb, 1, none⟩ (.int .i64 ix)) = w2
          have BK_ := Aside0.mk (hW2 ▸ act_store (a := dx) (b := ix) BK.out)
          have HI_ := Aside0.mk (hW2 ▸ (HI.out.far NG.out 0 (.int .i64 dx)).far NG.out 1 (.int .i64 ix))
          have HQ_ := Aside0.mk (hW2 ▸ Kd.Q_set (Kd.Q_set HQ.out BK.out (by decide) 0 (.int .i64 dx)) (blk_set BK.out 0 (.int .i64 dx)) (by decide) 1 (.int .i64 ix))
          have HB_ := Aside0.mk (hW2 ▸ below_set (below_set HB.out GE.out) GE.out)
          clear hz0 hz1 hf0 hf1 BK HI HQ HB
          have BK := BK_
          have HI := HI_
          have HQ := HQ_
          have HB := HB_
          clear BK_ HI_ HQ_ HB_ hW2
          have hz0 : w2.cell? ⟨gb, 0, none⟩ = some (.int .i64 dx) := (blk_cell BK.out 0).trans rfl
          have hz1 : w2.cell? ⟨gb, 1, none⟩ = some (.int .i64 ix) := (blk_cell BK.out 1).trans rfl
          go_upto_block 2 with (fail)
          go_cut [7] (fun v7 wc => ∃ (L' : List Int), Aside0 L'.Nodup ∧ Aside0 (Kd.Q (Kd.int .i64) 3 wc w.heap.size (fun _ => True) v7 L') ∧ Aside0 (IsW wc g L' most) ∧ Aside0 (Below w.heap.size w wc))
          case first =>
            by_cases d0 : dx = 0
            · have k0 : (dx == 0) = true := beq_iff_eq.mpr d0
              clear d0
              by_cases cn : ix ∉ L ∧ (L.length : Int) ≠ most
              · have HN2 := Aside0.mk (show (L ++ [ix]).Nodup from List.nodup_append.2 ⟨HN.out, by simp, by intro a ha b hb; simp at hb; subst hb; intro e_; subst e_; exact cn.1 ha⟩)
                go_wp2_with (first | (go_at_call 41; with_reducible refine (Put_at g L most ix 0 (L ++ [ix]) _ (putE_new cn.1 cn.2) (putL_new cn.1 cn.2) HI.out).mono ?_; rintro e w' ⟨rfl, hI, hn⟩; have HI_ := Aside0.mk (hI); have HB_ := Aside0.mk (hn.bel2 HG.out HB.out); have HQ_ := Aside0.mk (HI.out.q_keep HQ.out hn); have BK_ := Aside0.mk (KeepBut.blk hn.keep BK.out NG.out.symm (by simp)); clear hI hn HI HB HQ BK; have HI := HI_; have HB := HB_; have HQ := HQ_; have BK := BK_; clear HI_ HB_ HQ_ BK_; have hz1 : w'.cell? ⟨gb, 1, none⟩ = some (.int .i64 ix) := (blk_cell BK.out 1).trans rfl) | ((with_reducible refine gate_builtin (b := .append) (xs := #[.tmp 46, .tmp 49]) rfl ?_); at_builtin; refine Kd.Q_append (Kd.int .i64) (w0 := w) w.heap.size rfl (.tmp 46) (.tmp 49) 58 3 (.int .i64 0) 8 rfl Try.underlying58 info3w rfl (by decide) (by omega) _ L ix [.int .i64 ix] (fun _ => True) (fun _ => False) rfl rfl ?aP (fun _ hk => hk.elim) ?aF ?aO ?aB ?aS ?aL ?_; (case aP => exact rfl); (case aF => exact (fun _ _ => trivial)); (case aO => exact HQ.out); (case aB => exact HB.out); (case aS => exact HB.out.size); (case aL => have := HLE.out; omega); intro v115 w16 ho hb hg hat; have HI_ := Aside0.mk (HI.out.grown hg (HI.out.q_ne HQ.out (by decide))); have HQ_ := Aside0.mk ho; have HB_ := Aside0.mk hb; clear HI HQ HB BK ho hb hg hat; have HI := HI_; have HQ := HQ_; have HB := HB_; clear HI_ HQ_ HB_))
                go_meet
                case rel => exact ⟨_, HN2, HQ, HI, HB⟩
              · obtain ⟨pe, hpe⟩ : ∃ e, putE L most ix = e := ⟨_, rfl⟩
                have HPE := Aside0.mk hpe
                have kz : (pe == 0) = false := by rw [← hpe, putE_zero]; exact decide_eq_false cn
                clear hpe
                go_wp2_with (first | (go_at_call 41; with_reducible refine (Put_at g L most ix pe L _ HPE.out (putL_old cn) HI.out).mono ?_; rintro e w' ⟨rfl, hI, hn⟩; have HI_ := Aside0.mk (hI); have HB_ := Aside0.mk (hn.bel2 HG.out HB.out); have HQ_ := Aside0.mk (HI.out.q_keep HQ.out hn); have BK_ := Aside0.mk (KeepBut.blk hn.keep BK.out NG.out.symm (by simp)); clear hI hn HI HB HQ BK; have HI := HI_; have HB := HB_; have HQ := HQ_; have BK := BK_; clear HI_ HB_ HQ_ BK_))
                go_meet
                case rel => exact ⟨_, HN, HQ, HI, HB⟩
            · have k0 : (dx == 0) = false := beq_eq_false_iff_ne.mpr d0
              clear d0
              by_cases d1 : dx = 1
              · have k1 : (dx == 1) = true := beq_iff_eq.mpr d1
                clear d1
                cases L with
                | nil =>
                  go_wp2_with (first | (go_at_call 43; with_reducible refine (Take_at g [] most 0 false [] _ rfl rfl rfl HI.out).mono ?_; rintro e w' ⟨rfl, hI, hn⟩; have HI_ := Aside0.mk (hI); have HB_ := Aside0.mk (hn.bel2 HG.out HB.out); have HQ_ := Aside0.mk (HI.out.q_keep HQ.out hn); have BK_ := Aside0.mk (KeepBut.blk hn.keep BK.out NG.out.symm (by simp)); clear hI hn HI HB HQ BK; have HI := HI_; have HB := HB_; have HQ := HQ_; have BK := BK_; clear HI_ HB_ HQ_ BK_))
                  go_meet
                  case rel => exact ⟨_, HN, HQ, HI, HB⟩
                | cons x T =>
                  obtain ⟨ad, e7, hx7⟩ := head_cell HQ.out
                  cases e7
                  clear hx7
                  have HX7 := Aside0.mk (show ∀ W : World, Kd.Q (Kd.int .i64) 3 W w.heap.size (fun _ => True) (.slice (some ad) (x :: T).length c7) (x :: T) → W.cell? ad = some (.int .i64 x) from fun W h => by obtain ⟨_, e_, h_⟩ := head_cell h; cases e_; exact h_)
                  have kl : (((x :: T).length : Int) == 0) = false := beq_eq_false_iff_ne.mpr (by simp; omega)
                  have kx : (x != x) = false := by simp
                  have kp : decide ((0 : Int) < ((x :: T).length : Int)) = true := decide_eq_true (by simp)
                  obtain ⟨i0q, hi0q, _, hszq, _⟩ := info_parts info3w
                  obtain ⟨A8, hA8⟩ : ∃ A8, (if c7 = (1 : Int).toNat then some ad else (some ad).map (·.add ((1 : Int).toNat * 1))) = A8 := ⟨_, rfl⟩
                  obtain ⟨c8, hc8⟩ : ∃ c8, c7 - (1 : Int).toNat = c8 := ⟨_, rfl⟩
                  have hcut1 : ∀ W : World, (Instr.slice 58 (.slice (some ad) (x :: T).length c7) (some (.int .i64 1)) none none).run Try.prog W = .ok (.slice A8 T.length c8) W := fun W => by
                    have h := cut_from (P := Try.prog) 58 3 .i64 Try.underlying58 hi0q 1 hszq (some ad) (x :: T).length c7 1 (by omega) (by simp; omega) W
                    rw [hA8, hc8] at h
                    exact h
                  have HQD := Aside0.mk (show ∀ W : World, Kd.Q (Kd.int .i64) 3 W w.heap.size (fun _ => True) (.slice (some ad) (x :: T).length c7) (x :: T) → Kd.Q (Kd.int .i64) 3 W w.heap.size (fun _ => True) (.slice A8 T.length c8) T from fun W h => by
                    have h2 := Kd.Q_drop (k := 1) h (by simp)
                    rw [← hA8, ← hc8]
                    exact h2)
                  clear hA8 hc8
                  have hcut2 : ∀ W : World, (Instr.slice 58 (.slice (some ad) (T.length + 1) c7) (some (.int .i64 1)) none none).run Try.prog W = .ok (.slice A8 T.length c8) W := hcut1
                  have HN2 := Aside0.mk (List.nodup_cons.1 HN.out).2
                  go_wp2_with (first | (go_at_call 43; with_reducible refine (Take_at g (x :: T) most x true T _ rfl rfl rfl HI.out).mono ?_; rintro e w' ⟨rfl, hI, hn⟩; have HI_ := Aside0.mk (hI); have HB_ := Aside0.mk (hn.bel2 HG.out HB.out); have HQ_ := Aside0.mk (HI.out.q_keep HQ.out hn); have BK_ := Aside0.mk (KeepBut.blk hn.keep BK.out NG.out.symm (by simp)); clear hI hn HI HB HQ BK; have HI := HI_; have HB := HB_; have HQ := HQ_; have BK := BK_; clear HI_ HB_ HQ_ BK_; have hx7 := HX7.out _ HQ.out))
                  go_meet
                  case rel => exact ⟨T, HN2, ⟨HQD.out _ HQ.out⟩, HI, HB⟩
              · have k1 : (dx == 1) = false := beq_eq_false_iff_ne.mpr d1
                clear d1
                by_cases d2 : dx = 2
                · have k2 : (dx == 2) = true := beq_iff_eq.mpr d2
                  clear d2
                  by_cases cd : ix ∈ L
                  · have cd1 := decide_eq_true cd
                    have HND := Aside0.mk (show (L.filter (· != ix)).Nodup from HN.out.sublist List.filter_sublist)
                    go_wp2_with (first | (go_at_call 45; with_reducible refine (Drop_at g L most ix true (L.filter (· != ix)) _ cd1 (HN.out.erase_eq_filter ix) HI.out).mono ?_; rintro e w' ⟨rfl, hI, hn⟩; have HI_ := Aside0.mk (hI); have HB_ := Aside0.mk (hn.bel2 HG.out HB.out); have HQ_ := Aside0.mk (HI.out.q_keep HQ.out hn); have BK_ := Aside0.mk (KeepBut.blk hn.keep BK.out NG.out.symm (by simp)); clear hI hn HI HB HQ BK; have HI := HI_; have HB := HB_; have HQ := HQ_; have BK := BK_; clear HI_ HB_ HQ_ BK_; have hz1 : w'.cell? ⟨gb, 1, none⟩ = some (.int .i64 ix) := (blk_cell BK.out 1).trans rfl))
                    go_loopg [12, 80] (L.length + 1) (fun kq v12 v80 w' => ∃ (j : Nat), v80 = .int .i64 (j : Int) ∧ Aside0 (kq + j = L.length + 1) ∧ Aside0 (j ≤ L.length) ∧ Aside0 (Kd.Q (Kd.int .i64) 3 w' w.heap.size (fun _ => True) v12 ((L.take j).filter (· != ix))) ∧ Aside0 (Kd.Q (Kd.int .i64) 3 w' w.heap.size (fun k => True ∧ some k ≠ v12.ownBlock) (.slice A7 L.length c7) L) ∧ Aside0 (w'.heap[gb]? = some (.cells #[.int .i64 dx, .int .i64 ix] 84 (0, 0))) ∧ Aside0 (IsW w' g (L.filter (· != ix)) most) ∧ Aside0 (Below w.heap.size w w'))
                    case atStart => exact ⟨0, rfl, ⟨by omega⟩, ⟨by omega⟩, ⟨Kd.Q_of_R (R_empty _ w.heap.size HB.out.size)⟩, ⟨Kd.Q_elder' HQ.out (fun k hk => by simp [Value.ownBlock] at hk; omega) (below_alloc (Below.refl _ _) _)⟩, ⟨blk_alloc BK.out _⟩, ⟨HI.out.alloc _⟩, ⟨below_alloc HB.out _⟩⟩
                    case round =>
                      clear HQ HI HB BK hz1 hz0
                      obtain ⟨j, rfl, HKj, HJ, HO, HQ, BK, HI, HB⟩ := hrel
                      have hz1 : wr.cell? ⟨gb, 1, none⟩ = some (.int .i64 ix) := (blk_cell BK.out 1).trans rfl
                      by_cases cj : j < L.length
                      · have cbj : decide ((j : Int) < (L.length : Int)) = true := decide_eq_true (by omega)
                        have hwj : wrap64 ((j : Int) + 1) = ((j + 1 : Nat) : Int) := by unfold wrap64; have := HLE.out; omega
                        have p102 : 0 ≤ (j : Int) := by omega
                        have q102 : (j : Int) < (L.length : Int) := by omega
                        obtain ⟨ad102, e102, hx102⟩ := Kd.at_int (Kd.Q_reads' HQ.out).2.2 j p102 q102
                        cases e102
                        simp only [Int.toNat_natCast] at hx102
                        obtain ⟨y, hy⟩ : ∃ y, rd L j = y := ⟨_, rfl⟩
                        rw [hy] at hx102
                        rw [rd_nat cj] at hy
                        have HTK := Aside0.mk (show L.take (j + 1) = L.take j ++ [y] from by rw [List.take_add_one, List.getElem?_eq_getElem cj, hy]; rfl)
                        have HFL := Aside0.mk (show ((L.take j).filter (· != ix)).length ≤ L.length from Nat.le_trans (List.length_filter_le _ _) (by rw [List.length_take]; omega))
                        clear hy
                        obtain ⟨gk2, rfl⟩ : ∃ gk', gk = gk' + 1 := ⟨gk - 1, by have := HKj.out; have := HJ.out; omega⟩
                        by_cases cy : y = ix
                        · have ky : (y != ix) = false := by simp [cy]
                          have HY := Aside0.mk (show (L.take (j + 1)).filter (· != ix) = (L.take j).filter (· != ix) from by rw [HTK.out, List.filter_append]; simp [cy])
                          clear cy
                          go_wp2
                          go_roundg gk2
                          case measure => omega
                          case rel => exact ⟨j + 1, congrArg (Value.int .i64) (by omega), ⟨by have := HKj.out; omega⟩, ⟨by omega⟩, ⟨by rw [HY.out]; exact HO.out⟩, HQ, BK, HI, HB⟩
                        · have ky : (y != ix) = true := by simp [cy]
                          have HY := Aside0.mk (show (L.take j).filter (· != ix) ++ [y] = (L.take (j + 1)).filter (· != ix) from by rw [HTK.out, List.filter_append]; simp [cy])
                          clear cy
                          go_wp2_with (first | ((with_reducible refine gate_builtin (b := .append) (xs := #[.tmp 88, .tmp 90]) rfl ?_); at_builtin; refine Kd.Q_append (Kd.int .i64) (w0 := w) w.heap.size rfl (.tmp 88) (.tmp 90) 58 3 (.int .i64 0) 8 rfl Try.underlying58 info3w rfl (by decide) (by omega) _ ((L.take j).filter (· != ix)) y [.int .i64 y] (fun _ => True) (fun _ => False) rfl rfl ?aP (fun _ hk => hk.elim) ?aF ?aO ?aB ?aS ?aL ?_; (case aP => exact rfl); (case aF => exact (fun _ _ => trivial)); (case aO => exact HO.out); (case aB => exact HB.out); (case aS => exact HB.out.size); (case aL => have := HFL.out; have := HLE.out; omega); intro v115 w16 ho hb hg hat; rw [HY.out] at ho; have HI_ := Aside0.mk (HI.out.grown hg (HI.out.q_ne HO.out (by decide))); have BK_ := Aside0.mk ((hg.block gb (blk_lt BK.out) (Kd.Q_ne HO.out BK.out (by decide))).trans BK.out); have HQ_ := Aside0.mk (Kd.Q_after HQ.out hg hat); have HO_ := Aside0.mk ho; have HB_ := Aside0.mk hb; clear HI HQ HB HO BK ho hb hg hat; have HI := HI_; have HQ := HQ_; have HO := HO_; have HB := HB_; have BK := BK_; clear HI_ HQ_ HB_ HO_ BK_))
                          go_roundg gk2
                          case measure => omega
                          case rel => exact ⟨j + 1, congrArg (Value.int .i64) (by omega), ⟨by have := HKj.out; omega⟩, ⟨by omega⟩, HO, HQ, BK, HI, HB⟩
                      · have cbj : decide ((j : Int) < (L.length : Int)) = false := decide_eq_false (by omega)
                        have HT := Aside0.mk (show L.take j = L from List.take_of_length_le (by omega))
                        rw [HT.out] at HO
                        go_wp2
                        go_meet
                        case rel => exact ⟨_, HND, HO, HI, HB⟩
                  · have cd0 := decide_eq_false cd
                    go_wp2_with (first | (go_at_call 45; with_reducible refine (Drop_at g L most ix false L _ cd0 (List.erase_of_not_mem cd) HI.out).mono ?_; rintro e w' ⟨rfl, hI, hn⟩; have HI_ := Aside0.mk (hI); have HB_ := Aside0.mk (hn.bel2 HG.out HB.out); have HQ_ := Aside0.mk (HI.out.q_keep HQ.out hn); have BK_ := Aside0.mk (KeepBut.blk hn.keep BK.out NG.out.symm (by simp)); clear hI hn HI HB HQ BK; have HI := HI_; have HB := HB_; have HQ := HQ_; have BK := BK_; clear HI_ HB_ HQ_ BK_))
                    go_meet
                    case rel => exact ⟨_, HN, HQ, HI, HB⟩
                · have k2 : (dx == 2) = false := beq_eq_false_iff_ne.mpr d2
                  clear d2
                  go_wp2
                  go_meet
                  case rel => exact ⟨_, HN, HQ, HI, HB⟩
          case rest =>
            clear HN HQ HI HB BK HLE h7
            obtain ⟨L', HN, HQ, HI, HB⟩ := hcut
            obtain ⟨A9, c9, rfl, h9⟩ := Kd.Q_slice HQ.out
            have HLE := Aside0.mk HI.out.len
            have HLN := Aside0.mk (show L'.length ≤ 1000000 by have := HLE.out; omega)
            have km : decide (most < (L'.length : Int)) = false := decide_eq_false (by have := HI.out.most_; omega)
            go_wp2_with (first | (go_at_call 47; with_reducible refine (All_calls g _ _ _ HI.out).mono ?_; rintro e w' ⟨v, rfl, ho, hb⟩; obtain ⟨A1, c1, rfl⟩ := Kd.R_slice ho; have HI_ := Aside0.mk (HI.out.below hb); have HB_ := Aside0.mk (below_step HB.out hb); have HQ_ := Aside0.mk (Kd.Q_below HQ.out hb); have HO := Aside0.mk ho; clear ho hb HI HB HQ; have HI := HI_; have HQ := HQ_; have HB := HB_; clear HI_ HB_ HQ_) | (go_at_call 33; with_reducible refine (Same_same A1 c1 _ A9 c9 _ _ rfl HLN.out (Kd.R_reads' HO.out).2.2 (Kd.R_reads' HO.out).2.1 (Kd.Q_reads' HQ.out).2.2 (Kd.Q_reads' HQ.out).2.1).mono ?_; rintro e w1 ⟨rfl, m2, rfl⟩; have HI_ := Aside0.mk (HI.out.drewN m2); have HB_ := Aside0.mk (pw_below_drewN HB.out m2); have HQ_ := Aside0.mk (Kd.Q_drewN HQ.out m2); clear HI HB HQ HO; have HI := HI_; have HB := HB_; have HQ := HQ_; clear HI_ HB_ HQ_))
            go_loopg [107] (L'.length + 1) (fun kq v107 w' => ∃ (j : Nat), v107 = .int .i64 (j : Int) ∧ Aside0 (kq + j = L'.length + 1) ∧ Aside0 (j ≤ L'.length) ∧ Aside0 (Kd.Q (Kd.int .i64) 3 w' w.heap.size (fun _ => True) (.slice A9 L'.length c9) L') ∧ Aside0 (IsW w' g L' most) ∧ Aside0 (Below w.heap.size w w'))
            case atStart => exact ⟨0, rfl, ⟨by omega⟩, ⟨by omega⟩, HQ, HI, HB⟩
            case round =>
              clear HQ HI HB
              obtain ⟨j, rfl, HKj, HJ, HQ, HI, HB⟩ := hrel
              by_cases cj : j < L'.length
              · have cbj : decide ((j : Int) < (L'.length : Int)) = true := decide_eq_true (by omega)
                have hwj : wrap64 ((j : Int) + 1) = ((j + 1 : Nat) : Int) := by unfold wrap64; have := HLE.out; omega
                have p102 : 0 ≤ (j : Int) := by omega
                have q102 : (j : Int) < (L'.length : Int) := by omega
                obtain ⟨ad102, e102, hx102⟩ := Kd.at_int (Kd.Q_reads' HQ.out).2.2 j p102 q102
                cases e102
                simp only [Int.toNat_natCast] at hx102
                obtain ⟨y, hy⟩ : ∃ y, rd L' j = y := ⟨_, rfl⟩
                rw [hy] at hx102
                have HP := Aside0.mk (show posOf L' y = j from by rw [← hy, rd_nat cj]; exact posOf_at HN.out j cj)
                clear hy
                have kj : ((j : Int) != (j : Int)) = false := by simp
                obtain ⟨gk2, rfl⟩ : ∃ gk', gk = gk' + 1 := ⟨gk - 1, by have := HKj.out; have := HJ.out; omega⟩
                go_wp2_with (first | (go_at_call 48; with_reducible refine (At_at g L' most y j _ HP.out HI.out).mono ?_; rintro e w' ⟨rfl, hI, hn⟩; have HI_ := Aside0.mk (hI); have HB_ := Aside0.mk (hn.bel2 HG.out HB.out); have HQ_ := Aside0.mk (HI.out.q_keep HQ.out hn); clear hI hn HI HB HQ; have HI := HI_; have HB := HB_; have HQ := HQ_; clear HI_ HB_ HQ_))
                go_roundg gk2
                case measure => omega
                case rel => exact ⟨j + 1, congrArg (Value.int .i64) (by omega), ⟨by have := HKj.out; omega⟩, ⟨by omega⟩, HQ, HI, HB⟩
              · have cbj : decide ((j : Int) < (L'.length : Int)) = false := decide_eq_false (by omega)
                go_wp2
                go_roundg gk0
                case measure => omega
                case rel => exact ⟨i + 1, L', congrArg (Value.int .i64) (by omega), ⟨by have := HK.out; omega⟩, ⟨by omega⟩, HN, HQ, HI, HB⟩
        · have cb : decide ((i : Int) < (l.length : Int)) = false := decide_eq_false (by omega)
          go_wp2
          go_ret
          exact ⟨rfl, HB.out⟩
    · have b2 : decide (200 < (l.length : Int)) = true := decide_eq_true (by omega)
      go_enter Try.func10, Try.ntmps10
      go_wp2_with (first | (go_at_call 38; refine (awake_calls _).mono ?_; rintro e w' ⟨rfl, hb⟩; have HB' := Aside0.mk (below_step HB.out hb); clear hb HB; have HB := HB'; clear HB') | (go_at_call 39; refine (New_ok most _ cm.1 cm.2).mono ?_; rintro e w' ⟨g, rfl, hI, hg, hb⟩; have HI := Aside0.mk hI; have HG := Aside0.mk (Nat.le_trans HB.out.size hg); have HB' := Aside0.mk (below_step HB.out hb); clear hI hg hb HB; have HB := HB'; clear HB'))
      go_ret
      exact ⟨rfl, HB.out⟩
  · go_enter Try.func10, Try.ntmps10
    go_wp2_with (first | (go_at_call 38; refine (awake_calls _).mono ?_; rintro e w' ⟨rfl, hb⟩; have HB' := Aside0.mk (below_step HB.out hb); clear hb HB; have HB := HB'; clear HB') | (go_at_call 39; refine (New_bad most _ cm).mono ?_; rintro e w' ⟨rfl, rfl⟩))
    go_ret
    exact ⟨rfl, HB.out⟩
end Go.Proofs.Ytagmefjpnmjcjaa.Wa
