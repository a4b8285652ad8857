/- ProbeDoes, walked by hand. -/
import Derived.Test.YtagmefjpnmjcjaaPrDocT
import Derived.Test.YtagmefjpnmjcjaaPrDocN
import Derived.Test.YtagmefjpnmjcjaaPrOnceP
import Derived.OpenShut
namespace Go.Proofs.Ytagmefjpnmjcjaa.Pr
open Go.RowKit Go.Proofs.YtagmefjpnmjcjaaW.PrintWords Go.Proofs.YtagmefjpnmjcjaaW.PrintLast Go.Proofs.YtagmefjpnmjcjaaW.PrintMore
open Go.Proofs.Ytagmefjpnmjcjaa.Wa (Near Near.refl Near.drewN Near.set_ Near.keep Near.bel2 info3w Near.of_below Near.then_below Near.grown Near.size_ Near.drew1 Near.far Same_same C_one)
open Go.Proofs.Ytagmefjpnmjcjaa.Px (signalmanlaw13_large.calls signalmanlaw13_large.f signalmanlaw13_large.l0 S56 k56 rd_T56 at_T56 z56)
attribute [local go_sem] max2_int min2_int max_two min_two
set_option linter.unusedVariables false
set_option linter.unusedSimpArgs false

theorem wf_u64_nonneg2 {n : Int} (h : (Lit.int .u64 n).wf = true) : 0 ≤ n := (bounds_u64 h).1
theorem act_store56' {wb : World} {gb : Nat} {a b c : Int} (h : wb.heap[gb]? = some (.cells #[.int .i64 0, .int .i64 0, .int .u64 0] 56 (0, 0))) : (((wb.setCell ⟨gb, 0, none⟩ (.int .i64 a)).setCell ⟨gb, 1, none⟩ (.int .i64 b)).setCell ⟨gb, 2, none⟩ (.int .u64 c)).heap[gb]? = some (.cells #[.int .i64 a, .int .i64 b, .int .u64 c] 56 (0, 0)) := by
  simpa using blk_set (blk_set (blk_set h 0 (.int .i64 a)) 1 (.int .i64 b)) 2 (.int .u64 c)
/-- What holds between the acts. -/
def InvD (i : Nat) (now ls : Int) (D : List Int) : Prop := D.length = 18 ∧ 0 ≤ now ∧ now ≤ (i : Int) * 1048576 ∧ 0 ≤ ls ∧ ls ≤ (i : Int) * 6 ∧ ∀ j : Nat, j < 6 → 0 ≤ nd D (j * 3 + 2) ∧ nd D (j * 3 + 2) ≤ now
theorem InvD.start : InvD 0 0 0 (newD 6) := by
  refine ⟨rfl, by omega, by omega, by omega, by omega, fun j hj => ?_⟩
  have : j = 0 ∨ j = 1 ∨ j = 2 ∨ j = 3 ∨ j = 4 ∨ j = 5 := by omega
  rcases this with rfl | rfl | rfl | rfl | rfl | rfl <;> exact ⟨by decide, by decide⟩
theorem InvD.stay {i : Nat} {now ls : Int} {D : List Int} (h : InvD i now ls D) : InvD (i + 1) now ls D := by
  obtain ⟨h1, h2, h3, h4, h5, h6⟩ := h
  exact ⟨h1, h2, by omega, h4, by omega, h6⟩
theorem InvD.answer {i : Nat} {now ls : Int} {D : List Int} (h : InvD i now ls D) (x ix : Int) (mn : Nat) : InvD (i + 1) now ls (if x ≠ 0 ∧ outOf D mn ix = x then D.set (ix.toNat * 3 + 1) 0 else D) := by
  split
  · obtain ⟨h1, h2, h3, h4, h5, h6⟩ := h
    refine ⟨by simpa using h1, h2, by omega, h4, by omega, fun j hj => ?_⟩
    by_cases c : ix.toNat * 3 + 1 < D.length
    · rw [nd_set c, if_neg (by omega)]; exact h6 j hj
    · rw [List.set_eq_of_length_le (by omega)]; exact h6 j hj
  · exact h.stay
theorem InvD.tick {i : Nat} {now ls N ev la : Int} {D : List Int} (h : InvD i now ls D) (hN : 0 ≤ N) (hN2 : N ≤ 1048576) (mn : Nat) (hm : mn ≤ 6) {T : TS} (hT : ticks (now + N) ev la ⟨D, ls, [], []⟩ mn = T) : InvD (i + 1) (now + N) T.ls T.D := by
  subst hT
  obtain ⟨h1, h2, h3, h4, h5, h6⟩ := h
  have hl := ticks_ls (now := now + N) (ev := ev) (la := la) (s := ⟨D, ls, [], []⟩) mn
  simp only at hl
  refine ⟨by rw [ticks_len]; exact h1, by omega, by omega, by omega, by omega, fun j hj => ?_⟩
  by_cases c : j < mn
  · rw [(T_D (now := now + N) (ev := ev) (la := la) (ls := ls) h1 mn hm j c).2.1]
    split
    · omega
    · have := h6 j hj; omega
  · rw [nd_ticks h1 mn _ hm (by omega)]; have := h6 j hj; simp only; omega
theorem InvD.dlen {i : Nat} {now ls : Int} {D : List Int} (h : InvD i now ls D) : D.length = 18 := h.1
theorem InvD.now_ {i : Nat} {now ls : Int} {D : List Int} (h : InvD i now ls D) : 0 ≤ now ∧ now ≤ (i : Int) * 1048576 := ⟨h.2.1, h.2.2.1⟩
theorem InvD.ls_ {i : Nat} {now ls : Int} {D : List Int} (h : InvD i now ls D) : 0 ≤ ls ∧ ls ≤ (i : Int) * 6 := ⟨h.2.2.2.1, h.2.2.2.2.1⟩
theorem InvD.asked {i : Nat} {now ls : Int} {D : List Int} (h : InvD i now ls D) : ∀ j : Nat, j < 6 → 0 ≤ nd D (j * 3 + 2) ∧ nd D (j * 3 + 2) ≤ now := h.2.2.2.2.2
theorem DTick_at (q : Blk) (n : Nat) (E : List Int) (ev la ls now : Int) (w : World) (T : TS) (na nl : Nat) (hT : ticks now ev la ⟨E, ls, [], []⟩ n = T) (hna : T.asks.length = na) (hnl : T.lates.length = nl) (hI : IsD w q n E ev la ls) (hn0 : 0 ≤ now) (hn : now ≤ 1000000000000) (hev : 0 ≤ ev ∧ ev ≤ 1000) (hla : 0 ≤ la ∧ la ≤ 1000) (hls : 0 ≤ ls ∧ ls ≤ 1000000000000) (has : ∀ i < 6, 0 ≤ nd E (i * 3 + 2) ∧ nd E (i * 3 + 2) ≤ now) :
    Calls Try.prog 30 #[.pointer (some ⟨q.g, 0, none⟩), .int .u64 now] w fun e w' => ∃ A1 c1 A2 c2, e = .returned (.tuple #[.slice A1 na c1, .slice A2 nl c2]) ∧
      Kd.R kA 115 w' w.heap.size (fun _ => True) (.slice A1 na c1) T.asks ∧ Kd.R (Kd.int .i64) 3 w' w.heap.size (fun _ => True) (.slice A2 nl c2) T.lates ∧ IsD w' q n T.D ev la T.ls ∧ NearD w w' q := by
  subst hT hna hnl
  have hn6 := hI.n6
  have hl := hI.len
  refine (DTick_calls q n E ev la ls now w hI hn0 hn hev hla hls has).mono ?_
  rintro e w' ⟨va, vl, rfl, h1, h2, h3, h4⟩
  obtain ⟨g1, g2, g3, g4⟩ := pass2_T (now := now) (ev := ev) (la := la) (ls := ls) hl n hn6 n (Nat.le_refl _)
  have g5 := pass1_lates (now := now) (ev := ev) (la := la) (ls := ls) hl n hn6
  rw [g2] at h1
  rw [g5] at h2
  rw [g1] at h3
  obtain ⟨A1, c1, rfl⟩ := Kd.R_slice h1
  obtain ⟨A2, c2, rfl⟩ := Kd.R_slice h2
  exact ⟨A1, c1, A2, c2, rfl, h1, h2, h3.cong (by rw [ticks_len]; exact hl) g3, h4⟩
theorem outOf_in2 {D : List Int} {mn i : Nat} (h : i < mn) : outOf D mn i = nd D (i * 3 + 1) := by unfold outOf; rw [if_pos (by omega), Int.toNat_natCast]
theorem dueOf_in2 {D : List Int} {mn i : Nat} (h : i < mn) : dueOf D mn i = nd D (i * 3) := by unfold dueOf; rw [if_pos (by omega), Int.toNat_natCast]
theorem outOf_no {D : List Int} {mn i : Int} (h : ¬ (0 ≤ i ∧ i < mn)) : outOf D mn i = 0 := by unfold outOf; rw [if_neg h]
theorem dueOf_no {D : List Int} {mn i : Int} (h : ¬ (0 ≤ i ∧ i < mn)) : dueOf D mn i = 0 := by unfold dueOf; rw [if_neg h]
attribute [local irreducible] IsP IsD Near NearD Blk.has InvD

set_option maxHeartbeats 16000000 in
set_option maxRecDepth 100000 in
theorem ProbeDoes_calls (n0 ev la : Int) (A0 : Option Addr) (c0 : Nat) (l : List S56) (w : World) (hr : Kd.C k56 w A0 l.length l) (hc : l.length ≤ c0) (hw0 : (Lit.int .i64 n0).wf = true) (hw1 : (Lit.int .u64 ev).wf = true) (hw2 : (Lit.int .u64 la).wf = true) (hwf : ∀ x ∈ l, (Lit.int .i64 x.f0).wf = true ∧ (Lit.int .i64 x.f1).wf = true ∧ (Lit.int .u64 x.f2).wf = true) :
    Calls Try.prog 6 #[.int .i64 n0, .int .u64 ev, .int .u64 la, .slice A0 l.length c0] w fun e w' => e = .returned (.bool true) ∧ Below w.heap.size w w' := by
  have HB := Aside0.mk (Below.refl w.heap.size w)
  have HA := Aside0.mk hr
  have HCC := Aside0.mk hc
  have HU := Aside0.mk (show ∀ j, j < l.length → 0 ≤ (rd_T56 l (j : Int)).f2 from fun j hj => by
    have h := (hwf _ (List.getElem_mem hj)).2.2
    have e : rd_T56 l (j : Int) = l[j] := by unfold rd_T56; rw [Int.toNat_natCast, List.getD_eq_getElem?_getD, List.getElem?_eq_getElem hj]; rfl
    rw [e]
    exact wf_u64_nonneg2 h)
  clear hr hc hw0 hw1 hw2 hwf
  obtain ⟨kL, r, hlf, hlr⟩ := large_f l
  have HLF := Aside0.mk hlf
  clear hlf
  cases r with
  | true =>
    clear hlr
    go_enter Try.func6, Try.ntmps6
    go_wp2_with (first | (go_at_call 25; with_reducible refine (awake_calls _).mono ?_; rintro e w' ⟨rfl, hb⟩; have HB_ := Aside0.mk (below_step HB.out hb); clear hb HB; have HB := HB_; clear HB_) | (go_at_call 26; with_reducible refine (signalmanlaw13_large.calls kL A0 c0 l _ _ (Kd.C_below HA.out HB.out) HCC.out HLF.out).mono ?_; rintro e w' ⟨rfl, hb⟩; have HB_ := Aside0.mk (below_step HB.out hb); clear HB; have HB := HB_; clear HB_; clear hb))
    go_ret
    exact ⟨rfl, HB.out⟩
  | false =>
    obtain ⟨hl200, hlN⟩ := hlr rfl
    have HN := Aside0.mk hlN
    clear hlN hlr
    by_cases hok0 : okNew n0 ev la
    · obtain ⟨n, rfl⟩ : ∃ m : Nat, n0 = (m : Int) := ⟨n0.toNat, by unfold okNew at hok0; omega⟩
      have hok : okNew n ev la := hok0
      have HM6 := Aside0.mk (show n ≤ 6 by unfold okNew at hok; omega)
      have HEV := Aside0.mk (show 0 ≤ ev ∧ ev ≤ 1000 by unfold okNew at hok; omega)
      have HLA := Aside0.mk (show 0 ≤ la ∧ la ≤ 1000 by unfold okNew at hok; omega)
      go_enter Try.func6, Try.ntmps6
      go_wp2_with (first | (go_at_call 25; with_reducible refine (awake_calls _).mono ?_; rintro e w' ⟨rfl, hb⟩; have HB_ := Aside0.mk (below_step HB.out hb); clear hb HB; have HB := HB_; clear HB_) | (go_at_call 26; with_reducible refine (signalmanlaw13_large.calls kL A0 c0 l _ _ (Kd.C_below HA.out HB.out) HCC.out HLF.out).mono ?_; rintro e w' ⟨rfl, hb⟩; have HB_ := Aside0.mk (below_step HB.out hb); clear HB; have HB := HB_; clear HB_; clear hb) | (go_at_call 27; with_reducible refine (New_ok n ev la _ hok).mono ?_; rintro e w' ⟨g, rfl, hI, hg, hb⟩; have HP := Aside0.mk hI; have HG := Aside0.mk (Nat.le_trans HB.out.size hg); have HB_ := Aside0.mk (below_step HB.out hb); clear hI hg hb HB; have HB := HB_; clear HB_) | (go_at_call 28; with_reducible refine (DNew_ok n ev la _ hok).mono ?_; rintro e w' ⟨q, rfl, hI, hg, hb⟩; have HD := Aside0.mk hI; have HQ := Aside0.mk (fun k hk => Nat.le_trans HB.out.size (hg k hk)); have HP_ := Aside0.mk (HP.out.below hb); have HB_ := Aside0.mk (below_step HB.out hb); clear hI hg hb HB HP; have HB := HB_; have HP := HP_; clear HB_ HP_))
      have HNP := Aside0.mk (HD.out.notP HP.out)
      go_loopg [13, 54] (l.length + 1) (fun kq v13 v54 w' => ∃ (i : Nat) (now ls : Int) (D : List Int), v13 = .int .u64 now ∧ v54 = .int .i64 (i : Int) ∧ Aside0 (kq + i = l.length + 1) ∧ Aside0 (i ≤ l.length) ∧ Aside0 (InvD i now ls D) ∧ Aside0 (IsP w' g D n ev la ls) ∧ Aside0 (IsD w' q n D ev la ls) ∧ Aside0 (Below w.heap.size w w'))
      case atStart => exact ⟨0, 0, 0, newD 6, rfl, rfl, ⟨by omega⟩, ⟨by omega⟩, ⟨InvD.start⟩, HP, HD, HB⟩
      case round =>
        clear HP HD HB
        obtain ⟨i, now, ls, D, rfl, rfl, HK, HL, HIV, HP, HD, HB⟩ := hrel
        obtain ⟨gk0, rfl⟩ : ∃ gk', gk = gk' + 1 := ⟨gk - 1, by have := HK.out; have := HL.out; omega⟩
        by_cases ci : i < l.length
        · have cb : decide ((i : Int) < (l.length : Int)) = true := decide_eq_true (by omega)
          have p101 : 0 ≤ (i : Int) := by omega
          have q101 : (i : Int) < (l.length : Int) := by omega
          have hwi : wrap64 ((i : Int) + 1) = ((i + 1 : Nat) : Int) := by unfold wrap64; omega
          obtain ⟨ad101, e101, hx0, hx1, hx2⟩ := at_T56 HA.out i p101 q101
          cases e101
          replace hx0 := (HB.out.cell (World.block_lt_of_cell? w _ hx0)).trans hx0
          replace hx1 := (HB.out.cell (World.block_lt_of_cell? w _ hx1)).trans hx1
          replace hx2 := (HB.out.cell (World.block_lt_of_cell? w _ hx2)).trans hx2
          simp only [Int.toNat_natCast] at hx0 hx1 hx2
          have hN := HN.out i ci
          have hU := HU.out i ci
          obtain ⟨dx, hdx⟩ : ∃ d, (rd_T56 l i).f0 = d := ⟨_, rfl⟩
          obtain ⟨ix, hix⟩ : ∃ d, (rd_T56 l i).f1 = d := ⟨_, rfl⟩
          obtain ⟨nx, hnx⟩ : ∃ d, (rd_T56 l i).f2 = d := ⟨_, rfl⟩
          rw [hdx] at hx0
          rw [hix] at hx1
          rw [hnx] at hx2
          rw [hdx, hnx] at hN
          rw [hnx] at hU
          clear hdx hix hnx
          go_upto_block 2 with ((with_reducible refine gate_dst (N := 15) rfl ?_); refine box_event ?hg (N := 15) ?hd (cs := #[.int .i64 0, .int .i64 0, .int .u64 0]) (t := 56) ?hr ?_; (case hd => rfl); (case hg => rfl); (case hr => first | (go_simp; done) | (go_simp; rfl)); intro gb hgb wb hbox hb; have BK := Aside0.mk hbox; have NG := Aside0.mk (show gb ≠ g from fun e_ => by have := HP.out.lt; omega); have GE := Aside0.mk (show w.heap.size ≤ gb by rw [hgb]; exact HB.out.size); have HD_ := Aside0.mk (HD.out.below hb); clear HD; have HD := HD_; clear HD_; have NQ := Aside0.mk (HD.out.ne BK.out (by decide) (by decide)); have HP_ := Aside0.mk (HP.out.below hb); have HB_ := Aside0.mk (below_step HB.out hb); clear HP HB; have HP := HP_; have HB := HB_; clear HP_ HB_; clear hb hbox hgb; have hz0 := (blk_cell BK.out 0).trans rfl; have hz1 := (blk_cell BK.out 1).trans rfl; have hz2 := (blk_cell BK.out 2).trans rfl; have hf0 := blk_frozen BK.out 0; have hf1 := blk_frozen BK.out 1; have hf2 := blk_frozen BK.out 2)
          (try simp only [Act.put, List.setIfInBounds_toArray, List.set_cons_zero, List.set_cons_succ])
          generalize hW2 : (World.setCell (World.setCell (World.setCell wb ⟨gb, 0, none⟩ (.int .i64 dx)) ⟨gb, 1, none⟩ (.int .i64 ix)) ⟨gb, 2, none⟩ (.int .u64 nx)) = w2
          have BK_ := Aside0.mk (hW2 ▸ act_store56' (a := dx) (b := ix) (c := nx) BK.out)
          have HP_ := Aside0.mk (hW2 ▸ ((HP.out.far NG.out.symm 0 (.int .i64 dx)).far NG.out.symm 1 (.int .i64 ix)).far NG.out.symm 2 (.int .u64 nx))
          have HD_ := Aside0.mk (hW2 ▸ ((HD.out.far NQ.out 0 (.int .i64 dx)).far NQ.out 1 (.int .i64 ix)).far NQ.out 2 (.int .u64 nx))
          have HB_ := Aside0.mk (hW2 ▸ below_set (below_set (below_set HB.out GE.out) GE.out) GE.out)
          clear BK HP HD HB
          have BK := BK_
          have HP := HP_
          have HD := HD_
          have HB := HB_
          clear BK_ HP_ HD_ HB_
          clear hz0 hz1 hz2 hf0 hf1 hf2 hW2
          have hz0 : w2.cell? ⟨gb, 0, none⟩ = some (.int .i64 dx) := (blk_cell BK.out 0).trans rfl
          have hz1 : w2.cell? ⟨gb, 1, none⟩ = some (.int .i64 ix) := (blk_cell BK.out 1).trans rfl
          have hz2 : w2.cell? ⟨gb, 2, none⟩ = some (.int .u64 nx) := (blk_cell BK.out 2).trans rfl
          go_cut [13] (fun v13 wc => ∃ (D' : List Int) (now' ls' : Int), v13 = .int .u64 now' ∧ Aside0 (InvD (i + 1) now' ls' D') ∧ Aside0 (IsP wc g D' n ev la ls') ∧ Aside0 (IsD wc q n D' ev la ls') ∧ Aside0 (wc.heap[gb]? = some (.cells #[.int .i64 dx, .int .i64 ix, .int .u64 nx] 56 (0, 0))) ∧ Aside0 (Below w.heap.size w wc))
          case first =>
            by_cases d0 : dx = 0
            · have k0 : (dx == 0) = true := beq_iff_eq.mpr d0
              have HX0 := Aside0.mk hU
              have HX1 := Aside0.mk (hN d0)
              clear d0
              have hnow := HIV.out.now_
              have hwn : IntKind.u64.wrap (now + nx) = now + nx := by rw [IntKind.wrap_u64]; have := HX1.out; have := HX0.out; omega
              have HNB := Aside0.mk (show 0 ≤ now + nx ∧ now + nx ≤ 1000000000000 by have := HX1.out; have := HX0.out; omega)
              have HLB := Aside0.mk (show 0 ≤ ls ∧ ls ≤ 1000000000000 by have := HIV.out.ls_; omega)
              have HAS := Aside0.mk (show ∀ j < 6, 0 ≤ nd D (j * 3 + 2) ∧ nd D (j * 3 + 2) ≤ now + nx from fun j hj => by have := HIV.out.asked j hj; have := HX0.out; omega)
              have hT6 := ticks_asks (now := now + nx) (ev := ev) (la := la) (s := ⟨D, ls, [], []⟩) n
              have hT6l := ticks_lates (now := now + nx) (ev := ev) (la := la) (s := ⟨D, ls, [], []⟩) n
              simp only [List.length_nil] at hT6 hT6l
              obtain ⟨T, hT⟩ : ∃ T, ticks (now + nx) ev la ⟨D, ls, [], []⟩ n = T := ⟨_, rfl⟩
              rw [hT] at hT6 hT6l
              have HTT := Aside0.mk hT
              obtain ⟨na, hna⟩ : ∃ n, T.asks.length = n := ⟨_, rfl⟩
              obtain ⟨nl, hnl⟩ : ∃ n, T.lates.length = n := ⟨_, rfl⟩
              have HNA := Aside0.mk hna
              have HNL := Aside0.mk hnl
              have HN1000 := Aside0.mk (show na ≤ 1000 by have := HM6.out; omega)
              have HN1M := Aside0.mk (show na ≤ 1000000 by have := HM6.out; omega)
              have HL1M := Aside0.mk (show nl ≤ 1000000 by have := HM6.out; omega)
              have HIV2 := Aside0.mk (HIV.out.tick HX0.out HX1.out n HM6.out hT)
              clear hT hna hnl hT6 hT6l hN hU hnow
              go_wp2_with (first | (go_at_call 29; with_reducible refine (Tick_at g D n ev la ls (now + nx) _ T na nl HTT.out HNA.out HNL.out HP.out HNB.out.1 HNB.out.2 HEV.out HLB.out HAS.out).mono ?_; rintro e w' ⟨A1, c1, A2, c2, rfl, ha, hl, hI, hn⟩; have HRA := Aside0.mk ha; have HRL := Aside0.mk hl; have HD_ := Aside0.mk (HD.out.near hn HNP.out); have HB_ := Aside0.mk (hn.bel2 HG.out HB.out); have BK_ := Aside0.mk (KeepBut.blk hn.keep BK.out NG.out (by simp)); have HP_ := Aside0.mk (hI); clear HD HB BK HP; have HD := HD_; have HB := HB_; have BK := BK_; have HP := HP_; clear HD_ HB_ BK_ HP_; clear ha hl hI hn) | (go_at_call 30; with_reducible refine (DTick_at q n D ev la ls (now + nx) _ T na nl HTT.out HNA.out HNL.out HD.out HNB.out.1 HNB.out.2 HEV.out HLA.out HLB.out HAS.out).mono ?_; rintro e w' ⟨A3, c3, A4, c4, rfl, ha, hl, hI, hn⟩; have HSA := Aside0.mk ha; have HSL := Aside0.mk hl; have HRA_ := Aside0.mk (R_nearD HRA.out HD.out (by decide) hn); have HRL_ := Aside0.mk (R_nearD HRL.out HD.out ht3 hn); have HP_ := Aside0.mk (HP.out.nearD hn HNP.out); have HB_ := Aside0.mk (hn.bel HQ.out HB.out); have BK_ := Aside0.mk (hn.blk BK.out NQ.out); have HD_ := Aside0.mk (hI); clear HRA HRL HP HB BK HD; have HRA := HRA_; have HRL := HRL_; have HP := HP_; have HB := HB_; have BK := BK_; have HD := HD_; clear HRA_ HRL_ HP_ HB_ BK_ HD_; clear ha hl hI hn) | (go_at_call 31; with_reducible refine (Asks_at A5 c5 na A3 c3 T.asks _ HNA.out HN1M.out (R_C HOA.out) (R_le HOA.out) (R_C HSA.out) (R_le HSA.out)).mono ?_; rintro e w' ⟨rfl, hb⟩; have HRA_ := Aside0.mk (Kd.R_below HRA.out hb); have HRL_ := Aside0.mk (Kd.R_below HRL.out hb); have HSA_ := Aside0.mk (Kd.R_below HSA.out hb); have HSL_ := Aside0.mk (Kd.R_below HSL.out hb); have HP_ := Aside0.mk (HP.out.below hb); have HD_ := Aside0.mk (HD.out.below hb); have HB_ := Aside0.mk (below_step HB.out hb); have BK_ := Aside0.mk ((hb.block gb (blk_lt BK.out)).trans BK.out); clear HRA HRL HSA HSL HP HD HB BK; have HRA := HRA_; have HRL := HRL_; have HSA := HSA_; have HSL := HSL_; have HP := HP_; have HD := HD_; have HB := HB_; have BK := BK_; clear HRA_ HRL_ HSA_ HSL_ HP_ HD_ HB_ BK_; clear hb) | (go_at_call 32; with_reducible refine (asks_at A1 c1 na T.asks _ HNA.out (R_C HRA.out) (R_le HRA.out) HN1000.out).mono ?_; rintro e w' ⟨A5, c5, rfl, ho, hb⟩; have HOA := Aside0.mk ho; have HRA_ := Aside0.mk (Kd.R_below HRA.out hb); have HRL_ := Aside0.mk (Kd.R_below HRL.out hb); have HSA_ := Aside0.mk (Kd.R_below HSA.out hb); have HSL_ := Aside0.mk (Kd.R_below HSL.out hb); have HP_ := Aside0.mk (HP.out.below hb); have HD_ := Aside0.mk (HD.out.below hb); have HB_ := Aside0.mk (below_step HB.out hb); have BK_ := Aside0.mk ((hb.block gb (blk_lt BK.out)).trans BK.out); clear HRA HRL HSA HSL HP HD HB BK; have HRA := HRA_; have HRL := HRL_; have HSA := HSA_; have HSL := HSL_; have HP := HP_; have HD := HD_; have HB := HB_; have BK := BK_; clear HRA_ HRL_ HSA_ HSL_ HP_ HD_ HB_ BK_; clear ho hb) | (go_at_call 33; with_reducible refine (Same_at A2 c2 nl A4 c4 T.lates _ HNL.out HL1M.out (R_C HRL.out) (R_le HRL.out) (R_C HSL.out) (R_le HSL.out)).mono ?_; rintro e w' ⟨rfl, hb⟩; have HRA_ := Aside0.mk (Kd.R_below HRA.out hb); have HRL_ := Aside0.mk (Kd.R_below HRL.out hb); have HSA_ := Aside0.mk (Kd.R_below HSA.out hb); have HSL_ := Aside0.mk (Kd.R_below HSL.out hb); have HP_ := Aside0.mk (HP.out.below hb); have HD_ := Aside0.mk (HD.out.below hb); have HB_ := Aside0.mk (below_step HB.out hb); have BK_ := Aside0.mk ((hb.block gb (blk_lt BK.out)).trans BK.out); clear HRA HRL HSA HSL HP HD HB BK; have HRA := HRA_; have HRL := HRL_; have HSA := HSA_; have HSL := HSL_; have HP := HP_; have HD := HD_; have HB := HB_; have BK := BK_; clear HRA_ HRL_ HSA_ HSL_ HP_ HD_ HB_ BK_; clear hb))
              go_meet
              case rel => exact ⟨T.D, now + nx, T.ls, rfl, HIV2, HP, HD, BK, HB⟩
            · have k0 : (dx == 0) = false := beq_eq_false_iff_ne.mpr d0
              clear d0 hN hU
              obtain ⟨oo, hoo⟩ : ∃ o, outOf D n ix = o := ⟨_, rfl⟩
              have HOO := Aside0.mk hoo
              clear hoo
              by_cases d1 : dx = 1
              · have k1 : (dx == 1) = true := by simp [d1]
                clear d1
                obtain ⟨rr, hrr⟩ : ∃ r, decide (nx ≠ 0 ∧ outOf D n ix = nx) = r := ⟨_, rfl⟩
                have HIV2 := Aside0.mk (HIV.out.answer nx ix n)
                obtain ⟨D2, hd2⟩ : ∃ d, (if nx ≠ 0 ∧ outOf D n ix = nx then D.set (ix.toNat * 3 + 1) 0 else D) = d := ⟨_, rfl⟩
                rw [hd2] at HIV2
                have HRR := Aside0.mk hrr
                have HDD := Aside0.mk hd2
                have hbb : (rr != rr) = false := by cases rr <;> rfl
                clear hrr hd2
                go_upto_region 25 with (fail)
                have HP_ := Aside0.mk (HP.out.drew)
                have HD_ := Aside0.mk (HD.out.drew)
                have HB_ := Aside0.mk (below_drew1 HB.out)
                have BK_ := Aside0.mk (blk_drew BK.out)
                clear HP HD HB BK
                have HP := HP_
                have HD := HD_
                have HB := HB_
                have BK := BK_
                clear HP_ HD_ HB_ BK_
                refine start_ (n := 13) (S := fun w' => w'.cell? ⟨gb, 1, none⟩ = some (.int .i64 ix) ∧ w'.cell? ⟨gb, 2, none⟩ = some (.int .u64 nx)) (ds := []) #[false, false, false, false, false, false, false, false, false, false, false, false, false] (by kernel_rfl) rfl rfl ⟨(blk_cell BK.out 1).trans rfl, (blk_cell BK.out 2).trans rfl⟩ (fun hHeld => ?_)
                generalize World.drew w2 = w3 at HP HD HB BK hHeld ⊢
                refine pure_ (i := 0) (N := some 108) (v := ?_) (a' := ?_) #[true, false, false, false, false, false, false, false, false, false, false, false, false] rfl rfl (by kernel_rfl) (fun _ _ _ h => h) (Or.inl ⟨by rfl, ?_⟩) ?_ ?_
                rotate_left
                · intro w'
                  go_simp
                  with_reducible rfl
                rotate_left
                · simp only [Act.put, List.setIfInBounds_toArray, List.set_cons_zero, List.set_cons_succ, i64_w, i32_w]
                  rfl
                refine pure_ (i := 1) (N := some 109) (v := ?_) (a' := ?_) #[true, true, false, false, false, false, false, false, false, false, false, false, false] rfl rfl (by kernel_rfl) (fun _ _ _ h => h) (Or.inl ⟨by rfl, ?_⟩) ?_ ?_
                rotate_left
                · intro w'
                  go_simp
                  with_reducible rfl
                rotate_left
                · simp only [Act.put, List.setIfInBounds_toArray, List.set_cons_zero, List.set_cons_succ, i64_w, i32_w]
                  rfl
                refine pure_ (i := 3) (N := some 111) (v := ?_) (a' := ?_) #[true, true, false, true, false, false, false, false, false, false, false, false, false] rfl rfl (by kernel_rfl) (fun _ _ _ h => h) (Or.inl ⟨by rfl, ?_⟩) ?_ ?_
                rotate_left
                · intro w'
                  go_simp
                  with_reducible rfl
                rotate_left
                · simp only [Act.put, List.setIfInBounds_toArray, List.set_cons_zero, List.set_cons_succ, i64_w, i32_w]
                  rfl
                refine pure_ (i := 6) (N := some 114) (v := ?_) (a' := ?_) #[true, true, false, true, false, false, true, false, false, false, false, false, false] rfl rfl (by kernel_rfl) (fun _ _ _ h => h) (Or.inl ⟨by rfl, ?_⟩) ?_ ?_
                rotate_left
                · intro w'
                  go_simp
                  with_reducible rfl
                rotate_left
                · simp only [Act.put, List.setIfInBounds_toArray, List.set_cons_zero, List.set_cons_succ, i64_w, i32_w]
                  rfl
                refine pure_ (i := 7) (N := some 115) (v := ?_) (a' := ?_) #[true, true, false, true, false, false, true, true, false, false, false, false, false] rfl rfl (by kernel_rfl) (fun _ _ _ h => h) (Or.inl ⟨by rfl, ?_⟩) ?_ ?_
                rotate_left
                · intro w'
                  go_simp
                  with_reducible rfl
                rotate_left
                · simp only [Act.put, List.setIfInBounds_toArray, List.set_cons_zero, List.set_cons_succ, i64_w, i32_w]
                  rfl
                refine pure_ (i := 9) (N := some 117) (v := ?_) (a' := ?_) #[true, true, false, true, false, false, true, true, false, true, false, false, false] rfl rfl (by kernel_rfl) (fun _ _ _ h => h) (Or.inl ⟨by rfl, ?_⟩) ?_ ?_
                rotate_left
                · intro w'
                  go_simp
                  with_reducible rfl
                rotate_left
                · simp only [Act.put, List.setIfInBounds_toArray, List.set_cons_zero, List.set_cons_succ, i64_w, i32_w]
                  rfl
                refine take_ (i := 2) (N := some 110) (v := ?_) (a' := ?_) #[true, true, true, true, false, false, true, true, false, true, false, false, false] rfl rfl (by kernel_rfl) (fun _ _ _ h => h) (Or.inl ⟨by rfl, ?_⟩) hHeld ?_ ?_
                rotate_left
                · rintro w' ⟨s0, s1⟩
                  go_simp
                  with_reducible rfl
                rotate_left
                · simp only [Act.put, List.setIfInBounds_toArray, List.set_cons_zero, List.set_cons_succ, i64_w, i32_w]
                  rfl
                refine take_ (i := 4) (N := some 112) (v := ?_) (a' := ?_) #[true, true, true, true, true, false, true, true, false, true, false, false, false] rfl rfl (by kernel_rfl) (fun _ _ _ h => h) (Or.inl ⟨by rfl, ?_⟩) hHeld ?_ ?_
                rotate_left
                · rintro w' ⟨s0, s1⟩
                  go_simp
                  with_reducible rfl
                rotate_left
                · simp only [Act.put, List.setIfInBounds_toArray, List.set_cons_zero, List.set_cons_succ, i64_w, i32_w]
                  rfl
                refine take_ (i := 8) (N := some 116) (v := ?_) (a' := ?_) #[true, true, true, true, true, false, true, true, true, true, false, false, false] rfl rfl (by kernel_rfl) (fun _ _ _ h => h) (Or.inl ⟨by rfl, ?_⟩) hHeld ?_ ?_
                rotate_left
                · rintro w' ⟨s0, s1⟩
                  go_simp
                  with_reducible rfl
                rotate_left
                · simp only [Act.put, List.setIfInBounds_toArray, List.set_cons_zero, List.set_cons_succ, i64_w, i32_w]
                  rfl
                refine take_ (i := 10) (N := some 118) (v := ?_) (a' := ?_) #[true, true, true, true, true, false, true, true, true, true, true, false, false] rfl rfl (by kernel_rfl) (fun _ _ _ h => h) (Or.inl ⟨by rfl, ?_⟩) hHeld ?_ ?_
                rotate_left
                · rintro w' ⟨s0, s1⟩
                  go_simp
                  with_reducible rfl
                rotate_left
                · simp only [Act.put, List.setIfInBounds_toArray, List.set_cons_zero, List.set_cons_succ, i64_w, i32_w]
                  rfl
                refine one_ (i := 5) (N := some 113) #[true, true, true, true, true, true, true, true, true, true, true, false, false] rfl rfl (by kernel_rfl) (by decide) (fun K hK => ?_)
                refine goes_ Try.func34 (by kernel_rfl) rfl #[.pointer (some ⟨g, 0, none⟩), .int .i64 ix, .int .u64 nx] (by rfl) rfl rfl (by simp only [List.map_toArray, List.map_cons, List.map_nil]; rfl) ?_
                with_reducible refine (Answer_at g D n ev la ls ix nx _ rr D2 HRR.out HDD.out HP.out).mono ?_
                rintro e w4 ⟨rfl, hI, hn⟩
                refine ⟨_, rfl, ?_⟩
                have HD_ := Aside0.mk (HD.out.near hn HNP.out)
                have HB_ := Aside0.mk (hn.bel2 HG.out HB.out)
                have BK_ := Aside0.mk (KeepBut.blk hn.keep BK.out NG.out (by simp))
                have HP_ := Aside0.mk (hI)
                clear HD HB BK HP
                have HD := HD_
                have HB := HB_
                have BK := BK_
                have HP := HP_
                clear HD_ HB_ BK_ HP_
                clear hI hn
                refine hK.out _ _ ⟨(blk_cell BK.out 1).trans rfl, (blk_cell BK.out 2).trans rfl⟩ (fun hHeld => ?_)
                clear hK K
                refine norm_ (a' := ?_) ?_ ?_
                rotate_left
                · show Act.put _ (some 113) _ = _
                  simp only [Act.put, List.setIfInBounds_toArray, List.set_cons_zero, List.set_cons_succ, i64_w, i32_w]
                  rfl
                refine one_ (i := 11) (N := some 119) #[true, true, true, true, true, true, true, true, true, true, true, true, false] rfl rfl (by kernel_rfl) (by decide) (fun K hK => ?_)
                refine goes_ Try.func35 (by kernel_rfl) rfl #[.pointer (some ⟨q.g, 0, none⟩), .int .i64 ix, .int .u64 nx] (by rfl) rfl rfl (by simp only [List.map_toArray, List.map_cons, List.map_nil]; rfl) ?_
                with_reducible refine (DAnswer_at q n D ev la ls ix nx _ rr D2 HRR.out HDD.out HD.out).mono ?_
                rintro e w5 ⟨rfl, hI, hn⟩
                refine ⟨_, rfl, ?_⟩
                have HP_ := Aside0.mk (HP.out.nearD hn HNP.out)
                have HB_ := Aside0.mk (hn.bel HQ.out HB.out)
                have BK_ := Aside0.mk (hn.blk BK.out NQ.out)
                have HD_ := Aside0.mk (hI)
                clear HP HB BK HD
                have HP := HP_
                have HB := HB_
                have BK := BK_
                have HD := HD_
                clear HP_ HB_ BK_ HD_
                clear hI hn
                refine hK.out _ _ ⟨(blk_cell BK.out 1).trans rfl, (blk_cell BK.out 2).trans rfl⟩ (fun hHeld => ?_)
                clear hK K
                refine norm_ (a' := ?_) ?_ ?_
                rotate_left
                · show Act.put _ (some 119) _ = _
                  simp only [Act.put, List.setIfInBounds_toArray, List.set_cons_zero, List.set_cons_succ, i64_w, i32_w]
                  rfl
                refine pure_ (i := 12) (N := some 120) (v := ?_) (a' := ?_) #[true, true, true, true, true, true, true, true, true, true, true, true, true] rfl rfl (by kernel_rfl) (fun _ _ _ h => h) (Or.inl ⟨by rfl, ?_⟩) ?_ ?_
                rotate_left
                · intro w'
                  go_simp
                  with_reducible rfl
                rotate_left
                · simp only [Act.put, List.setIfInBounds_toArray, List.set_cons_zero, List.set_cons_succ, i64_w, i32_w]
                  rfl
                refine done_ (by kernel_rfl) ?_

                go_wp2
                go_meet
                case rel => exact ⟨D2, now, ls, rfl, HIV2, HP, HD, BK, HB⟩
              · have k1 : (dx == 1) = false := by simp [d1]
                clear d1
                obtain ⟨rr, hrr⟩ : ∃ r, decide (oo ≠ 0 ∧ outOf D n ix = oo) = r := ⟨_, rfl⟩
                have HIV2 := Aside0.mk (HIV.out.answer oo ix n)
                obtain ⟨D2, hd2⟩ : ∃ d, (if oo ≠ 0 ∧ outOf D n ix = oo then D.set (ix.toNat * 3 + 1) 0 else D) = d := ⟨_, rfl⟩
                rw [hd2] at HIV2
                have HRR := Aside0.mk hrr
                have HDD := Aside0.mk hd2
                have hbb : (rr != rr) = false := by cases rr <;> rfl
                clear hrr hd2
                go_upto_region 16 with (first | (go_at_call 36; with_reducible refine (Out_calls g D n ev la ls ix _ HP.out).mono ?_; rw [HOO.out]; rintro e w' ⟨rfl, hb⟩; have HP_ := Aside0.mk (HP.out.below hb); have HD_ := Aside0.mk (HD.out.below hb); have HB_ := Aside0.mk (below_step HB.out hb); have BK_ := Aside0.mk ((hb.block gb (blk_lt BK.out)).trans BK.out); clear HP HD HB BK; have HP := HP_; have HD := HD_; have HB := HB_; have BK := BK_; clear HP_ HD_ HB_ BK_; clear hb; have hz0 : w'.cell? ⟨gb, 0, none⟩ = some (.int .i64 dx) := (blk_cell BK.out 0).trans rfl; have hz1 : w'.cell? ⟨gb, 1, none⟩ = some (.int .i64 ix) := (blk_cell BK.out 1).trans rfl; have hz2 : w'.cell? ⟨gb, 2, none⟩ = some (.int .u64 nx) := (blk_cell BK.out 2).trans rfl))
                have HP_ := Aside0.mk (HP.out.drew)
                have HD_ := Aside0.mk (HD.out.drew)
                have HB_ := Aside0.mk (below_drew1 HB.out)
                have BK_ := Aside0.mk (blk_drew BK.out)
                clear HP HD HB BK
                have HP := HP_
                have HD := HD_
                have HB := HB_
                have BK := BK_
                clear HP_ HD_ HB_ BK_
                refine start_ (n := 11) (S := fun w' => w'.cell? ⟨gb, 1, none⟩ = some (.int .i64 ix)) (ds := []) #[false, false, false, false, false, false, false, false, false, false, false] (by kernel_rfl) rfl rfl ((blk_cell BK.out 1).trans rfl) (fun hHeld => ?_)
                generalize World.drew w' = w3 at HP HD HB BK hHeld ⊢
                refine pure_ (i := 0) (N := some 62) (v := ?_) (a' := ?_) #[true, false, false, false, false, false, false, false, false, false, false] rfl rfl (by kernel_rfl) (fun _ _ _ h => h) (Or.inl ⟨by rfl, ?_⟩) ?_ ?_
                rotate_left
                · intro w'
                  go_simp
                  with_reducible rfl
                rotate_left
                · simp only [Act.put, List.setIfInBounds_toArray, List.set_cons_zero, List.set_cons_succ, i64_w, i32_w]
                  rfl
                refine pure_ (i := 1) (N := some 63) (v := ?_) (a' := ?_) #[true, true, false, false, false, false, false, false, false, false, false] rfl rfl (by kernel_rfl) (fun _ _ _ h => h) (Or.inl ⟨by rfl, ?_⟩) ?_ ?_
                rotate_left
                · intro w'
                  go_simp
                  with_reducible rfl
                rotate_left
                · simp only [Act.put, List.setIfInBounds_toArray, List.set_cons_zero, List.set_cons_succ, i64_w, i32_w]
                  rfl
                refine pure_ (i := 3) (N := some 65) (v := ?_) (a' := ?_) #[true, true, false, true, false, false, false, false, false, false, false] rfl rfl (by kernel_rfl) (fun _ _ _ h => h) (Or.inl ⟨by rfl, ?_⟩) ?_ ?_
                rotate_left
                · intro w'
                  go_simp
                  with_reducible rfl
                rotate_left
                · simp only [Act.put, List.setIfInBounds_toArray, List.set_cons_zero, List.set_cons_succ, i64_w, i32_w]
                  rfl
                refine pure_ (i := 5) (N := some 67) (v := ?_) (a' := ?_) #[true, true, false, true, false, true, false, false, false, false, false] rfl rfl (by kernel_rfl) (fun _ _ _ h => h) (Or.inl ⟨by rfl, ?_⟩) ?_ ?_
                rotate_left
                · intro w'
                  go_simp
                  with_reducible rfl
                rotate_left
                · simp only [Act.put, List.setIfInBounds_toArray, List.set_cons_zero, List.set_cons_succ, i64_w, i32_w]
                  rfl
                refine pure_ (i := 6) (N := some 68) (v := ?_) (a' := ?_) #[true, true, false, true, false, true, true, false, false, false, false] rfl rfl (by kernel_rfl) (fun _ _ _ h => h) (Or.inl ⟨by rfl, ?_⟩) ?_ ?_
                rotate_left
                · intro w'
                  go_simp
                  with_reducible rfl
                rotate_left
                · simp only [Act.put, List.setIfInBounds_toArray, List.set_cons_zero, List.set_cons_succ, i64_w, i32_w]
                  rfl
                refine pure_ (i := 8) (N := some 70) (v := ?_) (a' := ?_) #[true, true, false, true, false, true, true, false, true, false, false] rfl rfl (by kernel_rfl) (fun _ _ _ h => h) (Or.inl ⟨by rfl, ?_⟩) ?_ ?_
                rotate_left
                · intro w'
                  go_simp
                  with_reducible rfl
                rotate_left
                · simp only [Act.put, List.setIfInBounds_toArray, List.set_cons_zero, List.set_cons_succ, i64_w, i32_w]
                  rfl
                refine take_ (i := 2) (N := some 64) (v := ?_) (a' := ?_) #[true, true, true, true, false, true, true, false, true, false, false] rfl rfl (by kernel_rfl) (fun _ _ _ h => h) (Or.inl ⟨by rfl, ?_⟩) hHeld ?_ ?_
                rotate_left
                · intro w' s0
                  go_simp
                  with_reducible rfl
                rotate_left
                · simp only [Act.put, List.setIfInBounds_toArray, List.set_cons_zero, List.set_cons_succ, i64_w, i32_w]
                  rfl
                refine take_ (i := 7) (N := some 69) (v := ?_) (a' := ?_) #[true, true, true, true, false, true, true, true, true, false, false] rfl rfl (by kernel_rfl) (fun _ _ _ h => h) (Or.inl ⟨by rfl, ?_⟩) hHeld ?_ ?_
                rotate_left
                · intro w' s0
                  go_simp
                  with_reducible rfl
                rotate_left
                · simp only [Act.put, List.setIfInBounds_toArray, List.set_cons_zero, List.set_cons_succ, i64_w, i32_w]
                  rfl
                refine one_ (i := 4) (N := some 66) #[true, true, true, true, true, true, true, true, true, false, false] rfl rfl (by kernel_rfl) (by decide) (fun K hK => ?_)
                refine goes_ Try.func34 (by kernel_rfl) rfl #[.pointer (some ⟨g, 0, none⟩), .int .i64 ix, .int .u64 oo] (by rfl) rfl rfl (by simp only [List.map_toArray, List.map_cons, List.map_nil]; rfl) ?_
                with_reducible refine (Answer_at g D n ev la ls ix oo _ rr D2 HRR.out HDD.out HP.out).mono ?_
                rintro e w4 ⟨rfl, hI, hn⟩
                refine ⟨_, rfl, ?_⟩
                have HD_ := Aside0.mk (HD.out.near hn HNP.out)
                have HB_ := Aside0.mk (hn.bel2 HG.out HB.out)
                have BK_ := Aside0.mk (KeepBut.blk hn.keep BK.out NG.out (by simp))
                have HP_ := Aside0.mk (hI)
                clear HD HB BK HP
                have HD := HD_
                have HB := HB_
                have BK := BK_
                have HP := HP_
                clear HD_ HB_ BK_ HP_
                clear hI hn
                refine hK.out _ _ ((blk_cell BK.out 1).trans rfl) (fun hHeld => ?_)
                clear hK K
                refine norm_ (a' := ?_) ?_ ?_
                rotate_left
                · show Act.put _ (some 66) _ = _
                  simp only [Act.put, List.setIfInBounds_toArray, List.set_cons_zero, List.set_cons_succ, i64_w, i32_w]
                  rfl
                refine one_ (i := 9) (N := some 71) #[true, true, true, true, true, true, true, true, true, true, false] rfl rfl (by kernel_rfl) (by decide) (fun K hK => ?_)
                refine goes_ Try.func35 (by kernel_rfl) rfl #[.pointer (some ⟨q.g, 0, none⟩), .int .i64 ix, .int .u64 oo] (by rfl) rfl rfl (by simp only [List.map_toArray, List.map_cons, List.map_nil]; rfl) ?_
                with_reducible refine (DAnswer_at q n D ev la ls ix oo _ rr D2 HRR.out HDD.out HD.out).mono ?_
                rintro e w5 ⟨rfl, hI, hn⟩
                refine ⟨_, rfl, ?_⟩
                have HP_ := Aside0.mk (HP.out.nearD hn HNP.out)
                have HB_ := Aside0.mk (hn.bel HQ.out HB.out)
                have BK_ := Aside0.mk (hn.blk BK.out NQ.out)
                have HD_ := Aside0.mk (hI)
                clear HP HB BK HD
                have HP := HP_
                have HB := HB_
                have BK := BK_
                have HD := HD_
                clear HP_ HB_ BK_ HD_
                clear hI hn
                refine hK.out _ _ ((blk_cell BK.out 1).trans rfl) (fun hHeld => ?_)
                clear hK K
                refine norm_ (a' := ?_) ?_ ?_
                rotate_left
                · show Act.put _ (some 71) _ = _
                  simp only [Act.put, List.setIfInBounds_toArray, List.set_cons_zero, List.set_cons_succ, i64_w, i32_w]
                  rfl
                refine pure_ (i := 10) (N := some 72) (v := ?_) (a' := ?_) #[true, true, true, true, true, true, true, true, true, true, true] rfl rfl (by kernel_rfl) (fun _ _ _ h => h) (Or.inl ⟨by rfl, ?_⟩) ?_ ?_
                rotate_left
                · intro w'
                  go_simp
                  with_reducible rfl
                rotate_left
                · simp only [Act.put, List.setIfInBounds_toArray, List.set_cons_zero, List.set_cons_succ, i64_w, i32_w]
                  rfl
                refine done_ (by kernel_rfl) ?_

                go_wp2
                go_meet
                case rel => exact ⟨D2, now, ls, rfl, HIV2, HP, HD, BK, HB⟩
          case rest =>
            clear HP HD HB BK HIV hz0 hz1 hz2 hN hU
            obtain ⟨D', now', ls', rfl, HIV, HP, HD, BK, HB⟩ := hcut
            go_wp2
            go_loopg [122] (n + 1) (fun kq v122 w' => ∃ (j : Nat), v122 = .int .i64 (j : Int) ∧ Aside0 (kq + j = n + 1) ∧ Aside0 (j ≤ n) ∧ Aside0 (IsP w' g D' n ev la ls') ∧ Aside0 (IsD w' q n D' ev la ls') ∧ Aside0 (w'.heap[gb]? = some (.cells #[.int .i64 dx, .int .i64 ix, .int .u64 nx] 56 (0, 0))) ∧ Aside0 (Below w.heap.size w w'))
            case atStart => exact ⟨0, rfl, ⟨by omega⟩, ⟨by omega⟩, HP, HD, BK, HB⟩
            case round =>
              clear HP HD HB BK
              obtain ⟨j, rfl, HKJ, HJL, HP, HD, BK, HB⟩ := hrel
              by_cases cj : j < n
              · have cjb : decide ((j : Int) < (n : Int)) = true := decide_eq_true (by omega)
                have cjn : decide (j < n) = true := decide_eq_true cj
                obtain ⟨gk1, rfl⟩ : ∃ gk', gk = gk' + 1 := ⟨gk - 1, by have := HKJ.out; omega⟩
                have hwj : wrap64 ((j : Int) + 1) = ((j + 1 : Nat) : Int) := by have := HM6.out; unfold wrap64; omega
                have pj : 0 ≤ (j : Int) := by omega
                have pj2 : (j : Int) < (n : Int) := by omega
                obtain ⟨o, ho⟩ : ∃ o, nd D' (j * 3 + 1) = o := ⟨_, rfl⟩
                obtain ⟨d, hd⟩ : ∃ d, nd D' (j * 3) = d := ⟨_, rfl⟩
                have HOJ := Aside0.mk ho
                have HDJ := Aside0.mk hd
                have HO2 := Aside0.mk (show outOf D' n j = o by rw [outOf_in2 cj, ho])
                have HD2 := Aside0.mk (show dueOf D' n j = d by rw [dueOf_in2 cj, hd])
                have hbo : (o != o) = false := by simp
                have hbd : (d != d) = false := by simp
                clear ho hd
                go_upto_region 30 with (fail)
                have HP_ := Aside0.mk (HP.out.drew)
                have HD_ := Aside0.mk (HD.out.drew)
                have HB_ := Aside0.mk (below_drew1 HB.out)
                have BK_ := Aside0.mk (blk_drew BK.out)
                clear HP HD HB BK
                have HP := HP_
                have HD := HD_
                have HB := HB_
                have BK := BK_
                clear HP_ HD_ HB_ BK_
                refine start_ (n := 24) (S := fun w' => w'.cell? ⟨q.g, 1, none⟩ = some (.slice (some ⟨q.b1, 0, none⟩) n q.c1) ∧ w'.cell? ⟨q.b1, j, none⟩ = some (.int .u64 o) ∧ w'.cell? ⟨q.g, 0, none⟩ = some (.slice (some ⟨q.b0, 0, none⟩) n q.c0) ∧ w'.cell? ⟨q.b0, j, none⟩ = some (.int .u64 d)) (ds := []) #[false, false, false, false, false, false, false, false, false, false, false, false, false, false, false, false, false, false, false, false, false, false, false, false] (by kernel_rfl) rfl rfl ⟨HD.out.c1, (HD.out.out cj).trans (by rw [HOJ.out]), HD.out.c0, (HD.out.due cj).trans (by rw [HDJ.out])⟩ (fun hHeld => ?_)
                generalize World.drew wr = w4 at HP HD HB BK hHeld ⊢
                refine pure_ (i := 0) (N := some 125) (v := ?_) (a' := ?_) #[true, false, false, false, false, false, false, false, false, false, false, false, false, false, false, false, false, false, false, false, false, false, false, false] rfl rfl (by kernel_rfl) (fun _ _ _ h => h) (Or.inl ⟨by rfl, ?_⟩) ?_ ?_
                rotate_left
                · intro w'
                  go_simp
                  with_reducible rfl
                rotate_left
                · simp only [Act.put, List.setIfInBounds_toArray, List.set_cons_zero, List.set_cons_succ, i64_w, i32_w]
                  rfl
                refine pure_ (i := 1) (N := some 126) (v := ?_) (a' := ?_) #[true, true, false, false, false, false, false, false, false, false, false, false, false, false, false, false, false, false, false, false, false, false, false, false] rfl rfl (by kernel_rfl) (fun _ _ _ h => h) (Or.inl ⟨by rfl, ?_⟩) ?_ ?_
                rotate_left
                · intro w'
                  go_simp
                  with_reducible rfl
                rotate_left
                · simp only [Act.put, List.setIfInBounds_toArray, List.set_cons_zero, List.set_cons_succ, i64_w, i32_w]
                  rfl
                refine pure_ (i := 3) (N := some 128) (v := ?_) (a' := ?_) #[true, true, false, true, false, false, false, false, false, false, false, false, false, false, false, false, false, false, false, false, false, false, false, false] rfl rfl (by kernel_rfl) (fun _ _ _ h => h) (Or.inl ⟨by rfl, ?_⟩) ?_ ?_
                rotate_left
                · intro w'
                  go_simp
                  with_reducible rfl
                rotate_left
                · simp only [Act.put, List.setIfInBounds_toArray, List.set_cons_zero, List.set_cons_succ, i64_w, i32_w]
                  rfl
                refine pure_ (i := 4) (N := some 129) (v := ?_) (a' := ?_) #[true, true, false, true, true, false, false, false, false, false, false, false, false, false, false, false, false, false, false, false, false, false, false, false] rfl rfl (by kernel_rfl) (fun _ _ _ h => h) (Or.inl ⟨by rfl, ?_⟩) ?_ ?_
                rotate_left
                · intro w'
                  go_simp
                  with_reducible rfl
                rotate_left
                · simp only [Act.put, List.setIfInBounds_toArray, List.set_cons_zero, List.set_cons_succ, i64_w, i32_w]
                  rfl
                refine pure_ (i := 5) (N := some 130) (v := ?_) (a' := ?_) #[true, true, false, true, true, true, false, false, false, false, false, false, false, false, false, false, false, false, false, false, false, false, false, false] rfl rfl (by kernel_rfl) (fun _ _ _ h => h) (Or.inl ⟨by rfl, ?_⟩) ?_ ?_
                rotate_left
                · intro w'
                  go_simp
                  with_reducible rfl
                rotate_left
                · simp only [Act.put, List.setIfInBounds_toArray, List.set_cons_zero, List.set_cons_succ, i64_w, i32_w]
                  rfl
                refine pure_ (i := 7) (N := some 132) (v := ?_) (a' := ?_) #[true, true, false, true, true, true, false, true, false, false, false, false, false, false, false, false, false, false, false, false, false, false, false, false] rfl rfl (by kernel_rfl) (fun _ _ _ h => h) (Or.inl ⟨by rfl, ?_⟩) ?_ ?_
                rotate_left
                · intro w'
                  go_simp
                  with_reducible rfl
                rotate_left
                · simp only [Act.put, List.setIfInBounds_toArray, List.set_cons_zero, List.set_cons_succ, i64_w, i32_w]
                  rfl
                refine take_ (i := 6) (N := some 131) (v := ?_) (a' := ?_) #[true, true, false, true, true, true, true, true, false, false, false, false, false, false, false, false, false, false, false, false, false, false, false, false] rfl rfl (by kernel_rfl) (fun _ _ _ h => h) (Or.inl ⟨by rfl, ?_⟩) hHeld ?_ ?_
                rotate_left
                · rintro w' ⟨s0, s1, s2, s3⟩
                  go_simp
                  with_reducible rfl
                rotate_left
                · simp only [Act.put, List.setIfInBounds_toArray, List.set_cons_zero, List.set_cons_succ, i64_w, i32_w]
                  rfl
                refine pure_ (i := 8) (N := some 133) (v := ?_) (a' := ?_) #[true, true, false, true, true, true, true, true, true, false, false, false, false, false, false, false, false, false, false, false, false, false, false, false] rfl rfl (by kernel_rfl) (fun _ _ _ h => h) (Or.inl ⟨by rfl, ?_⟩) ?_ ?_
                rotate_left
                · intro w'
                  go_simp
                  with_reducible rfl
                rotate_left
                · simp only [Act.put, List.setIfInBounds_toArray, List.set_cons_zero, List.set_cons_succ, i64_w, i32_w]
                  rfl
                refine take_ (i := 9) (N := some 134) (v := ?_) (a' := ?_) #[true, true, false, true, true, true, true, true, true, true, false, false, false, false, false, false, false, false, false, false, false, false, false, false] rfl rfl (by kernel_rfl) (fun _ _ _ h => h) (Or.inl ⟨by rfl, ?_⟩) hHeld ?_ ?_
                rotate_left
                · rintro w' ⟨s0, s1, s2, s3⟩
                  go_simp
                  with_reducible rfl
                rotate_left
                · simp only [Act.put, List.setIfInBounds_toArray, List.set_cons_zero, List.set_cons_succ, i64_w, i32_w]
                  rfl
                refine one_ (i := 2) (N := some 127) #[true, true, true, true, true, true, true, true, true, true, false, false, false, false, false, false, false, false, false, false, false, false, false, false] rfl rfl (by kernel_rfl) (by decide) (fun K hK => ?_)
                refine goes_ Try.func36 (by kernel_rfl) rfl #[.pointer (some ⟨g, 0, none⟩), .int .i64 (j : Int)] (by rfl) rfl rfl (by simp only [List.map_toArray, List.map_cons, List.map_nil]; rfl) ?_
                with_reducible refine (Out_calls g D' n ev la ls' j _ HP.out).mono ?_
                rintro e w5 ⟨he, hb⟩
                rw [HO2.out] at he
                subst he
                refine ⟨_, rfl, ?_⟩
                have HP_ := Aside0.mk (HP.out.below hb)
                have HD_ := Aside0.mk (HD.out.below hb)
                have HB_ := Aside0.mk (below_step HB.out hb)
                have BK_ := Aside0.mk ((hb.block gb (blk_lt BK.out)).trans BK.out)
                clear HP HD HB BK
                have HP := HP_
                have HD := HD_
                have HB := HB_
                have BK := BK_
                clear HP_ HD_ HB_ BK_
                clear hb
                refine hK.out _ _ ⟨HD.out.c1, (HD.out.out cj).trans (by rw [HOJ.out]), HD.out.c0, (HD.out.due cj).trans (by rw [HDJ.out])⟩ (fun hHeld => ?_)
                clear hK K
                refine norm_ (a' := ?_) ?_ ?_
                rotate_left
                · show Act.put _ (some 127) _ = _
                  simp only [Act.put, List.setIfInBounds_toArray, List.set_cons_zero, List.set_cons_succ, i64_w, i32_w]
                  rfl
                refine pure_ (i := 10) (N := some 135) (v := ?_) (a' := ?_) #[true, true, true, true, true, true, true, true, true, true, true, false, false, false, false, false, false, false, false, false, false, false, false, false] rfl rfl (by kernel_rfl) (fun _ _ _ h => h) (Or.inl ⟨by rfl, ?_⟩) ?_ ?_
                rotate_left
                · intro w'
                  go_simp
                  with_reducible rfl
                rotate_left
                · simp only [Act.put, List.setIfInBounds_toArray, List.set_cons_zero, List.set_cons_succ, i64_w, i32_w]
                  rfl
                refine pure_ (i := 11) (N := some 136) (v := ?_) (a' := ?_) #[true, true, true, true, true, true, true, true, true, true, true, true, false, false, false, false, false, false, false, false, false, false, false, false] rfl rfl (by kernel_rfl) (fun _ _ _ h => h) (Or.inl ⟨by rfl, ?_⟩) ?_ ?_
                rotate_left
                · intro w'
                  go_simp
                  with_reducible rfl
                rotate_left
                · simp only [Act.put, List.setIfInBounds_toArray, List.set_cons_zero, List.set_cons_succ, i64_w, i32_w]
                  rfl
                refine pure_ (i := 12) (N := some 137) (v := ?_) (a' := ?_) #[true, true, true, true, true, true, true, true, true, true, true, true, true, false, false, false, false, false, false, false, false, false, false, false] rfl rfl (by kernel_rfl) (fun _ _ _ h => h) (Or.inl ⟨by rfl, ?_⟩) ?_ ?_
                rotate_left
                · intro w'
                  go_simp
                  with_reducible rfl
                rotate_left
                · simp only [Act.put, List.setIfInBounds_toArray, List.set_cons_zero, List.set_cons_succ, i64_w, i32_w]
                  rfl
                refine pure_ (i := 13) (N := some 138) (v := ?_) (a' := ?_) #[true, true, true, true, true, true, true, true, true, true, true, true, true, true, false, false, false, false, false, false, false, false, false, false] rfl rfl (by kernel_rfl) (fun _ _ _ h => h) (Or.inl ⟨by rfl, ?_⟩) ?_ ?_
                rotate_left
                · intro w'
                  go_simp
                  with_reducible rfl
                rotate_left
                · simp only [Act.put, List.setIfInBounds_toArray, List.set_cons_zero, List.set_cons_succ, i64_w, i32_w]
                  rfl
                refine pure_ (i := 15) (N := some 140) (v := ?_) (a' := ?_) #[true, true, true, true, true, true, true, true, true, true, true, true, true, true, false, true, false, false, false, false, false, false, false, false] rfl rfl (by kernel_rfl) (fun _ _ _ h => h) (Or.inl ⟨by rfl, ?_⟩) ?_ ?_
                rotate_left
                · intro w'
                  go_simp
                  with_reducible rfl
                rotate_left
                · simp only [Act.put, List.setIfInBounds_toArray, List.set_cons_zero, List.set_cons_succ, i64_w, i32_w]
                  rfl
                refine pure_ (i := 16) (N := some 141) (v := ?_) (a' := ?_) #[true, true, true, true, true, true, true, true, true, true, true, true, true, true, false, true, true, false, false, false, false, false, false, false] rfl rfl (by kernel_rfl) (fun _ _ _ h => h) (Or.inl ⟨by rfl, ?_⟩) ?_ ?_
                rotate_left
                · intro w'
                  go_simp
                  with_reducible rfl
                rotate_left
                · simp only [Act.put, List.setIfInBounds_toArray, List.set_cons_zero, List.set_cons_succ, i64_w, i32_w]
                  rfl
                refine pure_ (i := 17) (N := some 142) (v := ?_) (a' := ?_) #[true, true, true, true, true, true, true, true, true, true, true, true, true, true, false, true, true, true, false, false, false, false, false, false] rfl rfl (by kernel_rfl) (fun _ _ _ h => h) (Or.inl ⟨by rfl, ?_⟩) ?_ ?_
                rotate_left
                · intro w'
                  go_simp
                  with_reducible rfl
                rotate_left
                · simp only [Act.put, List.setIfInBounds_toArray, List.set_cons_zero, List.set_cons_succ, i64_w, i32_w]
                  rfl
                refine pure_ (i := 19) (N := some 144) (v := ?_) (a' := ?_) #[true, true, true, true, true, true, true, true, true, true, true, true, true, true, false, true, true, true, false, true, false, false, false, false] rfl rfl (by kernel_rfl) (fun _ _ _ h => h) (Or.inl ⟨by rfl, ?_⟩) ?_ ?_
                rotate_left
                · intro w'
                  go_simp
                  with_reducible rfl
                rotate_left
                · simp only [Act.put, List.setIfInBounds_toArray, List.set_cons_zero, List.set_cons_succ, i64_w, i32_w]
                  rfl
                refine take_ (i := 18) (N := some 143) (v := ?_) (a' := ?_) #[true, true, true, true, true, true, true, true, true, true, true, true, true, true, false, true, true, true, true, true, false, false, false, false] rfl rfl (by kernel_rfl) (fun _ _ _ h => h) (Or.inl ⟨by rfl, ?_⟩) hHeld ?_ ?_
                rotate_left
                · rintro w' ⟨s0, s1, s2, s3⟩
                  go_simp
                  with_reducible rfl
                rotate_left
                · simp only [Act.put, List.setIfInBounds_toArray, List.set_cons_zero, List.set_cons_succ, i64_w, i32_w]
                  rfl
                refine pure_ (i := 20) (N := some 145) (v := ?_) (a' := ?_) #[true, true, true, true, true, true, true, true, true, true, true, true, true, true, false, true, true, true, true, true, true, false, false, false] rfl rfl (by kernel_rfl) (fun _ _ _ h => h) (Or.inl ⟨by rfl, ?_⟩) ?_ ?_
                rotate_left
                · intro w'
                  go_simp
                  with_reducible rfl
                rotate_left
                · simp only [Act.put, List.setIfInBounds_toArray, List.set_cons_zero, List.set_cons_succ, i64_w, i32_w]
                  rfl
                refine take_ (i := 21) (N := some 146) (v := ?_) (a' := ?_) #[true, true, true, true, true, true, true, true, true, true, true, true, true, true, false, true, true, true, true, true, true, true, false, false] rfl rfl (by kernel_rfl) (fun _ _ _ h => h) (Or.inl ⟨by rfl, ?_⟩) hHeld ?_ ?_
                rotate_left
                · rintro w' ⟨s0, s1, s2, s3⟩
                  go_simp
                  with_reducible rfl
                rotate_left
                · simp only [Act.put, List.setIfInBounds_toArray, List.set_cons_zero, List.set_cons_succ, i64_w, i32_w]
                  rfl
                refine one_ (i := 14) (N := some 139) #[true, true, true, true, true, true, true, true, true, true, true, true, true, true, true, true, true, true, true, true, true, true, false, false] rfl rfl (by kernel_rfl) (by decide) (fun K hK => ?_)
                refine goes_ Try.func37 (by kernel_rfl) rfl #[.pointer (some ⟨g, 0, none⟩), .int .i64 (j : Int)] (by rfl) rfl rfl (by simp only [List.map_toArray, List.map_cons, List.map_nil]; rfl) ?_
                with_reducible refine (Due_calls g D' n ev la ls' j _ HP.out).mono ?_
                rintro e w6 ⟨he, hb⟩
                rw [HD2.out] at he
                subst he
                refine ⟨_, rfl, ?_⟩
                have HP_ := Aside0.mk (HP.out.below hb)
                have HD_ := Aside0.mk (HD.out.below hb)
                have HB_ := Aside0.mk (below_step HB.out hb)
                have BK_ := Aside0.mk ((hb.block gb (blk_lt BK.out)).trans BK.out)
                clear HP HD HB BK
                have HP := HP_
                have HD := HD_
                have HB := HB_
                have BK := BK_
                clear HP_ HD_ HB_ BK_
                clear hb
                refine hK.out _ _ ⟨HD.out.c1, (HD.out.out cj).trans (by rw [HOJ.out]), HD.out.c0, (HD.out.due cj).trans (by rw [HDJ.out])⟩ (fun hHeld => ?_)
                clear hK K
                refine norm_ (a' := ?_) ?_ ?_
                rotate_left
                · show Act.put _ (some 139) _ = _
                  simp only [Act.put, List.setIfInBounds_toArray, List.set_cons_zero, List.set_cons_succ, i64_w, i32_w]
                  rfl
                refine pure_ (i := 22) (N := some 147) (v := ?_) (a' := ?_) #[true, true, true, true, true, true, true, true, true, true, true, true, true, true, true, true, true, true, true, true, true, true, true, false] rfl rfl (by kernel_rfl) (fun _ _ _ h => h) (Or.inl ⟨by rfl, ?_⟩) ?_ ?_
                rotate_left
                · intro w'
                  go_simp
                  with_reducible rfl
                rotate_left
                · simp only [Act.put, List.setIfInBounds_toArray, List.set_cons_zero, List.set_cons_succ, i64_w, i32_w]
                  rfl
                refine pure_ (i := 23) (N := some 148) (v := ?_) (a' := ?_) #[true, true, true, true, true, true, true, true, true, true, true, true, true, true, true, true, true, true, true, true, true, true, true, true] rfl rfl (by kernel_rfl) (fun _ _ _ h => h) (Or.inl ⟨by rfl, ?_⟩) ?_ ?_
                rotate_left
                · intro w'
                  go_simp
                  with_reducible rfl
                rotate_left
                · simp only [Act.put, List.setIfInBounds_toArray, List.set_cons_zero, List.set_cons_succ, i64_w, i32_w]
                  rfl
                refine done_ (by kernel_rfl) ?_

                go_wp2
                go_roundg gk1
                case measure => omega
                case rel => exact ⟨j + 1, congrArg (Value.int .i64) (by omega), ⟨by have := HKJ.out; omega⟩, ⟨by omega⟩, HP, HD, BK, HB⟩
              · have cjb : decide ((j : Int) < (n : Int)) = false := decide_eq_false (by omega)
                have cjn : decide (j < n) = false := decide_eq_false cj
                have hz1 : wr.cell? ⟨gb, 1, none⟩ = some (.int .i64 ix) := (blk_cell BK.out 1).trans rfl
                by_cases x0 : ix < 0
                · have b0 : decide (ix < 0) = true := decide_eq_true x0
                  have HOZ := Aside0.mk (show outOf D' n ix = 0 from outOf_no (by omega))
                  have HDZ := Aside0.mk (show dueOf D' n ix = 0 from dueOf_no (by omega))
                  clear x0
                  go_wp2_with (first | (go_at_call 36; with_reducible refine (Out_calls g D' n ev la ls' ix _ HP.out).mono ?_; rw [HOZ.out]; rintro e w' ⟨rfl, hb⟩; have HP_ := Aside0.mk (HP.out.below hb); have HD_ := Aside0.mk (HD.out.below hb); have HB_ := Aside0.mk (below_step HB.out hb); have BK_ := Aside0.mk ((hb.block gb (blk_lt BK.out)).trans BK.out); clear HP HD HB BK; have HP := HP_; have HD := HD_; have HB := HB_; have BK := BK_; clear HP_ HD_ HB_ BK_; clear hb; have hz0 : w'.cell? ⟨gb, 0, none⟩ = some (.int .i64 dx) := (blk_cell BK.out 0).trans rfl; have hz1 : w'.cell? ⟨gb, 1, none⟩ = some (.int .i64 ix) := (blk_cell BK.out 1).trans rfl; have hz2 : w'.cell? ⟨gb, 2, none⟩ = some (.int .u64 nx) := (blk_cell BK.out 2).trans rfl) | (go_at_call 37; with_reducible refine (Due_calls g D' n ev la ls' ix _ HP.out).mono ?_; rw [HDZ.out]; rintro e w' ⟨rfl, hb⟩; have HP_ := Aside0.mk (HP.out.below hb); have HD_ := Aside0.mk (HD.out.below hb); have HB_ := Aside0.mk (below_step HB.out hb); have BK_ := Aside0.mk ((hb.block gb (blk_lt BK.out)).trans BK.out); clear HP HD HB BK; have HP := HP_; have HD := HD_; have HB := HB_; have BK := BK_; clear HP_ HD_ HB_ BK_; clear hb; have hz0 : w'.cell? ⟨gb, 0, none⟩ = some (.int .i64 dx) := (blk_cell BK.out 0).trans rfl; have hz1 : w'.cell? ⟨gb, 1, none⟩ = some (.int .i64 ix) := (blk_cell BK.out 1).trans rfl; have hz2 : w'.cell? ⟨gb, 2, none⟩ = some (.int .u64 nx) := (blk_cell BK.out 2).trans rfl))
                  go_roundg gk0
                  case measure => omega
                  case rel => exact ⟨i + 1, now', ls', D', rfl, congrArg (Value.int .i64) (by omega), ⟨by have := HK.out; omega⟩, ⟨by omega⟩, HIV, HP, HD, HB⟩
                · have b0 : decide (ix < 0) = false := decide_eq_false x0
                  by_cases x1 : (n : Int) ≤ ix
                  · have b1 : decide ((n : Int) ≤ ix) = true := decide_eq_true x1
                    have HOZ := Aside0.mk (show outOf D' n ix = 0 from outOf_no (by omega))
                    have HDZ := Aside0.mk (show dueOf D' n ix = 0 from dueOf_no (by omega))
                    clear x0 x1
                    go_wp2_with (first | (go_at_call 36; with_reducible refine (Out_calls g D' n ev la ls' ix _ HP.out).mono ?_; rw [HOZ.out]; rintro e w' ⟨rfl, hb⟩; have HP_ := Aside0.mk (HP.out.below hb); have HD_ := Aside0.mk (HD.out.below hb); have HB_ := Aside0.mk (below_step HB.out hb); have BK_ := Aside0.mk ((hb.block gb (blk_lt BK.out)).trans BK.out); clear HP HD HB BK; have HP := HP_; have HD := HD_; have HB := HB_; have BK := BK_; clear HP_ HD_ HB_ BK_; clear hb; have hz0 : w'.cell? ⟨gb, 0, none⟩ = some (.int .i64 dx) := (blk_cell BK.out 0).trans rfl; have hz1 : w'.cell? ⟨gb, 1, none⟩ = some (.int .i64 ix) := (blk_cell BK.out 1).trans rfl; have hz2 : w'.cell? ⟨gb, 2, none⟩ = some (.int .u64 nx) := (blk_cell BK.out 2).trans rfl) | (go_at_call 37; with_reducible refine (Due_calls g D' n ev la ls' ix _ HP.out).mono ?_; rw [HDZ.out]; rintro e w' ⟨rfl, hb⟩; have HP_ := Aside0.mk (HP.out.below hb); have HD_ := Aside0.mk (HD.out.below hb); have HB_ := Aside0.mk (below_step HB.out hb); have BK_ := Aside0.mk ((hb.block gb (blk_lt BK.out)).trans BK.out); clear HP HD HB BK; have HP := HP_; have HD := HD_; have HB := HB_; have BK := BK_; clear HP_ HD_ HB_ BK_; clear hb; have hz0 : w'.cell? ⟨gb, 0, none⟩ = some (.int .i64 dx) := (blk_cell BK.out 0).trans rfl; have hz1 : w'.cell? ⟨gb, 1, none⟩ = some (.int .i64 ix) := (blk_cell BK.out 1).trans rfl; have hz2 : w'.cell? ⟨gb, 2, none⟩ = some (.int .u64 nx) := (blk_cell BK.out 2).trans rfl))
                    go_roundg gk0
                    case measure => omega
                    case rel => exact ⟨i + 1, now', ls', D', rfl, congrArg (Value.int .i64) (by omega), ⟨by have := HK.out; omega⟩, ⟨by omega⟩, HIV, HP, HD, HB⟩
                  · have b1 : decide ((n : Int) ≤ ix) = false := decide_eq_false x1
                    clear x0 x1
                    go_wp2
                    go_roundg gk0
                    case measure => omega
                    case rel => exact ⟨i + 1, now', ls', D', rfl, congrArg (Value.int .i64) (by omega), ⟨by have := HK.out; omega⟩, ⟨by omega⟩, HIV, HP, HD, HB⟩
        · have cb : decide ((i : Int) < (l.length : Int)) = false := decide_eq_false (by omega)
          go_wp2
          go_ret
          exact ⟨rfl, HB.out⟩
    · go_enter Try.func6, Try.ntmps6
      go_wp2_with (first | (go_at_call 25; with_reducible refine (awake_calls _).mono ?_; rintro e w' ⟨rfl, hb⟩; have HB_ := Aside0.mk (below_step HB.out hb); clear hb HB; have HB := HB_; clear HB_) | (go_at_call 26; with_reducible refine (signalmanlaw13_large.calls kL A0 c0 l _ _ (Kd.C_below HA.out HB.out) HCC.out HLF.out).mono ?_; rintro e w' ⟨rfl, hb⟩; have HB_ := Aside0.mk (below_step HB.out hb); clear HB; have HB := HB_; clear HB_; clear hb) | (go_at_call 27; with_reducible refine (New_bad n0 ev la _ hok0).mono ?_; rintro e w' ⟨rfl, rfl⟩) | (go_at_call 28; with_reducible refine (DNew_bad n0 ev la _ hok0).mono ?_; rintro e w' ⟨rfl, rfl⟩))
      go_ret
      exact ⟨rfl, HB.out⟩
end Go.Proofs.Ytagmefjpnmjcjaa.Pr
