/- ProbeOnce, walked by hand. -/
import Derived.Test.YtagmefjpnmjcjaaPrAwake
import Derived.Test.YtagmefjpnmjcjaaPrOnceP
import Derived.OpenShut
namespace Go.Proofs.Ytagmefjpnmjcjaa.Pr
open Go.RowKit Go.Proofs.YtagmefjpnmjcjaaW.PrintWords Go.Proofs.YtagmefjpnmjcjaaW.PrintLast Go.Proofs.YtagmefjpnmjcjaaW.PrintMore
open Go.Proofs.Ytagmefjpnmjcjaa.Wa (Near Near.refl Near.drewN Near.set_ Near.keep Near.bel2 info3w Near.of_below Near.then_below Near.grown Near.size_ Near.drew1 Near.far Same_same C_one)
open Go.Proofs.Ytagmefjpnmjcjaa.Px (signalmanlaw13_large.calls signalmanlaw13_large.f signalmanlaw13_large.l0 S56 k56 rd_T56 at_T56 z56)
attribute [local go_sem] max2_int min2_int max_two min_two
set_option linter.unusedVariables false
set_option linter.unusedSimpArgs false

theorem wf_u64_nonneg {n : Int} (h : (Lit.int .u64 n).wf = true) : 0 ≤ n := (bounds_u64 h).1
theorem act_store56 {wb : World} {gb : Nat} {a b c : Int} (h : wb.heap[gb]? = some (.cells #[.int .i64 0, .int .i64 0, .int .u64 0] 56 (0, 0))) : (((wb.setCell ⟨gb, 0, none⟩ (.int .i64 a)).setCell ⟨gb, 1, none⟩ (.int .i64 b)).setCell ⟨gb, 2, none⟩ (.int .u64 c)).heap[gb]? = some (.cells #[.int .i64 a, .int .i64 b, .int .u64 c] 56 (0, 0)) := by
  simpa using blk_set (blk_set (blk_set h 0 (.int .i64 a)) 1 (.int .i64 b)) 2 (.int .u64 c)
/-- The six times, when each was asked, and 1. -/
def cellsK (K : List Int) : Array Value := (K.map (Value.int .u64)).toArray
theorem cell_K {K : List Int} (hl : K.length = 6) {j : Nat} (hj : j < 6) : (cellsK K)[j]? = some (.int .u64 (nd K j)) := by
  unfold cellsK nd
  rw [List.getElem?_toArray, List.getElem?_map, List.getD_eq_getElem?_getD, List.getElem?_eq_getElem (by omega)]
  rfl
theorem set_K {K : List Int} {j : Nat} (x : Int) : (cellsK K).setIfInBounds j (.int .u64 x) = cellsK (K.set j x) := by
  unfold cellsK
  rw [List.setIfInBounds_toArray, List.map_set]
theorem nd_beyond {K : List Int} (hl : K.length = 6) (j : Nat) (hj : 6 ≤ j) : nd K j = 0 := by unfold nd; rw [List.getD_eq_getElem?_getD, List.getElem?_eq_none (by omega)]; rfl
/-- Is node j among the first k that were asked? -/
def inK (a : List (Int × Int)) (k : Nat) (j : Nat) : Bool := (a.take k).any (fun q => q.1 == (j : Int))
theorem inK_succ {a : List (Int × Int)} {k j : Nat} (hk : k < a.length) : inK a (k + 1) j = (inK a k j || (a[k].1 == (j : Int))) := by
  unfold inK; rw [List.take_add_one, List.getElem?_eq_getElem hk, List.any_append]; simp
theorem inK_all {a : List (Int × Int)} {j : Nat} : inK a a.length j = true ↔ ∃ q ∈ a, q.1 = (j : Int) := by
  unfold inK; rw [List.take_length, List.any_eq_true]; simp
theorem inK_no {a : List (Int × Int)} {k j : Nat} (hk : k ≤ a.length) (h : ∀ k' (hk' : k' < k), (a[k']'(by omega)).1 < (j : Int)) : inK a k j = false := by
  unfold inK
  rw [List.any_eq_false]
  intro q hq
  obtain ⟨n, hn, he⟩ := List.mem_iff_getElem.1 hq
  rw [List.length_take] at hn
  have := h n (by omega)
  rw [List.getElem_take] at he
  rw [he] at this
  simp; omega
theorem cnt_le (D : List Int) : ∀ n, 0 ≤ cnt D n ∧ cnt D n ≤ n
  | 0 => by simp [cnt]
  | n + 1 => by have := cnt_le D n; rw [cnt]; split <;> omega
theorem Inv.dlen {mn : Nat} {ev : Int} {i : Nat} {now last opn : Int} {D K : List Int} (h : Inv mn ev i now last opn D K) : D.length = 18 := h.1
theorem Inv.klen {mn : Nat} {ev : Int} {i : Nat} {now last opn : Int} {D K : List Int} (h : Inv mn ev i now last opn D K) : K.length = 6 := h.2.1
theorem Inv.now_ {mn : Nat} {ev : Int} {i : Nat} {now last opn : Int} {D K : List Int} (h : Inv mn ev i now last opn D K) : 0 ≤ now ∧ now ≤ (i : Int) * 1048576 := ⟨h.2.2.1, h.2.2.2.1⟩
theorem Inv.last_ {mn : Nat} {ev : Int} {i : Nat} {now last opn : Int} {D K : List Int} (h : Inv mn ev i now last opn D K) : 0 ≤ last ∧ last ≤ (i : Int) * 6 := ⟨h.2.2.2.2.1, h.2.2.2.2.2.1⟩
theorem Inv.open_ {mn : Nat} {ev : Int} {i : Nat} {now last opn : Int} {D K : List Int} (h : Inv mn ev i now last opn D K) : opn = cnt D mn := h.2.2.2.2.2.2.1
theorem Inv.asked {mn : Nat} {ev : Int} {i : Nat} {now last opn : Int} {D K : List Int} (h : Inv mn ev i now last opn D K) : ∀ j : Nat, j < 6 → 0 ≤ nd D (j * 3 + 2) ∧ nd D (j * 3 + 2) ≤ now := h.2.2.2.2.2.2.2.1
theorem Inv.start (mn : Nat) (ev : Int) (hm : mn ≤ 6) : Inv mn ev 0 0 0 0 (newD 6) (List.replicate 6 0) := by
  have h1 : ∀ j : Nat, j < 6 → nd (newD 6) (j * 3 + 1) = 0 ∧ nd (newD 6) (j * 3 + 2) = 0 := by
    intro j hj
    have : j = 0 ∨ j = 1 ∨ j = 2 ∨ j = 3 ∨ j = 4 ∨ j = 5 := by omega
    rcases this with rfl | rfl | rfl | rfl | rfl | rfl <;> exact ⟨rfl, rfl⟩
  have hz : ∀ j : Nat, nd (List.replicate 6 (0 : Int)) j = 0 := fun j => by unfold nd; rw [List.getD_eq_getElem?_getD, List.getElem?_replicate]; split <;> rfl
  have hc : ∀ n, n ≤ 6 → cnt (newD 6) n = 0 := by
    intro n
    induction n with
    | zero => intro _; rfl
    | succ n ih => intro hn; rw [cnt, ih (by omega), (h1 n (by omega)).1]; rfl
  refine ⟨rfl, rfl, by omega, by omega, by omega, by omega, (hc mn hm).symm, fun j hj => by rw [(h1 j hj).2]; omega, fun j hj hk => absurd (hz j) hk, fun j hj _ => (h1 j (by omega)).1⟩
theorem outOf_in {D : List Int} {mn i : Nat} (h : i < mn) : outOf D mn i = nd D (i * 3 + 1) := by unfold outOf; rw [if_pos (by omega), Int.toNat_natCast]
theorem outOf_ne {D : List Int} {mn i : Int} (h : outOf D mn i ≠ 0) : 0 ≤ i ∧ i < mn ∧ nd D (i.toNat * 3 + 1) ≠ 0 := by
  unfold outOf at h
  split at h
  · rename_i c; exact ⟨c.1, c.2, h⟩
  · exact absurd rfl h
theorem T_all {now ev la : Int} {D : List Int} {ls : Int} (hl : D.length = 18) (n : Nat) (hn : n ≤ 6) : ∃ T : TS, ticks now ev la ⟨D, ls, [], []⟩ n = T ∧
    (∀ k (hk : k < T.asks.length), (T.asks[k]).2 = ls + k + 1 ∧ ∃ i : Nat, (T.asks[k]).1 = i ∧ i < n ∧ askB now la D i = true ∧ ∀ k' (hk' : k' < k), (T.asks[k']).1 < i) ∧
    (∀ i : Nat, (∃ q ∈ T.asks, q.1 = (i : Int)) ↔ (i < n ∧ askB now la D i = true)) ∧
    (∀ x ∈ T.lates, ∃ i : Nat, x = i ∧ i < n ∧ isLate now la D i = true) ∧ T.ls = ls + T.asks.length ∧ T.asks.length ≤ n ∧ T.lates.length ≤ n :=
  ⟨_, rfl, T_asks hl n hn, T_asked hl n hn, T_lates hl n hn, T_ls hl n hn, by simpa using ticks_asks (now := now) (ev := ev) (la := la) (s := ⟨D, ls, [], []⟩) n, by simpa using ticks_lates (now := now) (ev := ev) (la := la) (s := ⟨D, ls, [], []⟩) n⟩
attribute [local irreducible] IsP Near Inv inK

set_option maxHeartbeats 8000000 in
set_option maxRecDepth 100000 in
theorem ProbeOnce_calls (n ev la : Int) (A0 : Option Addr) (c0 : Nat) (l : List S56) (w : World) (hr : Kd.C k56 w A0 l.length l) (hc : l.length ≤ c0) (hw0 : (Lit.int .i64 n).wf = true) (hw1 : (Lit.int .u64 ev).wf = true) (hw2 : (Lit.int .u64 la).wf = true) (hwf : ∀ x ∈ l, (Lit.int .i64 x.f0).wf = true ∧ (Lit.int .i64 x.f1).wf = true ∧ (Lit.int .u64 x.f2).wf = true) :
    Calls Try.prog 7 #[.int .i64 n, .int .u64 ev, .int .u64 la, .slice A0 l.length c0] w fun e w' => e = .returned (.bool true) ∧ Below w.heap.size w w' := by
  have HB := Aside0.mk (Below.refl w.heap.size w)
  have HA := Aside0.mk hr
  have HCC := Aside0.mk hc
  have HU := Aside0.mk (show ∀ j, j < l.length → 0 ≤ (rd_T56 l (j : Int)).f2 from fun j hj => by
    have h := (hwf _ (List.getElem_mem hj)).2.2
    have e : rd_T56 l (j : Int) = l[j] := by unfold rd_T56; rw [Int.toNat_natCast, List.getD_eq_getElem?_getD, List.getElem?_eq_getElem hj]; rfl
    rw [e]
    exact wf_u64_nonneg h)
  clear hr hc hw0 hw1 hw2 hwf
  obtain ⟨kL, r, hlf, hlr⟩ := large_f l
  have HLF := Aside0.mk hlf
  clear hlf
  by_cases hok : okNew n ev la
  · obtain ⟨mn, rfl⟩ : ∃ m : Nat, n = (m : Int) := ⟨n.toNat, by unfold okNew at hok; omega⟩
    generalize hn_ : (mn : Int) = n at hok
    have HM6 := Aside0.mk (show mn ≤ 6 by unfold okNew at hok; omega)
    have HEV := Aside0.mk (show 0 ≤ ev ∧ ev ≤ 1000 by unfold okNew at hok; omega)
    cases r with
    | true =>
      subst hn_
      clear hlr
      go_enter Try.func7, Try.ntmps7
      go_wp2_with (first | (go_at_call 25; with_reducible refine (awake_calls _).mono ?_; rintro e w' ⟨rfl, hb⟩; have HB_ := Aside0.mk (below_step HB.out hb); clear hb HB; have HB := HB_; clear HB_) | (go_at_call 27; with_reducible refine (New_ok mn ev la _ hok).mono ?_; rintro e w' ⟨g, rfl, hI, hg, hb⟩; have HP := Aside0.mk hI; have HG := Aside0.mk (Nat.le_trans HB.out.size hg); have HB_ := Aside0.mk (below_step HB.out hb); clear hI hg hb HB; have HB := HB_; clear HB_) | (go_at_call 26; with_reducible refine (signalmanlaw13_large.calls kL A0 c0 l _ _ (Kd.C_below HA.out HB.out) HCC.out HLF.out).mono ?_; rintro e w' ⟨rfl, hb⟩; have HP_ := Aside0.mk (HP.out.below hb); have HB_ := Aside0.mk (below_step HB.out hb); clear HP HB; have HP := HP_; have HB := HB_; clear HP_ HB_; clear hb))
      go_ret
      exact ⟨rfl, HB.out⟩
    | false =>
      obtain ⟨hl200, hlN⟩ := hlr rfl
      have HN := Aside0.mk hlN
      subst hn_
      clear hlN
      go_enter Try.func7, Try.ntmps7
      go_wp2_with (first | (go_at_call 25; with_reducible refine (awake_calls _).mono ?_; rintro e w' ⟨rfl, hb⟩; have HB_ := Aside0.mk (below_step HB.out hb); clear hb HB; have HB := HB_; clear HB_) | (go_at_call 27; with_reducible refine (New_ok mn ev la _ hok).mono ?_; rintro e w' ⟨g, rfl, hI, hg, hb⟩; have HP := Aside0.mk hI; have HG := Aside0.mk (Nat.le_trans HB.out.size hg); have HB_ := Aside0.mk (below_step HB.out hb); clear hI hg hb HB; have HB := HB_; clear HB_) | (go_at_call 26; with_reducible refine (signalmanlaw13_large.calls kL A0 c0 l _ _ (Kd.C_below HA.out HB.out) HCC.out HLF.out).mono ?_; rintro e w' ⟨rfl, hb⟩; have HP_ := Aside0.mk (HP.out.below hb); have HB_ := Aside0.mk (below_step HB.out hb); clear HP HB; have HP := HP_; have HB := HB_; clear HP_ HB_; clear hb) | ((with_reducible refine gate_dst (N := 13) rfl ?_); refine box_event ?hg (N := 13) ?hd (cs := #[.int .u64 0, .int .u64 0, .int .u64 0, .int .u64 0, .int .u64 0, .int .u64 0]) (t := 72) ?hr ?_; (case hd => rfl); (case hg => rfl); (case hr => first | (go_simp; done) | (go_simp; rfl)); intro kb hgb wb hbox hb; have HKB := Aside0.mk (show wb.heap[kb]? = some (.cells (cellsK (List.replicate 6 0)) 72 (0, 0)) from hbox); have NGK := Aside0.mk (show kb ≠ g from fun e_ => by have := HP.out.lt; omega); have HGK := Aside0.mk (show w.heap.size ≤ kb by rw [hgb]; exact HB.out.size); have HP_ := Aside0.mk (HP.out.below hb); have HB_ := Aside0.mk (below_step HB.out hb); clear HP HB; have HP := HP_; have HB := HB_; clear HP_ HB_; clear hb hbox hgb))
      go_loopg [11, 12, 14, 45] (l.length + 1) (fun kq v11 v12 v14 v45 w' => ∃ (i : Nat) (now ls opn : Int) (D K : List Int), v11 = .int .u64 now ∧ v12 = .int .u64 ls ∧ v14 = .int .i64 opn ∧ v45 = .int .i64 (i : Int) ∧ Aside0 (kq + i = l.length + 1) ∧ Aside0 (i ≤ l.length) ∧ Aside0 (Inv mn ev i now ls opn D K) ∧ Aside0 (IsP w' g D mn ev la ls) ∧ Aside0 (w'.heap[kb]? = some (.cells (cellsK K) 72 (0, 0))) ∧ Aside0 (Below w.heap.size w w'))
      case atStart => exact ⟨0, 0, 0, 0, newD 6, List.replicate 6 0, rfl, rfl, rfl, rfl, ⟨by omega⟩, ⟨by omega⟩, ⟨Inv.start mn ev HM6.out⟩, HP, HKB, HB⟩
      case round =>
        clear HP HKB HB
        obtain ⟨i, now, ls, opn, D, K, rfl, rfl, rfl, rfl, HK, HL, HIV, HP, HKB, HB⟩ := hrel
        obtain ⟨gk0, rfl⟩ : ∃ kb', gk = kb' + 1 := ⟨gk - 1, by have := HK.out; have := HL.out; omega⟩
        by_cases ci : i < l.length
        · have cb : decide ((i : Int) < (l.length : Int)) = true := decide_eq_true (by omega)
          have p101 : 0 ≤ (i : Int) := by omega
          have q101 : (i : Int) < (l.length : Int) := by omega
          have hwi : wrap64 ((i : Int) + 1) = ((i + 1 : Nat) : Int) := by unfold wrap64; omega
          obtain ⟨ad101, e101, hx0, hx1, hx2⟩ := at_T56 HA.out i p101 q101
          cases e101
          replace hx0 := (HB.out.cell (World.block_lt_of_cell? w _ hx0)).trans hx0
          replace hx1 := (HB.out.cell (World.block_lt_of_cell? w _ hx1)).trans hx1
          replace hx2 := (HB.out.cell (World.block_lt_of_cell? w _ hx2)).trans hx2
          simp only [Int.toNat_natCast] at hx0 hx1 hx2
          have hN := HN.out i ci
          have hU := HU.out i ci
          obtain ⟨dx, hdx⟩ : ∃ d, (rd_T56 l i).f0 = d := ⟨_, rfl⟩
          obtain ⟨ix, hix⟩ : ∃ d, (rd_T56 l i).f1 = d := ⟨_, rfl⟩
          obtain ⟨nx, hnx⟩ : ∃ d, (rd_T56 l i).f2 = d := ⟨_, rfl⟩
          rw [hdx] at hx0
          rw [hix] at hx1
          rw [hnx] at hx2
          rw [hdx, hnx] at hN
          rw [hnx] at hU
          clear hdx hix hnx
          go_upto_region 12 with ((with_reducible refine gate_dst (N := 16) rfl ?_); refine box_event ?hg (N := 16) ?hd (cs := #[.int .i64 0, .int .i64 0, .int .u64 0]) (t := 56) ?hr ?_; (case hd => rfl); (case hg => rfl); (case hr => first | (go_simp; done) | (go_simp; rfl)); intro gb hgb wb hbox hb; have BK := Aside0.mk hbox; have NG := Aside0.mk (show gb ≠ g from fun e_ => by have := HP.out.lt; omega); have NK := Aside0.mk (show gb ≠ kb from fun e_ => by have := blk_lt HKB.out; omega); have GE := Aside0.mk (show w.heap.size ≤ gb by rw [hgb]; exact HB.out.size); have HP_ := Aside0.mk (HP.out.below hb); have HKB_ := Aside0.mk ((hb.block kb (blk_lt HKB.out)).trans HKB.out); have HB_ := Aside0.mk (below_step HB.out hb); clear HP HKB HB; have HP := HP_; have HKB := HKB_; have HB := HB_; clear HP_ HKB_ HB_; clear hb hbox hgb; have hz0 := (blk_cell BK.out 0).trans rfl; have hz1 := (blk_cell BK.out 1).trans rfl; have hz2 := (blk_cell BK.out 2).trans rfl; have hf0 := blk_frozen BK.out 0; have hf1 := blk_frozen BK.out 1; have hf2 := blk_frozen BK.out 2)
          (try simp only [Act.put, List.setIfInBounds_toArray, List.set_cons_zero, List.set_cons_succ])
          generalize hW2 : (World.setCell (World.setCell (World.setCell wb ⟨gb, 0, none⟩ (.int .i64 dx)) ⟨gb, 1, none⟩ (.int .i64 ix)) ⟨gb, 2, none⟩ (.int .u64 nx)) = w2
          have BK_ := Aside0.mk (hW2 ▸ act_store56 (a := dx) (b := ix) (c := nx) BK.out)
          have HP_ := Aside0.mk (hW2 ▸ ((HP.out.far NG.out.symm 0 (.int .i64 dx)).far NG.out.symm 1 (.int .i64 ix)).far NG.out.symm 2 (.int .u64 nx))
          have HKB_ := Aside0.mk (hW2 ▸ blk_far (blk_far (blk_far HKB.out NK.out.symm (.int .i64 dx)) NK.out.symm (.int .i64 ix)) NK.out.symm (.int .u64 nx))
          have HB_ := Aside0.mk (hW2 ▸ below_set (below_set (below_set HB.out GE.out) GE.out) GE.out)
          clear BK HP HKB HB
          have BK := BK_
          have HP := HP_
          have HKB := HKB_
          have HB := HB_
          clear BK_ HP_ HKB_ HB_
          clear hz0 hz1 hz2 hf0 hf1 hf2 hW2
          have hz0 : w2.cell? ⟨gb, 0, none⟩ = some (.int .i64 dx) := (blk_cell BK.out 0).trans rfl
          have hz1 : w2.cell? ⟨gb, 1, none⟩ = some (.int .i64 ix) := (blk_cell BK.out 1).trans rfl
          have hz2 : w2.cell? ⟨gb, 2, none⟩ = some (.int .u64 nx) := (blk_cell BK.out 2).trans rfl
          go_upto_if 51 with (fail)
          go_cut [11, 12, 14] (fun v11 v12 v14 wc => ∃ (D' K' : List Int) (now' last' opn' : Int), v11 = .int .u64 now' ∧ v12 = .int .u64 last' ∧ v14 = .int .i64 opn' ∧ Aside0 (Inv mn ev (i + 1) now' last' opn' D' K') ∧ Aside0 (IsP wc g D' mn ev la last') ∧ Aside0 (wc.heap[kb]? = some (.cells (cellsK K') 72 (0, 0))) ∧ Aside0 (Below w.heap.size w wc))
          case first =>
            by_cases d0 : dx = 0
            · have k0 : (dx != 0) = false := by simp [d0]
              have HX0 := Aside0.mk hU
              have HX1 := Aside0.mk (hN d0)
              clear d0
              have hnow := HIV.out.now_
              have hwn : IntKind.u64.wrap (now + nx) = now + nx := by have := hN; rw [IntKind.wrap_u64]; have := HX1.out; have := HX0.out; omega
              have HNB := Aside0.mk (show 0 ≤ now + nx ∧ now + nx ≤ 1000000000000 by have := HX1.out; have := HX0.out; omega)
              have HLB := Aside0.mk (show 0 ≤ ls ∧ ls ≤ 1000000000000 by have := HIV.out.last_; omega)
              have HAS := Aside0.mk (show ∀ j < 6, 0 ≤ nd D (j * 3 + 2) ∧ nd D (j * 3 + 2) ≤ now + nx from fun j hj => by have := HIV.out.asked j hj; have := HX0.out; omega)
              have HLS := Aside0.mk HIV.out.last_
              have HOB := Aside0.mk (show 0 ≤ opn ∧ opn ≤ 6 by have := HIV.out.open_; have := cnt_le D mn; have := HM6.out; omega)
              have HDL := Aside0.mk HIV.out.dlen
              obtain ⟨T, hT, hTA, hTK, hTL, hTS, hT6, hT6l⟩ := T_all (now := now + nx) (ev := ev) (la := la) (ls := ls) HDL.out mn HM6.out
              have hTI : ∀ K2 : List Int, K2.length = 6 → (∀ j : Nat, j < mn → nd K2 j = if askB (now + nx) la D j then now + nx + 1 else nd K j) → Inv mn ev (i + 1) (now + nx) (ls + T.asks.length) (opn - T.lates.length + T.asks.length) T.D K2 := fun K2 h1 h2 => by
                have h := HIV.out.tick (la := la) (N := nx) (K2 := K2) HM6.out HX0.out HX1.out h1 h2
                rw [hT] at h
                exact h
              have HTT := Aside0.mk hT
              obtain ⟨na, hna⟩ : ∃ n, T.asks.length = n := ⟨_, rfl⟩
              obtain ⟨nl, hnl⟩ : ∃ n, T.lates.length = n := ⟨_, rfl⟩
              have HNA := Aside0.mk hna
              have HNL := Aside0.mk hnl
              have HNA6 := Aside0.mk (show na ≤ 6 by have := HM6.out; omega)
              have HNL6 := Aside0.mk (show nl ≤ 6 by have := HM6.out; omega)
              have HTA := Aside0.mk hTA
              have HTK := Aside0.mk hTK
              have HTL := Aside0.mk hTL
              have HTS := Aside0.mk hTS
              have HTI := Aside0.mk hTI
              have HKL0 := Aside0.mk HIV.out.klen
              have HWO := Aside0.mk (show wrap64 (opn - (nl : Int)) = opn - (nl : Int) by have := HOB.out; have := HNL6.out; unfold wrap64; omega)
              clear hTA hTK hTL hTS hTI hT hna hnl hT6 hT6l hN hU hnow
              go_upto_region 26 with (first | (go_at_call 29; with_reducible refine (Tick_at g D mn ev la ls (now + nx) _ T na nl HTT.out HNA.out HNL.out HP.out HNB.out.1 HNB.out.2 HEV.out HLB.out HAS.out).mono ?_; rintro e w' ⟨A1, c1, A2, c2, rfl, ha, hl, hI, hn⟩; have HRA := Aside0.mk (Kd.R_lower ha HB.out.size); have HRL := Aside0.mk (Kd.R_lower hl HB.out.size); have HKB_ := Aside0.mk (KeepBut.blk hn.keep HKB.out NGK.out (by simp)); have HB_ := Aside0.mk (hn.bel2 HG.out HB.out); have BK_ := Aside0.mk (KeepBut.blk hn.keep BK.out NG.out (by simp)); have HP_ := Aside0.mk (hI); clear HKB HB BK HP; have HKB := HKB_; have HB := HB_; have BK := BK_; have HP := HP_; clear HKB_ HB_ BK_ HP_; clear ha hl hI hn))
              go_wp2
              go_loopg [12, 14, 98] (na + 1) (fun kq v12 v14 v98 w' => ∃ (k : Nat) (Kk : List Int), v12 = .int .u64 (ls + k) ∧ v14 = .int .i64 (opn - nl + k) ∧ v98 = .int .i64 (k : Int) ∧ Aside0 (kq + k = na + 1) ∧ Aside0 (k ≤ na) ∧ Aside0 (Kk.length = 6) ∧ Aside0 (∀ j : Nat, j < mn → nd Kk j = if inK T.asks k j then now + nx + 1 else nd K j) ∧ Aside0 (Kd.R kA 74 w' w.heap.size (fun _ => True) (.slice A1 na c1) T.asks) ∧ Aside0 (Kd.R (Kd.int .i64) 3 w' w.heap.size (fun _ => True) (.slice A2 nl c2) T.lates) ∧ Aside0 (IsP w' g T.D mn ev la T.ls) ∧ Aside0 (w'.heap[kb]? = some (.cells (cellsK Kk) 72 (0, 0))) ∧ Aside0 (Below w.heap.size w w'))
              case atStart => exact ⟨0, K, congrArg (Value.int .u64) (by omega), congrArg (Value.int .i64) (by have := HWO.out; omega), rfl, ⟨by omega⟩, ⟨by omega⟩, HKL0, ⟨fun j hj => by unfold inK; simp⟩, HRA, HRL, HP, HKB, HB⟩
              case round =>
                clear HRA HRL HP HKB HB
                obtain ⟨k, Kk, rfl, rfl, rfl, HKQ, HKLE, HKL, HKN, HRA, HRL, HP, HKB, HB⟩ := hrel
                by_cases ck : k < na
                · have ckb : decide ((k : Int) < (na : Int)) = true := decide_eq_true (by omega)
                  have p1 : 0 ≤ (k : Int) := by omega
                  have p2 : (k : Int) < (na : Int) := by omega
                  obtain ⟨gk1, rfl⟩ : ∃ kb', gk = kb' + 1 := ⟨gk - 1, by have := HKQ.out; omega⟩
                  have hwk : wrap64 ((k : Int) + 1) = ((k + 1 : Nat) : Int) := by have := HNA6.out; unfold wrap64; omega
                  have hkl : k < T.asks.length := by rw [HNA.out]; exact ck
                  obtain ⟨hq2, m, hq1, hmm, hab, hdis⟩ := HTA.out k hkl
                  obtain ⟨ad, e7, hy0, hy1⟩ := at_A (R_C HRA.out) k ck
                  cases e7
                  have hrd : rdA T.asks k = T.asks[k] := by unfold rdA; rw [List.getD_eq_getElem?_getD, List.getElem?_eq_getElem hkl]; rfl
                  rw [hrd, hq1] at hy0
                  rw [hrd, hq2] at hy1
                  have hm6 : m < 6 := by have := HM6.out; omega
                  have hno : inK T.asks k m = false := inK_no (by omega) (fun k' hk' => hdis k' hk')
                  obtain ⟨kv, hkv⟩ : ∃ v, nd Kk m = v := ⟨_, rfl⟩
                  have hkv2 : kv = nd K m := by rw [← hkv, HKN.out m hmm, hno]; rfl
                  have HKV := Aside0.mk hkv
                  have HKN2 := Aside0.mk (show ∀ j : Nat, j < mn → nd (Kk.set m (now + nx + 1)) j = if inK T.asks (k + 1) j then now + nx + 1 else nd K j from fun j hj => by
                    rw [nd_set (by rw [HKL.out]; exact hm6), inK_succ hkl, hq1]
                    by_cases e : m = j
                    · subst e; simp
                    · rw [if_neg e, HKN.out j hj]
                      have : ((m : Int) == (j : Int)) = false := by simp; omega
                      rw [this, Bool.or_false])
                  have honce := fun h => HIV.out.once (la := la) (N := nx) hmm hab h
                  rw [← hkv2] at honce
                  clear hkv hkv2 hno hdis hab hrd hq1 hq2
                  have b1 : decide ((m : Int) < 0) = false := decide_eq_false (by omega)
                  have b2 : decide ((mn : Int) ≤ (m : Int)) = false := decide_eq_false (by omega)
                  have pm : 0 ≤ (m : Int) := by omega
                  have pm6 : (m : Int) < 6 := by omega
                  have hwl : IntKind.u64.wrap (ls + k + 1) = ls + k + 1 := by have := HLS.out; have := HNA6.out; rw [IntKind.wrap_u64]; omega
                  have hbl : (ls + (k : Int) + 1 != ls + (k : Int) + 1) = false := by simp
                  have hwo2 : wrap64 (opn - nl + k + 1) = opn - nl + k + 1 := by have := HOB.out; have := HNL6.out; have := HNA6.out; unfold wrap64; omega
                  have hwn1 : IntKind.u64.wrap (now + nx + 1) = now + nx + 1 := by have := HNB.out; rw [IntKind.wrap_u64]; omega
                  go_upto_region 28 with ((with_reducible refine gate_dst (N := 23) rfl ?_); refine box_event ?hg (N := 23) ?hd (cs := #[.int .i64 0, .int .u64 0]) (t := 74) ?hr ?_; (case hd => rfl); (case hg => rfl); (case hr => first | (go_simp; done) | (go_simp; rfl)); intro gq hgb wb hbox hb; have QK := Aside0.mk hbox; have QG := Aside0.mk (show gq ≠ g from fun e_ => by have := HP.out.lt; omega); have QN := Aside0.mk (show gq ≠ kb from fun e_ => by have := blk_lt HKB.out; omega); have QE := Aside0.mk (show w.heap.size ≤ gq by rw [hgb]; exact HB.out.size); have HRQ := Aside0.mk (Kd.R_mono (Kd.R_below (Kd.R_bound HRA.out) hb) (fun k hk => show k ≠ gq by have := hk.2.2.1; omega)); have HP_ := Aside0.mk (HP.out.below hb); have HKB_ := Aside0.mk ((hb.block kb (blk_lt HKB.out)).trans HKB.out); have HB_ := Aside0.mk (below_step HB.out hb); have HRL_ := Aside0.mk (Kd.R_below HRL.out hb); clear HP HKB HB HRL; have HP := HP_; have HKB := HKB_; have HB := HB_; have HRL := HRL_; clear HP_ HKB_ HB_ HRL_; clear hb hbox hgb HRA; have hz0 := (blk_cell QK.out 0).trans rfl; have hz1 := (blk_cell QK.out 1).trans rfl; have hf0 := blk_frozen QK.out 0; have hf1 := blk_frozen QK.out 1)
                  (try simp only [Act.put, List.setIfInBounds_toArray, List.set_cons_zero, List.set_cons_succ])
                  generalize hW3 : (World.setCell (World.setCell wb ⟨gq, 0, none⟩ (.int .i64 (m : Int))) ⟨gq, 1, none⟩ (.int .u64 (ls + k + 1))) = w3
                  have HRA := Aside0.mk (Kd.R_mono (hW3 ▸ Kd.R_far (p := ⟨gq, 1, none⟩) (Kd.R_far (p := ⟨gq, 0, none⟩) HRQ.out (fun _ hk => hk) (.int .i64 (m : Int))) (fun _ hk => hk) (.int .u64 (ls + k + 1))) (fun _ _ => trivial) : Kd.R kA 74 w3 w.heap.size (fun _ => True) (.slice (some ad) na c1) T.asks)
                  have HRL_ := Aside0.mk (hW3 ▸ Kd.R_set (Kd.R_set HRL.out QK.out (by decide) 0 (.int .i64 (m : Int))) (blk_set QK.out 0 (.int .i64 (m : Int))) (by decide) 1 (.int .u64 (ls + k + 1)))
                  clear HRL
                  have HRL := HRL_
                  clear HRL_ HRQ
                  have QK_ := Aside0.mk (hW3 ▸ ask_store (a := (m : Int)) (b := ls + k + 1) QK.out)
                  have HP_ := Aside0.mk (hW3 ▸ (HP.out.far QG.out.symm 0 (.int .i64 (m : Int))).far QG.out.symm 1 (.int .u64 (ls + k + 1)))
                  have HKB_ := Aside0.mk (hW3 ▸ blk_far (blk_far HKB.out QN.out.symm (.int .i64 (m : Int))) QN.out.symm (.int .u64 (ls + k + 1)))
                  have HB_ := Aside0.mk (hW3 ▸ below_set (below_set HB.out QE.out) QE.out)
                  clear QK HP HKB HB
                  have QK := QK_
                  have HP := HP_
                  have HKB := HKB_
                  have HB := HB_
                  clear QK_ HP_ HKB_ HB_
                  clear hz0 hz1 hf0 hf1 hW3
                  have hz0 : w3.cell? ⟨gq, 0, none⟩ = some (.int .i64 (m : Int)) := (blk_cell QK.out 0).trans rfl
                  have hz1 : w3.cell? ⟨gq, 1, none⟩ = some (.int .u64 (ls + k + 1)) := (blk_cell QK.out 1).trans rfl
                  have hzk : w3.cell? ⟨kb, m, none⟩ = some (.int .u64 kv) := ((blk_cell HKB.out m).trans (cell_K HKL.out (by omega))).trans (by rw [HKV.out])
                  have hfk := blk_frozen HKB.out m
                  by_cases cv : kv = 0
                  · have b3 : (kv != 0) = false := by simp [cv]
                    clear cv honce
                    go_wp2
                    go_roundg gk1
                    case measure => omega
                    case rel => exact ⟨k + 1, Kk.set m (now + nx + 1), congrArg (Value.int .u64) (by omega), congrArg (Value.int .i64) (by omega), congrArg (Value.int .i64) (by omega), ⟨by have := HKQ.out; omega⟩, ⟨by omega⟩, ⟨by simpa using HKL.out⟩, HKN2, ⟨Kd.R_set HRA.out HKB.out (by decide) m _⟩, ⟨Kd.R_set HRL.out HKB.out (by decide) m _⟩, ⟨HP.out.far NGK.out.symm m _⟩, ⟨by rw [← set_K]; exact blk_set HKB.out m _⟩, ⟨below_set HB.out HGK.out⟩⟩
                  · have b3 : (kv != 0) = true := by simp [cv]
                    obtain ⟨ho1, ho2, ho3⟩ := honce cv
                    have hw3 : IntKind.u64.wrap (kv - 1) = kv - 1 := by rw [IntKind.wrap_u64]; have := HNB.out; have := HX0.out; omega
                    have hw4 : IntKind.u64.wrap (now + nx - (kv - 1)) = now + nx - (kv - 1) := by rw [IntKind.wrap_u64]; have := HNB.out; have := HX0.out; omega
                    have b4 : decide (now + nx - (kv - 1) < ev) = false := decide_eq_false (by omega)
                    clear cv honce ho1 ho2 ho3
                    go_wp2
                    go_roundg gk1
                    case measure => omega
                    case rel => exact ⟨k + 1, Kk.set m (now + nx + 1), congrArg (Value.int .u64) (by omega), congrArg (Value.int .i64) (by omega), congrArg (Value.int .i64) (by omega), ⟨by have := HKQ.out; omega⟩, ⟨by omega⟩, ⟨by simpa using HKL.out⟩, HKN2, ⟨Kd.R_set HRA.out HKB.out (by decide) m _⟩, ⟨Kd.R_set HRL.out HKB.out (by decide) m _⟩, ⟨HP.out.far NGK.out.symm m _⟩, ⟨by rw [← set_K]; exact blk_set HKB.out m _⟩, ⟨below_set HB.out HGK.out⟩⟩
                · have ckb : decide ((k : Int) < (na : Int)) = false := decide_eq_false (by omega)
                  have hkn : k = na := by have := HKLE.out; omega
                  subst hkn
                  have HKF := Aside0.mk (show ∀ j : Nat, j < mn → nd Kk j = if askB (now + nx) la D j then now + nx + 1 else nd K j from fun j hj => by
                    rw [HKN.out j hj]
                    have h1 : inK T.asks k j = askB (now + nx) la D j := by
                      rw [← HNA.out, Bool.eq_iff_iff, inK_all, HTK.out j]
                      exact ⟨fun h => h.2, fun h => ⟨hj, h⟩⟩
                    rw [h1])
                  have HIV2 := Aside0.mk (HTI.out Kk HKL.out HKF.out)
                  go_wp2
                  go_loopg [147] (nl + 1) (fun kq v147 w' => ∃ (j : Nat), v147 = .int .i64 (j : Int) ∧ Aside0 (kq + j = nl + 1) ∧ Aside0 (j ≤ nl) ∧ Aside0 (Kd.R (Kd.int .i64) 3 w' w.heap.size (fun _ => True) (.slice A2 nl c2) T.lates) ∧ Aside0 (IsP w' g T.D mn ev la T.ls) ∧ Aside0 (w'.heap[kb]? = some (.cells (cellsK Kk) 72 (0, 0))) ∧ Aside0 (Below w.heap.size w w'))
                  case atStart => exact ⟨0, rfl, ⟨by omega⟩, ⟨by omega⟩, HRL, HP, HKB, HB⟩
                  case round =>
                    clear HRL HP HKB HB
                    obtain ⟨j, rfl, HKJ, HJL, HRL, HP, HKB, HB⟩ := hrel
                    by_cases cj : j < nl
                    · have cjb : decide ((j : Int) < (nl : Int)) = true := decide_eq_true (by omega)
                      have p1 : 0 ≤ (j : Int) := by omega
                      have p2 : (j : Int) < (nl : Int) := by omega
                      obtain ⟨gk1, rfl⟩ : ∃ kb', gk = kb' + 1 := ⟨gk - 1, by have := HKJ.out; omega⟩
                      have hwj : wrap64 ((j : Int) + 1) = ((j + 1 : Nat) : Int) := by have := HNL6.out; unfold wrap64; omega
                      have hjl : j < T.lates.length := by rw [HNL.out]; exact cj
                      obtain ⟨m, hq1, hmm, hlt⟩ := HTL.out _ (List.getElem_mem hjl)
                      obtain ⟨ad, e7, hy⟩ := Kd.at_int (R_C HRL.out) (j : Int) p1 p2
                      cases e7
                      simp only [Int.toNat_natCast] at hy
                      have hrd : rd T.lates (j : Int) = (m : Int) := by rw [← hq1]; unfold rd; rw [Int.toNat_natCast, List.getD_eq_getElem?_getD, List.getElem?_eq_getElem hjl]; rfl
                      rw [hrd] at hy
                      have hm6 : m < 6 := by have := HM6.out; omega
                      obtain ⟨kv, hkv⟩ : ∃ v, nd Kk m = v := ⟨_, rfl⟩
                      have hkv0 : kv ≠ 0 := by
                        rw [← hkv, HKF.out m hmm]
                        split
                        · have := HNB.out; omega
                        · exact HIV.out.lateK hmm hlt
                      have hzk : wr.cell? ⟨kb, m, none⟩ = some (.int .u64 kv) := ((blk_cell HKB.out m).trans (cell_K HKL.out hm6)).trans (by rw [hkv])
                      have b1 : decide ((m : Int) < 0) = false := decide_eq_false (by omega)
                      have b2 : decide ((mn : Int) ≤ (m : Int)) = false := decide_eq_false (by omega)
                      have b3 : (kv == 0) = false := beq_eq_false_iff_ne.mpr hkv0
                      have pm : 0 ≤ (m : Int) := by omega
                      have pm6 : (m : Int) < 6 := by omega
                      clear hkv hkv0 hrd hq1 hlt
                      go_wp2
                      go_roundg gk1
                      case measure => omega
                      case rel => exact ⟨j + 1, congrArg (Value.int .i64) (by omega), ⟨by have := HKJ.out; omega⟩, ⟨by omega⟩, HRL, HP, HKB, HB⟩
                    · have cjb : decide ((j : Int) < (nl : Int)) = false := decide_eq_false (by omega)
                      have HIV3 := Aside0.mk (show Inv mn ev (i + 1) (now + nx) (ls + k) (opn - nl + k) T.D Kk by have h := HIV2.out; rw [HNA.out, HNL.out] at h; exact h)
                      have HP2 := Aside0.mk (show IsP wr g T.D mn ev la (ls + k) by have h := HP.out; rw [HTS.out, HNA.out] at h; exact h)
                      go_wp2
                      go_meet
                      case rel => exact ⟨T.D, Kk, now + nx, ls + k, opn - nl + k, rfl, rfl, rfl, HIV3, HP2, HKB, HB⟩
            · have k0 : (dx != 0) = true := by simp [d0]
              clear d0 hN hU
              obtain ⟨oo, hoo⟩ : ∃ o, outOf D mn ix = o := ⟨_, rfl⟩
              have HOO := Aside0.mk hoo
              clear hoo
              by_cases d1 : dx = 1
              · have k1 : (dx == 1) = true := by simp [d1]
                clear d1
                by_cases cz : nx = 0
                · have z0 : (nx != 0) = false := by simp [cz]
                  have HRR := Aside0.mk (show decide (nx ≠ 0 ∧ outOf D mn ix = nx) = false from decide_eq_false (fun h => h.1 cz))
                  have HDD := Aside0.mk (show (if nx ≠ 0 ∧ outOf D mn ix = nx then D.set (ix.toNat * 3 + 1) 0 else D) = D from if_neg (fun h => h.1 cz))
                  have HIV2 := Aside0.mk HIV.out.stay
                  clear cz
                  go_wp2_with (first | (go_at_call 36; with_reducible refine (Out_calls g D mn ev la ls ix _ HP.out).mono ?_; rw [HOO.out]; rintro e w' ⟨rfl, hb⟩; have HP_ := Aside0.mk (HP.out.below hb); have HKB_ := Aside0.mk ((hb.block kb (blk_lt HKB.out)).trans HKB.out); have HB_ := Aside0.mk (below_step HB.out hb); have BK_ := Aside0.mk ((hb.block gb (blk_lt BK.out)).trans BK.out); clear HP HKB HB BK; have HP := HP_; have HKB := HKB_; have HB := HB_; have BK := BK_; clear HP_ HKB_ HB_ BK_; clear hb; have hz0 : w'.cell? ⟨gb, 0, none⟩ = some (.int .i64 dx) := (blk_cell BK.out 0).trans rfl; have hz1 : w'.cell? ⟨gb, 1, none⟩ = some (.int .i64 ix) := (blk_cell BK.out 1).trans rfl; have hz2 : w'.cell? ⟨gb, 2, none⟩ = some (.int .u64 nx) := (blk_cell BK.out 2).trans rfl) | (go_at_call 34; with_reducible refine (Answer_at g D mn ev la ls ix nx _ false D HRR.out HDD.out HP.out).mono ?_; rintro e w' ⟨rfl, hI, hn⟩; have HKB_ := Aside0.mk (KeepBut.blk hn.keep HKB.out NGK.out (by simp)); have HB_ := Aside0.mk (hn.bel2 HG.out HB.out); have BK_ := Aside0.mk (KeepBut.blk hn.keep BK.out NG.out (by simp)); have HP_ := Aside0.mk (hI); clear HKB HB BK HP; have HKB := HKB_; have HB := HB_; have BK := BK_; have HP := HP_; clear HKB_ HB_ BK_ HP_; clear hI hn))
                  go_meet
                  case rel => exact ⟨D, K, now, ls, opn, rfl, rfl, rfl, HIV2, HP, HKB, HB⟩
                · have z0 : (nx != 0) = true := by simp [cz]
                  by_cases ce : nx = oo
                  · have z1 : (nx == oo) = true := by simp [ce]
                    have z1' : (oo == oo) = true := by simp
                    have hcond : nx ≠ 0 ∧ outOf D mn ix = nx := ⟨cz, by rw [HOO.out, ce]⟩
                    have HRR := Aside0.mk (show decide (nx ≠ 0 ∧ outOf D mn ix = nx) = true from decide_eq_true hcond)
                    have HDD := Aside0.mk (show (if nx ≠ 0 ∧ outOf D mn ix = nx then D.set (ix.toNat * 3 + 1) 0 else D) = D.set (ix.toNat * 3 + 1) 0 from if_pos hcond)
                    have ho := outOf_ne (D := D) (mn := mn) (i := ix) (by rw [hcond.2]; exact cz)
                    have HIV2 := Aside0.mk (HIV.out.answer ix.toNat (by omega) HM6.out ho.2.2)
                    have hwo : wrap64 (opn - 1) = opn - 1 := by have := HIV.out.open_; have := cnt_le D mn; have := HM6.out; unfold wrap64; omega
                    clear ce cz hcond ho
                    go_wp2_with (first | (go_at_call 36; with_reducible refine (Out_calls g D mn ev la ls ix _ HP.out).mono ?_; rw [HOO.out]; rintro e w' ⟨rfl, hb⟩; have HP_ := Aside0.mk (HP.out.below hb); have HKB_ := Aside0.mk ((hb.block kb (blk_lt HKB.out)).trans HKB.out); have HB_ := Aside0.mk (below_step HB.out hb); have BK_ := Aside0.mk ((hb.block gb (blk_lt BK.out)).trans BK.out); clear HP HKB HB BK; have HP := HP_; have HKB := HKB_; have HB := HB_; have BK := BK_; clear HP_ HKB_ HB_ BK_; clear hb; have hz0 : w'.cell? ⟨gb, 0, none⟩ = some (.int .i64 dx) := (blk_cell BK.out 0).trans rfl; have hz1 : w'.cell? ⟨gb, 1, none⟩ = some (.int .i64 ix) := (blk_cell BK.out 1).trans rfl; have hz2 : w'.cell? ⟨gb, 2, none⟩ = some (.int .u64 nx) := (blk_cell BK.out 2).trans rfl) | (go_at_call 34; with_reducible refine (Answer_at g D mn ev la ls ix nx _ true (D.set (ix.toNat * 3 + 1) 0) HRR.out HDD.out HP.out).mono ?_; rintro e w' ⟨rfl, hI, hn⟩; have HKB_ := Aside0.mk (KeepBut.blk hn.keep HKB.out NGK.out (by simp)); have HB_ := Aside0.mk (hn.bel2 HG.out HB.out); have BK_ := Aside0.mk (KeepBut.blk hn.keep BK.out NG.out (by simp)); have HP_ := Aside0.mk (hI); clear HKB HB BK HP; have HKB := HKB_; have HB := HB_; have BK := BK_; have HP := HP_; clear HKB_ HB_ BK_ HP_; clear hI hn))
                    go_meet
                    case rel => exact ⟨_, K, now, ls, opn - 1, rfl, rfl, by first | rfl | (rw [hwo]), HIV2, HP, HKB, HB⟩
                  · have z1 : (nx == oo) = false := by simp [ce]
                    have hcond : ¬ (nx ≠ 0 ∧ outOf D mn ix = nx) := fun h => ce (by rw [← h.2, HOO.out])
                    have HRR := Aside0.mk (show decide (nx ≠ 0 ∧ outOf D mn ix = nx) = false from decide_eq_false hcond)
                    have HDD := Aside0.mk (show (if nx ≠ 0 ∧ outOf D mn ix = nx then D.set (ix.toNat * 3 + 1) 0 else D) = D from if_neg hcond)
                    have HIV2 := Aside0.mk HIV.out.stay
                    clear ce cz hcond
                    go_wp2_with (first | (go_at_call 36; with_reducible refine (Out_calls g D mn ev la ls ix _ HP.out).mono ?_; rw [HOO.out]; rintro e w' ⟨rfl, hb⟩; have HP_ := Aside0.mk (HP.out.below hb); have HKB_ := Aside0.mk ((hb.block kb (blk_lt HKB.out)).trans HKB.out); have HB_ := Aside0.mk (below_step HB.out hb); have BK_ := Aside0.mk ((hb.block gb (blk_lt BK.out)).trans BK.out); clear HP HKB HB BK; have HP := HP_; have HKB := HKB_; have HB := HB_; have BK := BK_; clear HP_ HKB_ HB_ BK_; clear hb; have hz0 : w'.cell? ⟨gb, 0, none⟩ = some (.int .i64 dx) := (blk_cell BK.out 0).trans rfl; have hz1 : w'.cell? ⟨gb, 1, none⟩ = some (.int .i64 ix) := (blk_cell BK.out 1).trans rfl; have hz2 : w'.cell? ⟨gb, 2, none⟩ = some (.int .u64 nx) := (blk_cell BK.out 2).trans rfl) | (go_at_call 34; with_reducible refine (Answer_at g D mn ev la ls ix nx _ false D HRR.out HDD.out HP.out).mono ?_; rintro e w' ⟨rfl, hI, hn⟩; have HKB_ := Aside0.mk (KeepBut.blk hn.keep HKB.out NGK.out (by simp)); have HB_ := Aside0.mk (hn.bel2 HG.out HB.out); have BK_ := Aside0.mk (KeepBut.blk hn.keep BK.out NG.out (by simp)); have HP_ := Aside0.mk (hI); clear HKB HB BK HP; have HKB := HKB_; have HB := HB_; have BK := BK_; have HP := HP_; clear HKB_ HB_ BK_ HP_; clear hI hn))
                    go_meet
                    case rel => exact ⟨D, K, now, ls, opn, rfl, rfl, rfl, HIV2, HP, HKB, HB⟩
              · have k1 : (dx == 1) = false := by simp [d1]
                clear d1
                by_cases cz : oo = 0
                · have z0 : (oo != 0) = false := by simp [cz]
                  have HRR := Aside0.mk (show decide (oo ≠ 0 ∧ outOf D mn ix = oo) = false from decide_eq_false (fun h => h.1 cz))
                  have HDD := Aside0.mk (show (if oo ≠ 0 ∧ outOf D mn ix = oo then D.set (ix.toNat * 3 + 1) 0 else D) = D from if_neg (fun h => h.1 cz))
                  have HIV2 := Aside0.mk HIV.out.stay
                  clear cz
                  go_wp2_with (first | (go_at_call 36; with_reducible refine (Out_calls g D mn ev la ls ix _ HP.out).mono ?_; rw [HOO.out]; rintro e w' ⟨rfl, hb⟩; have HP_ := Aside0.mk (HP.out.below hb); have HKB_ := Aside0.mk ((hb.block kb (blk_lt HKB.out)).trans HKB.out); have HB_ := Aside0.mk (below_step HB.out hb); have BK_ := Aside0.mk ((hb.block gb (blk_lt BK.out)).trans BK.out); clear HP HKB HB BK; have HP := HP_; have HKB := HKB_; have HB := HB_; have BK := BK_; clear HP_ HKB_ HB_ BK_; clear hb; have hz0 : w'.cell? ⟨gb, 0, none⟩ = some (.int .i64 dx) := (blk_cell BK.out 0).trans rfl; have hz1 : w'.cell? ⟨gb, 1, none⟩ = some (.int .i64 ix) := (blk_cell BK.out 1).trans rfl; have hz2 : w'.cell? ⟨gb, 2, none⟩ = some (.int .u64 nx) := (blk_cell BK.out 2).trans rfl) | (go_at_call 34; with_reducible refine (Answer_at g D mn ev la ls ix oo _ false D HRR.out HDD.out HP.out).mono ?_; rintro e w' ⟨rfl, hI, hn⟩; have HKB_ := Aside0.mk (KeepBut.blk hn.keep HKB.out NGK.out (by simp)); have HB_ := Aside0.mk (hn.bel2 HG.out HB.out); have BK_ := Aside0.mk (KeepBut.blk hn.keep BK.out NG.out (by simp)); have HP_ := Aside0.mk (hI); clear HKB HB BK HP; have HKB := HKB_; have HB := HB_; have BK := BK_; have HP := HP_; clear HKB_ HB_ BK_ HP_; clear hI hn))
                  go_meet
                  case rel => exact ⟨D, K, now, ls, opn, rfl, rfl, rfl, HIV2, HP, HKB, HB⟩
                · have z0 : (oo != 0) = true := by simp [cz]
                  by_cases ce : oo = oo
                  · have z1 : (oo == oo) = true := by simp [ce]
                    have z1' : (oo == oo) = true := by simp
                    have hcond : oo ≠ 0 ∧ outOf D mn ix = oo := ⟨cz, by rw [HOO.out, ce]⟩
                    have HRR := Aside0.mk (show decide (oo ≠ 0 ∧ outOf D mn ix = oo) = true from decide_eq_true hcond)
                    have HDD := Aside0.mk (show (if oo ≠ 0 ∧ outOf D mn ix = oo then D.set (ix.toNat * 3 + 1) 0 else D) = D.set (ix.toNat * 3 + 1) 0 from if_pos hcond)
                    have ho := outOf_ne (D := D) (mn := mn) (i := ix) (by rw [hcond.2]; exact cz)
                    have HIV2 := Aside0.mk (HIV.out.answer ix.toNat (by omega) HM6.out ho.2.2)
                    have hwo : wrap64 (opn - 1) = opn - 1 := by have := HIV.out.open_; have := cnt_le D mn; have := HM6.out; unfold wrap64; omega
                    clear ce cz hcond ho
                    go_wp2_with (first | (go_at_call 36; with_reducible refine (Out_calls g D mn ev la ls ix _ HP.out).mono ?_; rw [HOO.out]; rintro e w' ⟨rfl, hb⟩; have HP_ := Aside0.mk (HP.out.below hb); have HKB_ := Aside0.mk ((hb.block kb (blk_lt HKB.out)).trans HKB.out); have HB_ := Aside0.mk (below_step HB.out hb); have BK_ := Aside0.mk ((hb.block gb (blk_lt BK.out)).trans BK.out); clear HP HKB HB BK; have HP := HP_; have HKB := HKB_; have HB := HB_; have BK := BK_; clear HP_ HKB_ HB_ BK_; clear hb; have hz0 : w'.cell? ⟨gb, 0, none⟩ = some (.int .i64 dx) := (blk_cell BK.out 0).trans rfl; have hz1 : w'.cell? ⟨gb, 1, none⟩ = some (.int .i64 ix) := (blk_cell BK.out 1).trans rfl; have hz2 : w'.cell? ⟨gb, 2, none⟩ = some (.int .u64 nx) := (blk_cell BK.out 2).trans rfl) | (go_at_call 34; with_reducible refine (Answer_at g D mn ev la ls ix oo _ true (D.set (ix.toNat * 3 + 1) 0) HRR.out HDD.out HP.out).mono ?_; rintro e w' ⟨rfl, hI, hn⟩; have HKB_ := Aside0.mk (KeepBut.blk hn.keep HKB.out NGK.out (by simp)); have HB_ := Aside0.mk (hn.bel2 HG.out HB.out); have BK_ := Aside0.mk (KeepBut.blk hn.keep BK.out NG.out (by simp)); have HP_ := Aside0.mk (hI); clear HKB HB BK HP; have HKB := HKB_; have HB := HB_; have BK := BK_; have HP := HP_; clear HKB_ HB_ BK_ HP_; clear hI hn))
                    go_meet
                    case rel => exact ⟨_, K, now, ls, opn - 1, rfl, rfl, by first | rfl | (rw [hwo]), HIV2, HP, HKB, HB⟩
                  · exact absurd rfl ce
          case rest =>
            clear HP HKB HB BK HIV hz0 hz1 hz2 hN hU
            obtain ⟨D', K', now', last', opn', rfl, rfl, rfl, HIV, HP, HKB, HB⟩ := hcut
            go_wp2
            go_loopg [26, 166] (mn + 1) (fun kq v26 v166 w' => ∃ (j : Nat), v26 = .int .i64 (cnt D' j) ∧ v166 = .int .i64 (j : Int) ∧ Aside0 (kq + j = mn + 1) ∧ Aside0 (j ≤ mn) ∧ Aside0 (IsP w' g D' mn ev la last') ∧ Aside0 (w'.heap[kb]? = some (.cells (cellsK K') 72 (0, 0))) ∧ Aside0 (Below w.heap.size w w'))
            case atStart => exact ⟨0, rfl, rfl, ⟨by omega⟩, ⟨by omega⟩, HP, HKB, HB⟩
            case round =>
              clear HP HKB HB
              obtain ⟨j, rfl, rfl, HKJ, HJL, HP, HKB, HB⟩ := hrel
              by_cases cj : j < mn
              · have cjb : decide ((j : Int) < (mn : Int)) = true := decide_eq_true (by omega)
                obtain ⟨gk1, rfl⟩ : ∃ kb', gk = kb' + 1 := ⟨gk - 1, by have := HKJ.out; omega⟩
                have hwj : wrap64 ((j : Int) + 1) = ((j + 1 : Nat) : Int) := by have := HM6.out; unfold wrap64; omega
                have hwc : wrap64 (cnt D' j + 1) = cnt D' j + 1 := by have := cnt_le D' j; have := HM6.out; unfold wrap64; omega
                obtain ⟨o, ho⟩ : ∃ o, outOf D' mn j = o := ⟨_, rfl⟩
                have HOO := Aside0.mk ho
                have HCN := Aside0.mk (show cnt D' (j + 1) = cnt D' j + if o = 0 then 0 else 1 by rw [← ho, outOf_in cj]; rfl)
                clear ho
                by_cases co : o = 0
                · have b0 : (o != 0) = false := by simp [co]
                  have HCM := Aside0.mk (show cnt D' (j + 1) = cnt D' j by rw [HCN.out, if_pos co]; omega)
                  clear co
                  go_wp2_with (first | (go_at_call 36; with_reducible refine (Out_calls g D' mn ev la last' j _ HP.out).mono ?_; rw [HOO.out]; rintro e w' ⟨rfl, hb⟩; have HP_ := Aside0.mk (HP.out.below hb); have HKB_ := Aside0.mk ((hb.block kb (blk_lt HKB.out)).trans HKB.out); have HB_ := Aside0.mk (below_step HB.out hb); clear HP HKB HB; have HP := HP_; have HKB := HKB_; have HB := HB_; clear HP_ HKB_ HB_; clear hb))
                  go_roundg gk1
                  case measure => omega
                  case rel => exact ⟨j + 1, congrArg (Value.int .i64) HCM.out.symm, congrArg (Value.int .i64) (by omega), ⟨by have := HKJ.out; omega⟩, ⟨by omega⟩, HP, HKB, HB⟩
                · have b0 : (o != 0) = true := by simp [co]
                  have HCM := Aside0.mk (show cnt D' (j + 1) = cnt D' j + 1 by rw [HCN.out, if_neg co])
                  clear co
                  go_wp2_with (first | (go_at_call 36; with_reducible refine (Out_calls g D' mn ev la last' j _ HP.out).mono ?_; rw [HOO.out]; rintro e w' ⟨rfl, hb⟩; have HP_ := Aside0.mk (HP.out.below hb); have HKB_ := Aside0.mk ((hb.block kb (blk_lt HKB.out)).trans HKB.out); have HB_ := Aside0.mk (below_step HB.out hb); clear HP HKB HB; have HP := HP_; have HKB := HKB_; have HB := HB_; clear HP_ HKB_ HB_; clear hb))
                  go_roundg gk1
                  case measure => omega
                  case rel => exact ⟨j + 1, congrArg (Value.int .i64) (by rw [HCM.out]; first | rfl | exact hwc), congrArg (Value.int .i64) (by omega), ⟨by have := HKJ.out; omega⟩, ⟨by omega⟩, HP, HKB, HB⟩
              · have cjb : decide ((j : Int) < (mn : Int)) = false := decide_eq_false (by omega)
                have hjm : j = mn := by have := HJL.out; omega
                have b0 : (cnt D' j != opn') = false := by rw [hjm, HIV.out.open_]; simp
                clear hjm
                go_wp2
                go_roundg gk0
                case measure => omega
                case rel => exact ⟨i + 1, now', last', opn', D', K', rfl, rfl, rfl, congrArg (Value.int .i64) (by omega), ⟨by have := HK.out; omega⟩, ⟨by omega⟩, HIV, HP, HKB, HB⟩
        · have cb : decide ((i : Int) < (l.length : Int)) = false := decide_eq_false (by omega)
          go_wp2
          go_ret
          exact ⟨rfl, HB.out⟩
  · go_enter Try.func7, Try.ntmps7
    go_wp2_with (first | (go_at_call 25; with_reducible refine (awake_calls _).mono ?_; rintro e w' ⟨rfl, hb⟩; have HB_ := Aside0.mk (below_step HB.out hb); clear hb HB; have HB := HB_; clear HB_) | (go_at_call 27; with_reducible refine (New_bad n ev la _ hok).mono ?_; rintro e w' ⟨rfl, rfl⟩))
    go_ret
    exact ⟨rfl, HB.out⟩
end Go.Proofs.Ytagmefjpnmjcjaa.Pr
