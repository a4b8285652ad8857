/- WaitsDo, walked by hand. -/
import Derived.Test.YtagmefjpnmjcjaaWaRef
namespace Go.Proofs.Ytagmefjpnmjcjaa.Wa
open Go.RowKit Go.Proofs.YtagmefjpnmjcjaaW.PrintWords Go.Proofs.YtagmefjpnmjcjaaW.PrintLast Go.Proofs.YtagmefjpnmjcjaaW.PrintMore
attribute [local go_sem] max2_int min2_int max_two min_two
set_option linter.unusedVariables false
set_option linter.unusedSimpArgs false

theorem At_below (g : Nat) (L : List Int) (mo id x : Int) (w : World) (h : posOf L id = x) (hI : IsW w g L mo) :
    Calls Try.prog 48 #[.pointer (some ⟨g, 0, none⟩), .int .i64 id] w fun e w' => e = .returned (.int .i64 x) ∧ Below w.heap.size w w' := by
  obtain ⟨ids, fr, HG, hr, h2⟩ := hI
  refine (At_calls g ids fr mo id L w HG hr).mono ?_
  rintro e w' ⟨rfl, n, rfl⟩
  exact ⟨by rw [h], pw_below_drewN (Below.refl _ _) n⟩
theorem RAt_below (g B : Nat) (mo id x : Int) (L : List Int) (w : World) (h : posOf L id = x) (hI : IsR w B g L mo) :
    Calls Try.prog 49 #[.pointer (some ⟨g, 0, none⟩), .int .i64 id] w fun e w' => e = .returned (.int .i64 x) ∧ Below w.heap.size w w' := by
  refine (RAt_calls g B mo id L w hI).mono ?_
  rintro e w' ⟨rfl, _, hb⟩
  exact ⟨by rw [h], hb⟩
theorem Same_below (A0 : Option Addr) (c0 : Nat) (l0 : List Int) (A1 : Option Addr) (c1 : Nat) (l1 : List Int) (w : World) (he : l0 = l1) (hl : l1.length ≤ 1000000) (hr0 : Kd.C (Kd.int .i64) w A0 l0.length l0) (hc0 : l0.length ≤ c0) (hr1 : Kd.C (Kd.int .i64) w A1 l1.length l1) (hc1 : l1.length ≤ c1) :
    Calls Try.prog 33 #[.slice A0 l0.length c0, .slice A1 l1.length c1] w fun e w' => e = .returned (.bool true) ∧ Below w.heap.size w w' :=
  (Same_same A0 c0 l0 A1 c1 l1 w he hl hr0 hc0 hr1 hc1).mono fun e w' h => ⟨h.1, h.2.below⟩
theorem RPut_at (g B : Nat) (mo id r : Int) (L L2 : List Int) (w : World) (h1 : putE L mo id = r) (h2 : putL L mo id = L2) (hI : IsR w B g L mo) (hB : B ≤ w.heap.size) (hmo : (L.length : Int) ≤ mo) (hm12 : mo ≤ 12) :
    Calls Try.prog 42 #[.pointer (some ⟨g, 0, none⟩), .int .i64 id] w fun e w' => e = .returned (.int .i64 r) ∧ IsR w' B g L2 mo ∧ Near w w' g := by
  subst h1 h2; exact RPut_calls g B mo id L w hI hB hmo hm12
theorem RTake_at (g B : Nat) (mo x : Int) (b : Bool) (L L2 : List Int) (w : World) (h1 : L.headD 0 = x) (h2 : (!L.isEmpty) = b) (h3 : L.tail = L2) (hI : IsR w B g L mo) (hB : B ≤ w.heap.size) :
    Calls Try.prog 44 #[.pointer (some ⟨g, 0, none⟩)] w fun e w' => e = .returned (.tuple #[.int .i64 x, .bool b]) ∧ IsR w' B g L2 mo ∧ Near w w' g := by
  subst h1 h2 h3; exact RTake_calls g B mo L w hI hB
theorem RDrop_at (g B : Nat) (mo id : Int) (b : Bool) (L L2 : List Int) (w : World) (h1 : decide (id ∈ L) = b) (h2 : L.erase id = L2) (hI : IsR w B g L mo) (hB : B ≤ w.heap.size) :
    Calls Try.prog 46 #[.pointer (some ⟨g, 0, none⟩), .int .i64 id] w fun e w' => e = .returned (.bool b) ∧ IsR w' B g L2 mo ∧ Near w w' g := by
  subst h1 h2; exact RDrop_calls g B mo id L w hI hB
theorem IsW.drew {w : World} {g : Nat} {L : List Int} {mo : Int} (h : IsW w g L mo) : IsW w.drew g L mo := h.below (below_drew1 (Below.refl _ _))
theorem IsR.drew {w : World} {B g : Nat} {L : List Int} {mo : Int} (h : IsR w B g L mo) : IsR w.drew B g L mo := h.below (below_drew1 (Below.refl _ _))
attribute [local irreducible] IsR IsW Near putE putL posOf

set_option maxHeartbeats 8000000 in
set_option maxRecDepth 100000 in
theorem WaitsDo_calls (most : Int) (A0 : Option Addr) (c0 : Nat) (l : List S84) (id : Int) (w : World) (hr : Kd.C k84 w A0 l.length l) (hc : l.length ≤ c0) :
    Calls Try.prog 9 #[.int .i64 most, .slice A0 l.length c0, .int .i64 id] w fun e w' => e = .returned (.bool true) ∧ Below w.heap.size w w' := by
  have HB := Aside0.mk (Below.refl w.heap.size w)
  have HA := Aside0.mk hr
  clear hr hc
  by_cases cl : l.length ≤ 200
  · have b2 : decide (200 < (l.length : Int)) = false := decide_eq_false (by omega)
    by_cases cm : 0 ≤ most ∧ most ≤ 12
    · have CM := Aside0.mk cm.2
      go_enter Try.func9, Try.ntmps9
      go_wp2_with (first | (go_at_call 38; refine (awake_calls _).mono ?_; rintro e w' ⟨rfl, hb⟩; have HB' := Aside0.mk (below_step HB.out hb); clear hb HB; have HB := HB'; clear HB') | (go_at_call 39; refine (New_ok most _ cm.1 cm.2).mono ?_; rintro e w' ⟨g, rfl, hI, hg, hb⟩; have HI := Aside0.mk hI; have HG := Aside0.mk (Nat.le_trans HB.out.size hg); have HB' := Aside0.mk (below_step HB.out hb); clear hI hg hb HB; have HB := HB'; clear HB') | (go_at_call 40; refine (RNew_ok most _ cm.1 cm.2 w.heap.size HB.out.size).mono ?_; rintro e w' ⟨gr, rfl, hI, hg, hb⟩; have HR := Aside0.mk hI; have HI_ := Aside0.mk (HI.out.below hb); have HGR := Aside0.mk (Nat.le_trans HB.out.size hg); have HB' := Aside0.mk (below_step HB.out hb); clear hI hg hb HB HI; have HB := HB'; have HI := HI_; clear HB' HI_))
      go_loopg [47] (l.length + 1) (fun kq v47 w' => ∃ (i : Nat) (L : List Int), v47 = .int .i64 (i : Int) ∧ Aside0 (kq + i = l.length + 1) ∧ Aside0 (i ≤ l.length) ∧ Aside0 (IsW w' g L most) ∧ Aside0 (IsR w' w.heap.size gr L most) ∧ Aside0 (Below w.heap.size w w'))
      case atStart => exact ⟨0, [], rfl, ⟨by omega⟩, ⟨by omega⟩, HI, HR, HB⟩
      case round =>
        clear HI HR HB
        obtain ⟨i, L, rfl, HK, HL, HI, HR, HB⟩ := hrel
        obtain ⟨gk0, rfl⟩ : ∃ gk', gk = gk' + 1 := ⟨gk - 1, by have := HK.out; have := HL.out; omega⟩
        by_cases ci : i < l.length
        · have cb : decide ((i : Int) < (l.length : Int)) = true := decide_eq_true (by omega)
          have p101 : 0 ≤ (i : Int) := by omega
          have q101 : (i : Int) < (l.length : Int) := by omega
          have hwi : wrap64 ((i : Int) + 1) = ((i + 1 : Nat) : Int) := by unfold wrap64; omega
          obtain ⟨ad101, e101, hx0, hx1⟩ := at_T84 HA.out i p101 q101
          cases e101
          replace hx0 := (HB.out.cell (World.block_lt_of_cell? w _ hx0)).trans hx0
          replace hx1 := (HB.out.cell (World.block_lt_of_cell? w _ hx1)).trans hx1
          simp only [Int.toNat_natCast] at hx0 hx1
          obtain ⟨dx, hdx⟩ : ∃ d, (rd_T84 l i).f0 = d := ⟨_, rfl⟩
          obtain ⟨ix, hix⟩ : ∃ d, (rd_T84 l i).f1 = d := ⟨_, rfl⟩
          rw [hdx] at hx0
          rw [hix] at hx1
          clear hdx hix
          go_upto_region 14 with ((with_reducible refine gate_dst (N := 12) rfl ?_); refine box_event ?hg (N := 12) ?hd (cs := #[.int .i64 0, .int .i64 0]) (t := 84) ?hr ?_; (case hd => rfl); (case hg => rfl); (case hr => first | (go_simp; done) | (go_simp; rfl)); intro gb hgb wb hbox hb; have BK := Aside0.mk hbox; have NG := Aside0.mk (show g ≠ gb from fun e_ => by have := HI.out.lt; omega); have NGR := Aside0.mk (show gr ≠ gb from fun e_ => by have := HR.out.lt; omega); have GE := Aside0.mk (show w.heap.size ≤ gb by rw [hgb]; exact HB.out.size); have HI_ := Aside0.mk (HI.out.below hb); have HR_ := Aside0.mk (HR.out.below hb); have HB_ := Aside0.mk (below_step HB.out hb); clear HI HR HB hbox hb hgb; have HI := HI_; have HR := HR_; have HB := HB_; clear HI_ HR_ HB_; have hz0 : wb.cell? ⟨gb, 0, none⟩ = some (.int .i64 0) := (blk_cell BK.out 0).trans rfl; have hz1 : wb.cell? ⟨gb, 1, none⟩ = some (.int .i64 0) := (blk_cell BK.out 1).trans rfl; have hf0 := blk_frozen BK.out 0; have hf1 := blk_frozen BK.out 1)
          (try simp only [Act.put, List.setIfInBounds_toArray, List.set_cons_zero, List.set_cons_succ])
          generalize hW2 : (World.setCell (World.setCell wb ⟨gb, 0, none⟩ (.int .i64 dx)) ⟨gb, 1, none⟩ (.int .i64 ix)) = w2
          have BK_ := Aside0.mk (hW2 ▸ act_store (a := dx) (b := ix) BK.out)
          have HI_ := Aside0.mk (hW2 ▸ (HI.out.far NG.out 0 (.int .i64 dx)).far NG.out 1 (.int .i64 ix))
          have HR_ := Aside0.mk (hW2 ▸ (HR.out.far84 BK.out 0 (.int .i64 dx)).far84 (blk_set BK.out 0 (.int .i64 dx)) 1 (.int .i64 ix))
          have HB_ := Aside0.mk (hW2 ▸ below_set (below_set HB.out GE.out) GE.out)
          clear hz0 hz1 hf0 hf1 BK HI HR HB
          have BK := BK_
          have HI := HI_
          have HR := HR_
          have HB := HB_
          clear BK_ HI_ HR_ HB_ hW2
          have hz0 : w2.cell? ⟨gb, 0, none⟩ = some (.int .i64 dx) := (blk_cell BK.out 0).trans rfl
          have hz1 : w2.cell? ⟨gb, 1, none⟩ = some (.int .i64 ix) := (blk_cell BK.out 1).trans rfl
          go_upto_block 2 with (fail)
          go_cut [13] (fun v13 wc => ∃ (L' : List Int), v13 = .bool true ∧ Aside0 (wc.heap[gb]? = some (.cells #[.int .i64 dx, .int .i64 ix] 84 (0, 0))) ∧ Aside0 (IsW wc g L' most) ∧ Aside0 (IsR wc w.heap.size gr L' most) ∧ Aside0 (Below w.heap.size w wc))
          case first =>
            by_cases d0 : dx = 0
            · have k0 : (dx == 0) = true := beq_iff_eq.mpr d0
              clear d0
              obtain ⟨pe, hpe⟩ : ∃ e, putE L most ix = e := ⟨_, rfl⟩
              obtain ⟨L1, hL1⟩ : ∃ e, putL L most ix = e := ⟨_, rfl⟩
              have HPE := Aside0.mk hpe
              have HPL := Aside0.mk hL1
              have HMO := Aside0.mk HI.out.most_
              have hpp : (pe == pe) = true := by simp
              clear hpe hL1
              go_upto_region 17 with (fail)
              have BK_ := Aside0.mk (blk_drew BK.out)
              have HI_ := Aside0.mk HI.out.drew
              have HR_ := Aside0.mk HR.out.drew
              have HB_ := Aside0.mk (below_drew1 HB.out)
              clear BK HI HR HB hz0 hz1
              have BK := BK_
              have HI := HI_
              have HR := HR_
              have HB := HB_
              clear BK_ HI_ HR_ HB_
              refine start_ (n := 10) (S := fun w' => w'.cell? ⟨gb, 1, none⟩ = some (.int .i64 ix)) (ds := []) #[false, false, false, false, false, false, false, false, false, false] (by kernel_rfl) rfl rfl ((blk_cell BK.out 1).trans rfl) (fun hHeld => ?_)
              generalize World.drew w2 = w3 at BK HI HR HB hHeld ⊢
              refine pure_ (i := 0) (N := some 55) (v := ?_) (a' := ?_) #[true, false, false, false, false, false, false, false, false, false] rfl rfl (by kernel_rfl) (fun _ _ _ h => h) (Or.inl ⟨by rfl, ?_⟩) ?_ ?_
              rotate_left
              · intro w'
                go_simp
                with_reducible rfl
              rotate_left
              · simp only [Act.put, List.setIfInBounds_toArray, List.set_cons_zero, List.set_cons_succ, i64_w, i32_w]
                rfl
              refine pure_ (i := 1) (N := some 56) (v := ?_) (a' := ?_) #[true, true, false, false, false, false, false, false, false, false] rfl rfl (by kernel_rfl) (fun _ _ _ h => h) (Or.inl ⟨by rfl, ?_⟩) ?_ ?_
              rotate_left
              · intro w'
                go_simp
                with_reducible rfl
              rotate_left
              · simp only [Act.put, List.setIfInBounds_toArray, List.set_cons_zero, List.set_cons_succ, i64_w, i32_w]
                rfl
              refine pure_ (i := 4) (N := some 59) (v := ?_) (a' := ?_) #[true, true, false, false, true, false, false, false, false, false] rfl rfl (by kernel_rfl) (fun _ _ _ h => h) (Or.inl ⟨by rfl, ?_⟩) ?_ ?_
              rotate_left
              · intro w'
                go_simp
                with_reducible rfl
              rotate_left
              · simp only [Act.put, List.setIfInBounds_toArray, List.set_cons_zero, List.set_cons_succ, i64_w, i32_w]
                rfl
              refine pure_ (i := 5) (N := some 60) (v := ?_) (a' := ?_) #[true, true, false, false, true, true, false, false, false, false] rfl rfl (by kernel_rfl) (fun _ _ _ h => h) (Or.inl ⟨by rfl, ?_⟩) ?_ ?_
              rotate_left
              · intro w'
                go_simp
                with_reducible rfl
              rotate_left
              · simp only [Act.put, List.setIfInBounds_toArray, List.set_cons_zero, List.set_cons_succ, i64_w, i32_w]
                rfl
              refine take_ (i := 2) (N := some 57) (v := ?_) (a' := ?_) #[true, true, true, false, true, true, false, false, false, false] rfl rfl (by kernel_rfl) (fun _ _ _ h => h) (Or.inl ⟨by rfl, ?_⟩) hHeld ?_ ?_
              rotate_left
              · intro w' s0
                go_simp
                with_reducible rfl
              rotate_left
              · simp only [Act.put, List.setIfInBounds_toArray, List.set_cons_zero, List.set_cons_succ, i64_w, i32_w]
                rfl
              refine take_ (i := 6) (N := some 61) (v := ?_) (a' := ?_) #[true, true, true, false, true, true, true, false, false, false] rfl rfl (by kernel_rfl) (fun _ _ _ h => h) (Or.inl ⟨by rfl, ?_⟩) hHeld ?_ ?_
              rotate_left
              · intro w' s0
                go_simp
                with_reducible rfl
              rotate_left
              · simp only [Act.put, List.setIfInBounds_toArray, List.set_cons_zero, List.set_cons_succ, i64_w, i32_w]
                rfl
              refine one_ (i := 3) (N := some 58) #[true, true, true, true, true, true, true, false, false, false] rfl rfl (by kernel_rfl) (by decide) (fun K hK => ?_)
              refine goes_ Try.func41 (by kernel_rfl) rfl #[.pointer (some ⟨g, 0, none⟩), .int .i64 ix] (by rfl) rfl rfl (by simp only [List.map_toArray, List.map_cons, List.map_nil]; rfl) ?_
              with_reducible refine (Put_at g L most ix pe L1 _ HPE.out HPL.out HI.out).mono ?_
              rintro e w4 ⟨rfl, hI, hn⟩
              refine ⟨_, rfl, ?_⟩
              have HI_ := Aside0.mk (hI)
              have HR_ := Aside0.mk (HR.out.nearW HI.out hn)
              have HB_ := Aside0.mk (hn.bel2 HG.out HB.out)
              have BK_ := Aside0.mk (KeepBut.blk hn.keep BK.out NG.out.symm (by simp))
              clear hI hn HI HR HB BK
              have HI := HI_
              have HR := HR_
              have HB := HB_
              have BK := BK_
              clear HI_ HR_ HB_ BK_
              refine hK.out _ _ ((blk_cell BK.out 1).trans rfl) (fun hHeld => ?_)
              clear hK K
              refine norm_ (a' := ?_) ?_ ?_
              rotate_left
              · show Act.put _ (some 58) _ = _
                simp only [Act.put, List.setIfInBounds_toArray, List.set_cons_zero, List.set_cons_succ, i64_w, i32_w]
                rfl
              refine one_ (i := 7) (N := some 62) #[true, true, true, true, true, true, true, true, false, false] rfl rfl (by kernel_rfl) (by decide) (fun K hK => ?_)
              refine goes_ Try.func42 (by kernel_rfl) rfl #[.pointer (some ⟨gr, 0, none⟩), .int .i64 ix] (by rfl) rfl rfl (by simp only [List.map_toArray, List.map_cons, List.map_nil]; rfl) ?_
              with_reducible refine (RPut_at gr w.heap.size most ix pe L L1 _ HPE.out HPL.out HR.out HB.out.size HMO.out CM.out).mono ?_
              rintro e w5 ⟨rfl, hI, hn⟩
              refine ⟨_, rfl, ?_⟩
              have HR_ := Aside0.mk (hI)
              have HI_ := Aside0.mk (HI.out.nearR HR.out hn)
              have HB_ := Aside0.mk (hn.bel2 HGR.out HB.out)
              have BK_ := Aside0.mk (KeepBut.blk hn.keep BK.out NGR.out.symm (by simp))
              clear hI hn HR HI HB BK
              have HR := HR_
              have HI := HI_
              have HB := HB_
              have BK := BK_
              clear HR_ HI_ HB_ BK_
              refine hK.out _ _ ((blk_cell BK.out 1).trans rfl) (fun hHeld => ?_)
              clear hK K
              refine norm_ (a' := ?_) ?_ ?_
              rotate_left
              · show Act.put _ (some 62) _ = _
                simp only [Act.put, List.setIfInBounds_toArray, List.set_cons_zero, List.set_cons_succ, i64_w, i32_w]
                rfl
              refine pure_ (i := 8) (N := some 63) (v := ?_) (a' := ?_) #[true, true, true, true, true, true, true, true, true, false] rfl rfl (by kernel_rfl) (fun _ _ _ h => h) (Or.inl ⟨by rfl, ?_⟩) ?_ ?_
              rotate_left
              · intro w'
                go_simp
                with_reducible rfl
              rotate_left
              · simp only [Act.put, List.setIfInBounds_toArray, List.set_cons_zero, List.set_cons_succ, i64_w, i32_w]
                rfl
              refine pure_ (i := 9) (N := some 13) (v := ?_) (a' := ?_) #[true, true, true, true, true, true, true, true, true, true] rfl rfl (by kernel_rfl) (fun _ _ _ h => h) (Or.inl ⟨by rfl, ?_⟩) ?_ ?_
              rotate_left
              · intro w'
                go_simp
                with_reducible rfl
              rotate_left
              · simp only [Act.put, List.setIfInBounds_toArray, List.set_cons_zero, List.set_cons_succ, i64_w, i32_w]
                rfl
              refine done_ (by kernel_rfl) ?_

              go_wp2
              go_meet
              case rel => exact ⟨L1, rfl, BK, HI, HR, HB⟩
            · have k0 : (dx == 0) = false := beq_eq_false_iff_ne.mpr d0
              clear d0
              by_cases d1 : dx = 1
              · have k1 : (dx == 1) = true := beq_iff_eq.mpr d1
                clear d1
                obtain ⟨tx, htx⟩ : ∃ e, L.headD 0 = e := ⟨_, rfl⟩
                obtain ⟨tb, htb⟩ : ∃ e, (!L.isEmpty) = e := ⟨_, rfl⟩
                have HTX := Aside0.mk htx
                have HTB := Aside0.mk htb
                have hpp : (tx == tx) = true := by simp
                have hpb : (tb == tb) = true := by simp
                clear htx htb
                go_wp2_with (first | (go_at_call 44; with_reducible refine (RTake_at gr w.heap.size most tx tb L L.tail _ HTX.out HTB.out rfl HR.out HB.out.size).mono ?_; rintro e w' ⟨rfl, hI, hn⟩; have HR_ := Aside0.mk (hI); have HI_ := Aside0.mk (HI.out.nearR HR.out hn); have HB_ := Aside0.mk (hn.bel2 HGR.out HB.out); have BK_ := Aside0.mk (KeepBut.blk hn.keep BK.out NGR.out.symm (by simp)); clear hI hn HR HI HB BK; have HR := HR_; have HI := HI_; have HB := HB_; have BK := BK_; clear HR_ HI_ HB_ BK_) | (go_at_call 43; with_reducible refine (Take_at g L most tx tb L.tail _ HTX.out HTB.out rfl HI.out).mono ?_; rintro e w' ⟨rfl, hI, hn⟩; have HI_ := Aside0.mk (hI); have HR_ := Aside0.mk (HR.out.nearW HI.out hn); have HB_ := Aside0.mk (hn.bel2 HG.out HB.out); have BK_ := Aside0.mk (KeepBut.blk hn.keep BK.out NG.out.symm (by simp)); clear hI hn HI HR HB BK; have HI := HI_; have HR := HR_; have HB := HB_; have BK := BK_; clear HI_ HR_ HB_ BK_))
                go_meet
                case rel => exact ⟨L.tail, rfl, BK, HI, HR, HB⟩
              · have k1 : (dx == 1) = false := beq_eq_false_iff_ne.mpr d1
                clear d1
                by_cases d2 : dx = 2
                · have k2 : (dx == 2) = true := beq_iff_eq.mpr d2
                  clear d2
                  obtain ⟨b, hdb⟩ : ∃ e, decide (ix ∈ L) = e := ⟨_, rfl⟩
                  have HDB := Aside0.mk hdb
                  have hpb : (b == b) = true := by simp
                  clear hdb
                  go_upto_region 23 with (fail)
                  have BK_ := Aside0.mk (blk_drew BK.out)
                  have HI_ := Aside0.mk HI.out.drew
                  have HR_ := Aside0.mk HR.out.drew
                  have HB_ := Aside0.mk (below_drew1 HB.out)
                  clear BK HI HR HB hz0 hz1
                  have BK := BK_
                  have HI := HI_
                  have HR := HR_
                  have HB := HB_
                  clear BK_ HI_ HR_ HB_
                  refine start_ (n := 10) (S := fun w' => w'.cell? ⟨gb, 1, none⟩ = some (.int .i64 ix)) (ds := []) #[false, false, false, false, false, false, false, false, false, false] (by kernel_rfl) rfl rfl ((blk_cell BK.out 1).trans rfl) (fun hHeld => ?_)
                  generalize World.drew w2 = w3 at BK HI HR HB hHeld ⊢
                  refine pure_ (i := 0) (N := some 86) (v := ?_) (a' := ?_) #[true, false, false, false, false, false, false, false, false, false] rfl rfl (by kernel_rfl) (fun _ _ _ h => h) (Or.inl ⟨by rfl, ?_⟩) ?_ ?_
                  rotate_left
                  · intro w'
                    go_simp
                    with_reducible rfl
                  rotate_left
                  · simp only [Act.put, List.setIfInBounds_toArray, List.set_cons_zero, List.set_cons_succ, i64_w, i32_w]
                    rfl
                  refine pure_ (i := 1) (N := some 87) (v := ?_) (a' := ?_) #[true, true, false, false, false, false, false, false, false, false] rfl rfl (by kernel_rfl) (fun _ _ _ h => h) (Or.inl ⟨by rfl, ?_⟩) ?_ ?_
                  rotate_left
                  · intro w'
                    go_simp
                    with_reducible rfl
                  rotate_left
                  · simp only [Act.put, List.setIfInBounds_toArray, List.set_cons_zero, List.set_cons_succ, i64_w, i32_w]
                    rfl
                  refine pure_ (i := 4) (N := some 90) (v := ?_) (a' := ?_) #[true, true, false, false, true, false, false, false, false, false] rfl rfl (by kernel_rfl) (fun _ _ _ h => h) (Or.inl ⟨by rfl, ?_⟩) ?_ ?_
                  rotate_left
                  · intro w'
                    go_simp
                    with_reducible rfl
                  rotate_left
                  · simp only [Act.put, List.setIfInBounds_toArray, List.set_cons_zero, List.set_cons_succ, i64_w, i32_w]
                    rfl
                  refine pure_ (i := 5) (N := some 91) (v := ?_) (a' := ?_) #[true, true, false, false, true, true, false, false, false, false] rfl rfl (by kernel_rfl) (fun _ _ _ h => h) (Or.inl ⟨by rfl, ?_⟩) ?_ ?_
                  rotate_left
                  · intro w'
                    go_simp
                    with_reducible rfl
                  rotate_left
                  · simp only [Act.put, List.setIfInBounds_toArray, List.set_cons_zero, List.set_cons_succ, i64_w, i32_w]
                    rfl
                  refine take_ (i := 2) (N := some 88) (v := ?_) (a' := ?_) #[true, true, true, false, true, true, false, false, false, false] rfl rfl (by kernel_rfl) (fun _ _ _ h => h) (Or.inl ⟨by rfl, ?_⟩) hHeld ?_ ?_
                  rotate_left
                  · intro w' s0
                    go_simp
                    with_reducible rfl
                  rotate_left
                  · simp only [Act.put, List.setIfInBounds_toArray, List.set_cons_zero, List.set_cons_succ, i64_w, i32_w]
                    rfl
                  refine take_ (i := 6) (N := some 92) (v := ?_) (a' := ?_) #[true, true, true, false, true, true, true, false, false, false] rfl rfl (by kernel_rfl) (fun _ _ _ h => h) (Or.inl ⟨by rfl, ?_⟩) hHeld ?_ ?_
                  rotate_left
                  · intro w' s0
                    go_simp
                    with_reducible rfl
                  rotate_left
                  · simp only [Act.put, List.setIfInBounds_toArray, List.set_cons_zero, List.set_cons_succ, i64_w, i32_w]
                    rfl
                  refine one_ (i := 3) (N := some 89) #[true, true, true, true, true, true, true, false, false, false] rfl rfl (by kernel_rfl) (by decide) (fun K hK => ?_)
                  refine goes_ Try.func45 (by kernel_rfl) rfl #[.pointer (some ⟨g, 0, none⟩), .int .i64 ix] (by rfl) rfl rfl (by simp only [List.map_toArray, List.map_cons, List.map_nil]; rfl) ?_
                  with_reducible refine (Drop_at g L most ix b (L.erase ix) _ HDB.out rfl HI.out).mono ?_
                  rintro e w4 ⟨rfl, hI, hn⟩
                  refine ⟨_, rfl, ?_⟩
                  have HI_ := Aside0.mk (hI)
                  have HR_ := Aside0.mk (HR.out.nearW HI.out hn)
                  have HB_ := Aside0.mk (hn.bel2 HG.out HB.out)
                  have BK_ := Aside0.mk (KeepBut.blk hn.keep BK.out NG.out.symm (by simp))
                  clear hI hn HI HR HB BK
                  have HI := HI_
                  have HR := HR_
                  have HB := HB_
                  have BK := BK_
                  clear HI_ HR_ HB_ BK_
                  refine hK.out _ _ ((blk_cell BK.out 1).trans rfl) (fun hHeld => ?_)
                  clear hK K
                  refine norm_ (a' := ?_) ?_ ?_
                  rotate_left
                  · show Act.put _ (some 89) _ = _
                    simp only [Act.put, List.setIfInBounds_toArray, List.set_cons_zero, List.set_cons_succ, i64_w, i32_w]
                    rfl
                  refine one_ (i := 7) (N := some 93) #[true, true, true, true, true, true, true, true, false, false] rfl rfl (by kernel_rfl) (by decide) (fun K hK => ?_)
                  refine goes_ Try.func46 (by kernel_rfl) rfl #[.pointer (some ⟨gr, 0, none⟩), .int .i64 ix] (by rfl) rfl rfl (by simp only [List.map_toArray, List.map_cons, List.map_nil]; rfl) ?_
                  with_reducible refine (RDrop_at gr w.heap.size most ix b L (L.erase ix) _ HDB.out rfl HR.out HB.out.size).mono ?_
                  rintro e w5 ⟨rfl, hI, hn⟩
                  refine ⟨_, rfl, ?_⟩
                  have HR_ := Aside0.mk (hI)
                  have HI_ := Aside0.mk (HI.out.nearR HR.out hn)
                  have HB_ := Aside0.mk (hn.bel2 HGR.out HB.out)
                  have BK_ := Aside0.mk (KeepBut.blk hn.keep BK.out NGR.out.symm (by simp))
                  clear hI hn HR HI HB BK
                  have HR := HR_
                  have HI := HI_
                  have HB := HB_
                  have BK := BK_
                  clear HR_ HI_ HB_ BK_
                  refine hK.out _ _ ((blk_cell BK.out 1).trans rfl) (fun hHeld => ?_)
                  clear hK K
                  refine norm_ (a' := ?_) ?_ ?_
                  rotate_left
                  · show Act.put _ (some 93) _ = _
                    simp only [Act.put, List.setIfInBounds_toArray, List.set_cons_zero, List.set_cons_succ, i64_w, i32_w]
                    rfl
                  refine pure_ (i := 8) (N := some 94) (v := ?_) (a' := ?_) #[true, true, true, true, true, true, true, true, true, false] rfl rfl (by kernel_rfl) (fun _ _ _ h => h) (Or.inl ⟨by rfl, ?_⟩) ?_ ?_
                  rotate_left
                  · intro w'
                    go_simp
                    with_reducible rfl
                  rotate_left
                  · simp only [Act.put, List.setIfInBounds_toArray, List.set_cons_zero, List.set_cons_succ, i64_w, i32_w]
                    rfl
                  refine pure_ (i := 9) (N := some 13) (v := ?_) (a' := ?_) #[true, true, true, true, true, true, true, true, true, true] rfl rfl (by kernel_rfl) (fun _ _ _ h => h) (Or.inl ⟨by rfl, ?_⟩) ?_ ?_
                  rotate_left
                  · intro w'
                    go_simp
                    with_reducible rfl
                  rotate_left
                  · simp only [Act.put, List.setIfInBounds_toArray, List.set_cons_zero, List.set_cons_succ, i64_w, i32_w]
                    rfl
                  refine done_ (by kernel_rfl) ?_

                  go_wp2
                  go_meet
                  case rel => exact ⟨L.erase ix, rfl, BK, HI, HR, HB⟩
                · have k2 : (dx == 2) = false := beq_eq_false_iff_ne.mpr d2
                  clear d2
                  go_wp2
                  go_meet
                  case rel => exact ⟨L, rfl, BK, HI, HR, HB⟩
          case rest =>
            clear HI HR HB BK hz0 hz1
            obtain ⟨L', rfl, BK, HI, HR, HB⟩ := hcut
            have HLN := Aside0.mk (show L'.length ≤ 1000000 by have := HI.out.len; omega)
            obtain ⟨p1, hp1⟩ : ∃ e, posOf L' id = e := ⟨_, rfl⟩
            obtain ⟨p2, hp2⟩ : ∃ e, posOf L' ix = e := ⟨_, rfl⟩
            have HP1 := Aside0.mk hp1
            have HP2 := Aside0.mk hp2
            have hpp1 : (p1 != p1) = false := by simp
            have hpp2 : (p2 != p2) = false := by simp
            clear hp1 hp2
            have hu4 := HR.out
            unfold IsR at hu4
            obtain ⟨A2, c2, hG4, hO4, hu4⟩ := hu4
            go_upto_region 24 with (fail)
            have BK_ := Aside0.mk (blk_drew BK.out)
            have HI_ := Aside0.mk HI.out.drew
            have HR_ := Aside0.mk HR.out.drew
            have HB_ := Aside0.mk (below_drew1 HB.out)
            have HG4 := Aside0.mk (blk_drew hG4)
            have HC4 := Aside0.mk (Kd.C_below (Kd.R_reads' hO4).2.2 (below_drew1 (Below.refl _ _)))
            have HCC := Aside0.mk (Kd.R_reads' hO4).2.1
            have HBr := Aside0.mk (Below.refl wc.drew.heap.size wc.drew)
            clear BK HI HR HB hG4 hO4 hu4
            have BK := BK_
            have HI := HI_
            have HR := HR_
            have HB := HB_
            clear BK_ HI_ HR_ HB_
            refine start_ (n := 32) (S := fun w' => w'.cell? ⟨gb, 1, none⟩ = some (.int .i64 ix) ∧ w'.cell? ⟨gr, 0, none⟩ = some (.slice A2 L'.length c2)) (ds := []) #[false, false, false, false, false, false, false, false, false, false, false, false, false, false, false, false, false, false, false, false, false, false, false, false, false, false, false, false, false, false, false, false] (by kernel_rfl) rfl rfl ⟨(blk_cell ((HBr.out.block gb (blk_lt BK.out)).trans BK.out) 1).trans rfl, (blk_cell ((HBr.out.block gr (blk_lt HG4.out)).trans HG4.out) 0).trans rfl⟩ (fun hHeld => ?_)
            generalize World.drew wc = w4 at BK HI HR HB HG4 HC4 HBr hHeld ⊢
            refine pure_ (i := 0) (N := some 95) (v := ?_) (a' := ?_) #[true, false, false, false, false, false, false, false, false, false, false, false, false, false, false, false, false, false, false, false, false, false, false, false, false, false, false, false, false, false, false, false] rfl rfl (by kernel_rfl) (fun _ _ _ h => h) (Or.inl ⟨by rfl, ?_⟩) ?_ ?_
            rotate_left
            · intro w'
              go_simp
              with_reducible rfl
            rotate_left
            · simp only [Act.put, List.setIfInBounds_toArray, List.set_cons_zero, List.set_cons_succ, i64_w, i32_w]
              rfl
            refine pure_ (i := 1) (N := some 96) (v := ?_) (a' := ?_) #[true, true, false, false, false, false, false, false, false, false, false, false, false, false, false, false, false, false, false, false, false, false, false, false, false, false, false, false, false, false, false, false] rfl rfl (by kernel_rfl) (fun _ _ _ h => h) (Or.inl ⟨by rfl, ?_⟩) ?_ ?_
            rotate_left
            · intro w'
              go_simp
              with_reducible rfl
            rotate_left
            · simp only [Act.put, List.setIfInBounds_toArray, List.set_cons_zero, List.set_cons_succ, i64_w, i32_w]
              rfl
            refine pure_ (i := 2) (N := some 97) (v := ?_) (a' := ?_) #[true, true, true, false, false, false, false, false, false, false, false, false, false, false, false, false, false, false, false, false, false, false, false, false, false, false, false, false, false, false, false, false] rfl rfl (by kernel_rfl) (fun _ _ _ h => h) (Or.inl ⟨by rfl, ?_⟩) ?_ ?_
            rotate_left
            · intro w'
              go_simp
              with_reducible rfl
            rotate_left
            · simp only [Act.put, List.setIfInBounds_toArray, List.set_cons_zero, List.set_cons_succ, i64_w, i32_w]
              rfl
            refine pure_ (i := 3) (N := some 98) (v := ?_) (a' := ?_) #[true, true, true, true, false, false, false, false, false, false, false, false, false, false, false, false, false, false, false, false, false, false, false, false, false, false, false, false, false, false, false, false] rfl rfl (by kernel_rfl) (fun _ _ _ h => h) (Or.inl ⟨by rfl, ?_⟩) ?_ ?_
            rotate_left
            · intro w'
              go_simp
              with_reducible rfl
            rotate_left
            · simp only [Act.put, List.setIfInBounds_toArray, List.set_cons_zero, List.set_cons_succ, i64_w, i32_w]
              rfl
            refine pure_ (i := 5) (N := some 100) (v := ?_) (a' := ?_) #[true, true, true, true, false, true, false, false, false, false, false, false, false, false, false, false, false, false, false, false, false, false, false, false, false, false, false, false, false, false, false, false] rfl rfl (by kernel_rfl) (fun _ _ _ h => h) (Or.inl ⟨by rfl, ?_⟩) ?_ ?_
            rotate_left
            · intro w'
              go_simp
              with_reducible rfl
            rotate_left
            · simp only [Act.put, List.setIfInBounds_toArray, List.set_cons_zero, List.set_cons_succ, i64_w, i32_w]
              rfl
            refine pure_ (i := 6) (N := some 101) (v := ?_) (a' := ?_) #[true, true, true, true, false, true, true, false, false, false, false, false, false, false, false, false, false, false, false, false, false, false, false, false, false, false, false, false, false, false, false, false] rfl rfl (by kernel_rfl) (fun _ _ _ h => h) (Or.inl ⟨by rfl, ?_⟩) ?_ ?_
            rotate_left
            · intro w'
              go_simp
              with_reducible rfl
            rotate_left
            · simp only [Act.put, List.setIfInBounds_toArray, List.set_cons_zero, List.set_cons_succ, i64_w, i32_w]
              rfl
            refine pure_ (i := 7) (N := some 102) (v := ?_) (a' := ?_) #[true, true, true, true, false, true, true, true, false, false, false, false, false, false, false, false, false, false, false, false, false, false, false, false, false, false, false, false, false, false, false, false] rfl rfl (by kernel_rfl) (fun _ _ _ h => h) (Or.inl ⟨by rfl, ?_⟩) ?_ ?_
            rotate_left
            · intro w'
              go_simp
              with_reducible rfl
            rotate_left
            · simp only [Act.put, List.setIfInBounds_toArray, List.set_cons_zero, List.set_cons_succ, i64_w, i32_w]
              rfl
            refine take_ (i := 8) (N := some 103) (v := ?_) (a' := ?_) #[true, true, true, true, false, true, true, true, true, false, false, false, false, false, false, false, false, false, false, false, false, false, false, false, false, false, false, false, false, false, false, false] rfl rfl (by kernel_rfl) (fun _ _ _ h => h) (Or.inl ⟨by rfl, ?_⟩) hHeld ?_ ?_
            rotate_left
            · rintro w' ⟨s0, s1⟩
              go_simp
              with_reducible rfl
            rotate_left
            · simp only [Act.put, List.setIfInBounds_toArray, List.set_cons_zero, List.set_cons_succ, i64_w, i32_w]
              rfl
            refine one_ (i := 4) (N := some 99) #[true, true, true, true, true, true, true, true, true, false, false, false, false, false, false, false, false, false, false, false, false, false, false, false, false, false, false, false, false, false, false, false] rfl rfl (by kernel_rfl) (by decide) (fun K hK => ?_)
            refine goes_ Try.func47 (by kernel_rfl) rfl #[.pointer (some ⟨g, 0, none⟩)] (by rfl) rfl rfl (by simp only [List.map_toArray, List.map_cons, List.map_nil]; rfl) ?_
            with_reducible refine (All_calls g most L' _ (HI.out.below HBr.out)).mono ?_
            rintro e w5 ⟨v, rfl, ho, hb⟩
            refine ⟨_, rfl, ?_⟩
            obtain ⟨A1, c1, rfl⟩ := Kd.R_slice ho
            have HO := Aside0.mk ho
            clear ho
            have HBr_ := Aside0.mk (below_step HBr.out hb)
            clear hb HBr
            have HBr := HBr_
            clear HBr_
            refine hK.out _ _ ⟨(blk_cell ((HBr.out.block gb (blk_lt BK.out)).trans BK.out) 1).trans rfl, (blk_cell ((HBr.out.block gr (blk_lt HG4.out)).trans HG4.out) 0).trans rfl⟩ (fun hHeld => ?_)
            clear hK K
            refine norm_ (a' := ?_) ?_ ?_
            rotate_left
            · show Act.put _ (some 99) _ = _
              simp only [Act.put, List.setIfInBounds_toArray, List.set_cons_zero, List.set_cons_succ, i64_w, i32_w]
              rfl
            refine one_ (i := 9) (N := some 104) #[true, true, true, true, true, true, true, true, true, true, false, false, false, false, false, false, false, false, false, false, false, false, false, false, false, false, false, false, false, false, false, false] rfl rfl (by kernel_rfl) (by decide) (fun K hK => ?_)
            refine goes_ Try.func33 (by kernel_rfl) rfl #[.slice A1 L'.length c1, .slice A2 L'.length c2] (by rfl) rfl rfl (by simp only [List.map_toArray, List.map_cons, List.map_nil]; rfl) ?_
            with_reducible refine (Same_below A1 c1 L' A2 c2 L' _ rfl HLN.out (Kd.R_reads' HO.out).2.2 (Kd.R_reads' HO.out).2.1 (Kd.C_below HC4.out HBr.out) HCC.out).mono ?_
            rintro e w6 ⟨rfl, hb⟩
            refine ⟨_, rfl, ?_⟩
            have HBr_ := Aside0.mk (below_step HBr.out hb)
            clear hb HBr
            have HBr := HBr_
            clear HBr_
            refine hK.out _ _ ⟨(blk_cell ((HBr.out.block gb (blk_lt BK.out)).trans BK.out) 1).trans rfl, (blk_cell ((HBr.out.block gr (blk_lt HG4.out)).trans HG4.out) 0).trans rfl⟩ (fun hHeld => ?_)
            clear hK K
            refine norm_ (a' := ?_) ?_ ?_
            rotate_left
            · show Act.put _ (some 104) _ = _
              simp only [Act.put, List.setIfInBounds_toArray, List.set_cons_zero, List.set_cons_succ, i64_w, i32_w]
              rfl
            refine pure_ (i := 10) (N := some 105) (v := ?_) (a' := ?_) #[true, true, true, true, true, true, true, true, true, true, true, false, false, false, false, false, false, false, false, false, false, false, false, false, false, false, false, false, false, false, false, false] rfl rfl (by kernel_rfl) (fun _ _ _ h => h) (Or.inl ⟨by rfl, ?_⟩) ?_ ?_
            rotate_left
            · intro w'
              go_simp
              with_reducible rfl
            rotate_left
            · simp only [Act.put, List.setIfInBounds_toArray, List.set_cons_zero, List.set_cons_succ, i64_w, i32_w]
              rfl
            refine pure_ (i := 11) (N := some 106) (v := ?_) (a' := ?_) #[true, true, true, true, true, true, true, true, true, true, true, true, false, false, false, false, false, false, false, false, false, false, false, false, false, false, false, false, false, false, false, false] rfl rfl (by kernel_rfl) (fun _ _ _ h => h) (Or.inl ⟨by rfl, ?_⟩) ?_ ?_
            rotate_left
            · intro w'
              go_simp
              with_reducible rfl
            rotate_left
            · simp only [Act.put, List.setIfInBounds_toArray, List.set_cons_zero, List.set_cons_succ, i64_w, i32_w]
              rfl
            refine pure_ (i := 12) (N := some 107) (v := ?_) (a' := ?_) #[true, true, true, true, true, true, true, true, true, true, true, true, true, false, false, false, false, false, false, false, false, false, false, false, false, false, false, false, false, false, false, false] rfl rfl (by kernel_rfl) (fun _ _ _ h => h) (Or.inl ⟨by rfl, ?_⟩) ?_ ?_
            rotate_left
            · intro w'
              go_simp
              with_reducible rfl
            rotate_left
            · simp only [Act.put, List.setIfInBounds_toArray, List.set_cons_zero, List.set_cons_succ, i64_w, i32_w]
              rfl
            refine pure_ (i := 13) (N := some 108) (v := ?_) (a' := ?_) #[true, true, true, true, true, true, true, true, true, true, true, true, true, true, false, false, false, false, false, false, false, false, false, false, false, false, false, false, false, false, false, false] rfl rfl (by kernel_rfl) (fun _ _ _ h => h) (Or.inl ⟨by rfl, ?_⟩) ?_ ?_
            rotate_left
            · intro w'
              go_simp
              with_reducible rfl
            rotate_left
            · simp only [Act.put, List.setIfInBounds_toArray, List.set_cons_zero, List.set_cons_succ, i64_w, i32_w]
              rfl
            refine pure_ (i := 14) (N := some 109) (v := ?_) (a' := ?_) #[true, true, true, true, true, true, true, true, true, true, true, true, true, true, true, false, false, false, false, false, false, false, false, false, false, false, false, false, false, false, false, false] rfl rfl (by kernel_rfl) (fun _ _ _ h => h) (Or.inl ⟨by rfl, ?_⟩) ?_ ?_
            rotate_left
            · intro w'
              go_simp
              with_reducible rfl
            rotate_left
            · simp only [Act.put, List.setIfInBounds_toArray, List.set_cons_zero, List.set_cons_succ, i64_w, i32_w]
              rfl
            refine pure_ (i := 16) (N := some 111) (v := ?_) (a' := ?_) #[true, true, true, true, true, true, true, true, true, true, true, true, true, true, true, false, true, false, false, false, false, false, false, false, false, false, false, false, false, false, false, false] rfl rfl (by kernel_rfl) (fun _ _ _ h => h) (Or.inl ⟨by rfl, ?_⟩) ?_ ?_
            rotate_left
            · intro w'
              go_simp
              with_reducible rfl
            rotate_left
            · simp only [Act.put, List.setIfInBounds_toArray, List.set_cons_zero, List.set_cons_succ, i64_w, i32_w]
              rfl
            refine pure_ (i := 17) (N := some 112) (v := ?_) (a' := ?_) #[true, true, true, true, true, true, true, true, true, true, true, true, true, true, true, false, true, true, false, false, false, false, false, false, false, false, false, false, false, false, false, false] rfl rfl (by kernel_rfl) (fun _ _ _ h => h) (Or.inl ⟨by rfl, ?_⟩) ?_ ?_
            rotate_left
            · intro w'
              go_simp
              with_reducible rfl
            rotate_left
            · simp only [Act.put, List.setIfInBounds_toArray, List.set_cons_zero, List.set_cons_succ, i64_w, i32_w]
              rfl
            refine one_ (i := 15) (N := some 110) #[true, true, true, true, true, true, true, true, true, true, true, true, true, true, true, true, true, true, false, false, false, false, false, false, false, false, false, false, false, false, false, false] rfl rfl (by kernel_rfl) (by decide) (fun K hK => ?_)
            refine goes_ Try.func48 (by kernel_rfl) rfl #[.pointer (some ⟨g, 0, none⟩), .int .i64 id] (by rfl) rfl rfl (by simp only [List.map_toArray, List.map_cons, List.map_nil]; rfl) ?_
            with_reducible refine (At_below g L' most id p1 _ HP1.out (HI.out.below HBr.out)).mono ?_
            rintro e w7 ⟨rfl, hb⟩
            refine ⟨_, rfl, ?_⟩
            have HBr_ := Aside0.mk (below_step HBr.out hb)
            clear hb HBr
            have HBr := HBr_
            clear HBr_
            refine hK.out _ _ ⟨(blk_cell ((HBr.out.block gb (blk_lt BK.out)).trans BK.out) 1).trans rfl, (blk_cell ((HBr.out.block gr (blk_lt HG4.out)).trans HG4.out) 0).trans rfl⟩ (fun hHeld => ?_)
            clear hK K
            refine norm_ (a' := ?_) ?_ ?_
            rotate_left
            · show Act.put _ (some 110) _ = _
              simp only [Act.put, List.setIfInBounds_toArray, List.set_cons_zero, List.set_cons_succ, i64_w, i32_w]
              rfl
            refine one_ (i := 18) (N := some 113) #[true, true, true, true, true, true, true, true, true, true, true, true, true, true, true, true, true, true, true, false, false, false, false, false, false, false, false, false, false, false, false, false] rfl rfl (by kernel_rfl) (by decide) (fun K hK => ?_)
            refine goes_ Try.func49 (by kernel_rfl) rfl #[.pointer (some ⟨gr, 0, none⟩), .int .i64 id] (by rfl) rfl rfl (by simp only [List.map_toArray, List.map_cons, List.map_nil]; rfl) ?_
            with_reducible refine (RAt_below gr w.heap.size most id p1 L' _ HP1.out (HR.out.below HBr.out)).mono ?_
            rintro e w8 ⟨rfl, hb⟩
            refine ⟨_, rfl, ?_⟩
            have HBr_ := Aside0.mk (below_step HBr.out hb)
            clear hb HBr
            have HBr := HBr_
            clear HBr_
            refine hK.out _ _ ⟨(blk_cell ((HBr.out.block gb (blk_lt BK.out)).trans BK.out) 1).trans rfl, (blk_cell ((HBr.out.block gr (blk_lt HG4.out)).trans HG4.out) 0).trans rfl⟩ (fun hHeld => ?_)
            clear hK K
            refine norm_ (a' := ?_) ?_ ?_
            rotate_left
            · show Act.put _ (some 113) _ = _
              simp only [Act.put, List.setIfInBounds_toArray, List.set_cons_zero, List.set_cons_succ, i64_w, i32_w]
              rfl
            refine pure_ (i := 19) (N := some 114) (v := ?_) (a' := ?_) #[true, true, true, true, true, true, true, true, true, true, true, true, true, true, true, true, true, true, true, true, false, false, false, false, false, false, false, false, false, false, false, false] rfl rfl (by kernel_rfl) (fun _ _ _ h => h) (Or.inl ⟨by rfl, ?_⟩) ?_ ?_
            rotate_left
            · intro w'
              go_simp
              with_reducible rfl
            rotate_left
            · simp only [Act.put, List.setIfInBounds_toArray, List.set_cons_zero, List.set_cons_succ, i64_w, i32_w]
              rfl
            refine pure_ (i := 20) (N := some 115) (v := ?_) (a' := ?_) #[true, true, true, true, true, true, true, true, true, true, true, true, true, true, true, true, true, true, true, true, true, false, false, false, false, false, false, false, false, false, false, false] rfl rfl (by kernel_rfl) (fun _ _ _ h => h) (Or.inl ⟨by rfl, ?_⟩) ?_ ?_
            rotate_left
            · intro w'
              go_simp
              with_reducible rfl
            rotate_left
            · simp only [Act.put, List.setIfInBounds_toArray, List.set_cons_zero, List.set_cons_succ, i64_w, i32_w]
              rfl
            refine pure_ (i := 21) (N := some 116) (v := ?_) (a' := ?_) #[true, true, true, true, true, true, true, true, true, true, true, true, true, true, true, true, true, true, true, true, true, true, false, false, false, false, false, false, false, false, false, false] rfl rfl (by kernel_rfl) (fun _ _ _ h => h) (Or.inl ⟨by rfl, ?_⟩) ?_ ?_
            rotate_left
            · intro w'
              go_simp
              with_reducible rfl
            rotate_left
            · simp only [Act.put, List.setIfInBounds_toArray, List.set_cons_zero, List.set_cons_succ, i64_w, i32_w]
              rfl
            refine pure_ (i := 22) (N := some 117) (v := ?_) (a' := ?_) #[true, true, true, true, true, true, true, true, true, true, true, true, true, true, true, true, true, true, true, true, true, true, true, false, false, false, false, false, false, false, false, false] rfl rfl (by kernel_rfl) (fun _ _ _ h => h) (Or.inl ⟨by rfl, ?_⟩) ?_ ?_
            rotate_left
            · intro w'
              go_simp
              with_reducible rfl
            rotate_left
            · simp only [Act.put, List.setIfInBounds_toArray, List.set_cons_zero, List.set_cons_succ, i64_w, i32_w]
              rfl
            refine pure_ (i := 23) (N := some 118) (v := ?_) (a' := ?_) #[true, true, true, true, true, true, true, true, true, true, true, true, true, true, true, true, true, true, true, true, true, true, true, true, false, false, false, false, false, false, false, false] rfl rfl (by kernel_rfl) (fun _ _ _ h => h) (Or.inl ⟨by rfl, ?_⟩) ?_ ?_
            rotate_left
            · intro w'
              go_simp
              with_reducible rfl
            rotate_left
            · simp only [Act.put, List.setIfInBounds_toArray, List.set_cons_zero, List.set_cons_succ, i64_w, i32_w]
              rfl
            refine pure_ (i := 26) (N := some 121) (v := ?_) (a' := ?_) #[true, true, true, true, true, true, true, true, true, true, true, true, true, true, true, true, true, true, true, true, true, true, true, true, false, false, true, false, false, false, false, false] rfl rfl (by kernel_rfl) (fun _ _ _ h => h) (Or.inl ⟨by rfl, ?_⟩) ?_ ?_
            rotate_left
            · intro w'
              go_simp
              with_reducible rfl
            rotate_left
            · simp only [Act.put, List.setIfInBounds_toArray, List.set_cons_zero, List.set_cons_succ, i64_w, i32_w]
              rfl
            refine pure_ (i := 27) (N := some 122) (v := ?_) (a' := ?_) #[true, true, true, true, true, true, true, true, true, true, true, true, true, true, true, true, true, true, true, true, true, true, true, true, false, false, true, true, false, false, false, false] rfl rfl (by kernel_rfl) (fun _ _ _ h => h) (Or.inl ⟨by rfl, ?_⟩) ?_ ?_
            rotate_left
            · intro w'
              go_simp
              with_reducible rfl
            rotate_left
            · simp only [Act.put, List.setIfInBounds_toArray, List.set_cons_zero, List.set_cons_succ, i64_w, i32_w]
              rfl
            refine take_ (i := 24) (N := some 119) (v := ?_) (a' := ?_) #[true, true, true, true, true, true, true, true, true, true, true, true, true, true, true, true, true, true, true, true, true, true, true, true, true, false, true, true, false, false, false, false] rfl rfl (by kernel_rfl) (fun _ _ _ h => h) (Or.inl ⟨by rfl, ?_⟩) hHeld ?_ ?_
            rotate_left
            · rintro w' ⟨s0, s1⟩
              go_simp
              with_reducible rfl
            rotate_left
            · simp only [Act.put, List.setIfInBounds_toArray, List.set_cons_zero, List.set_cons_succ, i64_w, i32_w]
              rfl
            refine take_ (i := 28) (N := some 123) (v := ?_) (a' := ?_) #[true, true, true, true, true, true, true, true, true, true, true, true, true, true, true, true, true, true, true, true, true, true, true, true, true, false, true, true, true, false, false, false] rfl rfl (by kernel_rfl) (fun _ _ _ h => h) (Or.inl ⟨by rfl, ?_⟩) hHeld ?_ ?_
            rotate_left
            · rintro w' ⟨s0, s1⟩
              go_simp
              with_reducible rfl
            rotate_left
            · simp only [Act.put, List.setIfInBounds_toArray, List.set_cons_zero, List.set_cons_succ, i64_w, i32_w]
              rfl
            refine one_ (i := 25) (N := some 120) #[true, true, true, true, true, true, true, true, true, true, true, true, true, true, true, true, true, true, true, true, true, true, true, true, true, true, true, true, true, false, false, false] rfl rfl (by kernel_rfl) (by decide) (fun K hK => ?_)
            refine goes_ Try.func48 (by kernel_rfl) rfl #[.pointer (some ⟨g, 0, none⟩), .int .i64 ix] (by rfl) rfl rfl (by simp only [List.map_toArray, List.map_cons, List.map_nil]; rfl) ?_
            with_reducible refine (At_below g L' most ix p2 _ HP2.out (HI.out.below HBr.out)).mono ?_
            rintro e w9 ⟨rfl, hb⟩
            refine ⟨_, rfl, ?_⟩
            have HBr_ := Aside0.mk (below_step HBr.out hb)
            clear hb HBr
            have HBr := HBr_
            clear HBr_
            refine hK.out _ _ ⟨(blk_cell ((HBr.out.block gb (blk_lt BK.out)).trans BK.out) 1).trans rfl, (blk_cell ((HBr.out.block gr (blk_lt HG4.out)).trans HG4.out) 0).trans rfl⟩ (fun hHeld => ?_)
            clear hK K
            refine norm_ (a' := ?_) ?_ ?_
            rotate_left
            · show Act.put _ (some 120) _ = _
              simp only [Act.put, List.setIfInBounds_toArray, List.set_cons_zero, List.set_cons_succ, i64_w, i32_w]
              rfl
            refine one_ (i := 29) (N := some 124) #[true, true, true, true, true, true, true, true, true, true, true, true, true, true, true, true, true, true, true, true, true, true, true, true, true, true, true, true, true, true, false, false] rfl rfl (by kernel_rfl) (by decide) (fun K hK => ?_)
            refine goes_ Try.func49 (by kernel_rfl) rfl #[.pointer (some ⟨gr, 0, none⟩), .int .i64 ix] (by rfl) rfl rfl (by simp only [List.map_toArray, List.map_cons, List.map_nil]; rfl) ?_
            with_reducible refine (RAt_below gr w.heap.size most ix p2 L' _ HP2.out (HR.out.below HBr.out)).mono ?_
            rintro e w10 ⟨rfl, hb⟩
            refine ⟨_, rfl, ?_⟩
            have HBr_ := Aside0.mk (below_step HBr.out hb)
            clear hb HBr
            have HBr := HBr_
            clear HBr_
            refine hK.out _ _ ⟨(blk_cell ((HBr.out.block gb (blk_lt BK.out)).trans BK.out) 1).trans rfl, (blk_cell ((HBr.out.block gr (blk_lt HG4.out)).trans HG4.out) 0).trans rfl⟩ (fun hHeld => ?_)
            clear hK K
            refine norm_ (a' := ?_) ?_ ?_
            rotate_left
            · show Act.put _ (some 124) _ = _
              simp only [Act.put, List.setIfInBounds_toArray, List.set_cons_zero, List.set_cons_succ, i64_w, i32_w]
              rfl
            refine pure_ (i := 30) (N := some 125) (v := ?_) (a' := ?_) #[true, true, true, true, true, true, true, true, true, true, true, true, true, true, true, true, true, true, true, true, true, true, true, true, true, true, true, true, true, true, true, false] rfl rfl (by kernel_rfl) (fun _ _ _ h => h) (Or.inl ⟨by rfl, ?_⟩) ?_ ?_
            rotate_left
            · intro w'
              go_simp
              with_reducible rfl
            rotate_left
            · simp only [Act.put, List.setIfInBounds_toArray, List.set_cons_zero, List.set_cons_succ, i64_w, i32_w]
              rfl
            refine pure_ (i := 31) (N := some 126) (v := ?_) (a' := ?_) #[true, true, true, true, true, true, true, true, true, true, true, true, true, true, true, true, true, true, true, true, true, true, true, true, true, true, true, true, true, true, true, true] rfl rfl (by kernel_rfl) (fun _ _ _ h => h) (Or.inl ⟨by rfl, ?_⟩) ?_ ?_
            rotate_left
            · intro w'
              go_simp
              with_reducible rfl
            rotate_left
            · simp only [Act.put, List.setIfInBounds_toArray, List.set_cons_zero, List.set_cons_succ, i64_w, i32_w]
              rfl
            refine done_ (by kernel_rfl) ?_

            have HI_ := Aside0.mk (HI.out.below HBr.out)
            have HR_ := Aside0.mk (HR.out.below HBr.out)
            have HB_ := Aside0.mk (below_step HB.out HBr.out)
            clear HI HR HB HBr BK HG4 HC4
            go_wp2
            go_roundg gk0
            case measure => omega
            case rel => exact ⟨i + 1, L', congrArg (Value.int .i64) (by omega), ⟨by have := HK.out; omega⟩, ⟨by omega⟩, HI_, HR_, HB_⟩
        · have cb : decide ((i : Int) < (l.length : Int)) = false := decide_eq_false (by omega)
          go_wp2
          go_ret
          exact ⟨rfl, HB.out⟩
    · go_enter Try.func9, Try.ntmps9
      go_wp2_with (first | (go_at_call 38; refine (awake_calls _).mono ?_; rintro e w' ⟨rfl, hb⟩; have HB' := Aside0.mk (below_step HB.out hb); clear hb HB; have HB := HB'; clear HB') | (go_at_call 39; refine (New_bad most _ cm).mono ?_; rintro e w' ⟨rfl, rfl⟩) | (go_at_call 40; refine (RNew_bad most _ cm).mono ?_; rintro e w' ⟨rfl, rfl⟩))
      go_ret
      exact ⟨rfl, HB.out⟩
  · have b2 : decide (200 < (l.length : Int)) = true := decide_eq_true (by omega)
    go_enter Try.func9, Try.ntmps9
    go_wp2_with (first | (go_at_call 38; refine (awake_calls _).mono ?_; rintro e w' ⟨rfl, hb⟩; have HB' := Aside0.mk (below_step HB.out hb); clear hb HB; have HB := HB'; clear HB'))
    go_ret
    exact ⟨rfl, HB.out⟩
end Go.Proofs.Ytagmefjpnmjcjaa.Wa
