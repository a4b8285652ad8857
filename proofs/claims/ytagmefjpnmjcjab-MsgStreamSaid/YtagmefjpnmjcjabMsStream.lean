/- MsgStream, walked by hand. -/
import Derived.Test.YtagmefjpnmjcjabMsStreamP
namespace Go.Proofs.Ytagmefjpnmjcjab.Mh
open Go.RowKit Go.Proofs.YtagmefjpnmjcjabW.PrintWords Go.Proofs.YtagmefjpnmjcjabW.PrintLast Go.Proofs.YtagmefjpnmjcjabW.PrintMore
open Go.Proofs.Ytagmefjpnmjcjab.FrNum (Bytes)
open Go.Proofs.Ytagmefjpnmjcjab.Fr (S38 k38 info38 info5 at_T38 rd_T38 z38)
open Go.Proofs.Ytagmefjpnmjcjab.Fh
attribute [local go_sem] max2_int min2_int max_two min_two
set_option linter.unusedVariables false
set_option linter.unusedSimpArgs false
theorem T38_at (l : List S38) (i : Nat) (h : i < l.length) : rd_T38 l (i : Int) = l[i] := by
  unfold rd_T38
  rw [Int.toNat_natCast, List.getD_eq_getElem?_getD, List.getElem?_eq_getElem h]
  rfl
theorem T8.near_ {w w' : World} {g : Nat} {v : Value} {l : List Int} (h : T8 w v l) (ht : ∃ cells, w.heap[g]? = some (.cells cells 93 (0, 0))) (hn : Near w w' g) : T8 w' v l := h.near ht hn
attribute [local irreducible] IsD T8 Near TV TN

set_option maxHeartbeats 8000000 in
set_option maxRecDepth 100000 in
theorem MsgStream_calls (A0 : Option Addr) (c0 : Nat) (l : List S67) (A1 : Option Addr) (c1 : Nat) (cuts : List Int) (w : World) (hr0 : Kd.C k67 w A0 l.length l) (hc0 : l.length ≤ c0) (hr1 : Kd.C (Kd.int .i64) w A1 cuts.length cuts) (hc1 : cuts.length ≤ c1)
    (hwf0 : ∀ m ∈ l, (Lit.int .i64 m.f0).wf = true ∧ (∀ x ∈ m.f1, (Lit.int .u64 x).wf = true) ∧ ∀ t ∈ m.f2, t.size ≤ maxLen) (hwf1 : ∀ x ∈ cuts, (Lit.int .i64 x).wf = true) :
    Calls Try.prog 12 #[.slice A0 l.length c0, .slice A1 cuts.length c1] w fun e w' => e = .returned (.bool true) ∧ Below w.heap.size w w' := by
  have HB := Aside0.mk (Below.refl w.heap.size w)
  obtain ⟨n0, hn0⟩ : ∃ n, l.length = n := ⟨_, rfl⟩
  obtain ⟨n1, hn1⟩ : ∃ n, cuts.length = n := ⟨_, rfl⟩
  rw [hn0] at hr0 hc0 ⊢
  rw [hn1] at hr1 hc1 ⊢
  have HN0 := Aside0.mk hn0
  have HL1 := Aside0.mk hn1
  have HA := Aside0.mk hr0
  have HU := Aside0.mk hr1
  have HWU := Aside0.mk (show ∀ m ∈ l, ∀ x ∈ m.f1, 0 ≤ x ∧ x ≤ 18446744073709551615 from fun m hm x hx => u64_range ((hwf0 m hm).2.1 x hx))
  have hu38 := Try.underlying38
  have hu67 := Try.underlying67
  clear hr0 hc0 hr1 hc1 hwf0 hwf1 hn0
  by_cases cl : n0 > 12
  · have b0 : decide (12 < (n0 : Int)) = true := decide_eq_true (by omega)
    go_enter Try.func12, Try.ntmps12
    go_wp2_with (first | (go_at_call 37; with_reducible refine (Mh.awake_calls _).mono ?_; rintro e w' ⟨rfl, hb⟩; have HB_ := Aside0.mk (below_step HB.out hb); clear HB; have HB := HB_; clear HB_; clear hb))
    go_ret
    exact ⟨rfl, HB.out⟩
  have b0 : decide (12 < (n0 : Int)) = false := decide_eq_false (by omega)
  by_cases cm : n1 > 20
  · have b1 : decide (20 < (n1 : Int)) = true := decide_eq_true (by omega)
    go_enter Try.func12, Try.ntmps12
    go_wp2_with (first | (go_at_call 37; with_reducible refine (Mh.awake_calls _).mono ?_; rintro e w' ⟨rfl, hb⟩; have HB_ := Aside0.mk (below_step HB.out hb); clear HB; have HB := HB_; clear HB_; clear hb))
    go_ret
    exact ⟨rfl, HB.out⟩
  have b1 : decide (20 < (n1 : Int)) = false := decide_eq_false (by omega)
  have HN12 := Aside0.mk (show n0 ≤ 12 by omega)
  have HN1 := Aside0.mk (show n1 ≤ 20 by omega)
  clear cl cm
  go_enter Try.func12, Try.ntmps12
  go_wp2_with (first | (go_at_call 37; with_reducible refine (Mh.awake_calls _).mono ?_; rintro e w' ⟨rfl, hb⟩; have HB_ := Aside0.mk (below_step HB.out hb); clear HB; have HB := HB_; clear HB_; clear hb))
  go_loopg [5, 34] (n0 + 1) (fun kq v5 v34 w' => ∃ i : Nat, v34 = .int .i64 (i : Int) ∧ Aside0 (kq + i = n0 + 1) ∧ Aside0 (i ≤ n0) ∧ Aside0 (∀ m ∈ l.take i, sent m) ∧ Aside0 (Kd.R (Kd.int .u8) 5 w' w.heap.size (fun _ => True) v5 (allB ((l.take i).map frm))) ∧ Aside0 (Below w.heap.size w w'))
  case atStart => exact ⟨0, rfl, ⟨by omega⟩, ⟨by omega⟩, ⟨fun m hm => by simp at hm⟩, ⟨Kd.R_nil _ _ _ _ _⟩, HB⟩
  case round =>
    clear HB
    obtain ⟨i, rfl, HKQ, HI, HMY, HT, HB⟩ := hrel
    obtain ⟨gk, rfl⟩ : ∃ gk', gk = gk' + 1 := ⟨gk - 1, by have := HKQ.out; have := HI.out; omega⟩
    by_cases ci : i < n0
    · have cb : decide ((i : Int) < (n0 : Int)) = true := decide_eq_true (by omega)
      have p1 : 0 ≤ (i : Int) := by omega
      have p2 : (i : Int) < (n0 : Int) := by omega
      have hwi : wrap64 ((i : Int) + 1) = ((i + 1 : Nat) : Int) := by have := HN12.out; unfold wrap64; omega
      obtain ⟨ad, M1, d1, M2, d2, e7, hy0, hy1, hy2, hyc1, hyC1, hyc2, hyC2⟩ := at_T67 HA.out i p1 p2
      cases e7
      replace hy0 := (HB.out.cell (World.block_lt_of_cell? w _ hy0)).trans hy0
      replace hy1 := (HB.out.cell (World.block_lt_of_cell? w _ hy1)).trans hy1
      replace hy2 := (HB.out.cell (World.block_lt_of_cell? w _ hy2)).trans hy2
      simp only [Int.toNat_natCast] at hy0 hy1 hy2
      have hil : i < l.length := by rw [HN0.out]; exact ci
      rw [T67_eq l i hil] at hy0 hy1 hy2 hyc1 hyC1 hyc2 hyC2
      have hwu := HWU.out _ (List.getElem_mem hil)
      have hal := allF_take hil
      have hsl : ∀ f ∈ l.take (i + 1), f ∈ l.take i ∨ f = l[i] := fun f hf => by
        rw [List.take_add_one, List.getElem?_eq_getElem hil] at hf
        rcases List.mem_append.1 hf with h | h
        · exact .inl h
        · exact .inr (List.mem_singleton.1 h)
      obtain ⟨⟨k, ns, ts⟩, hf⟩ : ∃ f, l[i] = f := ⟨_, rfl⟩
      rw [hf] at hy0 hy1 hy2 hyc1 hyC1 hyc2 hyC2 hwu hal hsl
      simp only at hy0 hy1 hy2 hyc1 hyC1 hyc2 hyC2 hwu hal
      obtain ⟨m1, hm1⟩ : ∃ n, ns.length = n := ⟨_, rfl⟩
      obtain ⟨m2, hm2⟩ : ∃ n, ts.length = n := ⟨_, rfl⟩
      rw [hm1] at hy1 hyc1 hyC1
      rw [hm2] at hy2 hyc2 hyC2
      have HM1 := Aside0.mk hm1
      have HM2 := Aside0.mk hm2
      have HC1 := Aside0.mk hyC1
      have HCC1 := Aside0.mk hyc1
      have HC2 := Aside0.mk hyC2
      have HCC2 := Aside0.mk hyc2
      have HWF := Aside0.mk hwu
      have HMX := Aside0.mk hyC2.2.1
      obtain ⟨lr, hlr⟩ : ∃ r, largeS ns ts = r := ⟨_, rfl⟩
      have HLR := Aside0.mk hlr
      clear hyC1 hyc1 hyC2 hyc2 hwu hm1 hm2 hf hil
      cases lr with
      | true =>
        clear hlr hal hsl
        go_wp2_with (first | ((with_reducible refine gate_dst (N := 7) rfl ?_); refine box_event ?hg (N := 7) ?hd (cs := #[.int .i64 0, .slice none 0 0, .slice none 0 0]) (t := 67) ?hr ?_; (case hd => rfl); (case hg => rfl); (case hr => first | (go_simp; done) | (go_simp; rfl)); intro g7 hgb w_1 hbox hb; have HZ_ := Aside0.mk hbox; have HGE_ := Aside0.mk (Nat.le_of_eq hgb.symm); have HBa_ := Aside0.mk hb; clear hgb hb hbox) | ((with_reducible refine gate_ (.store 67 (.tmp 7) (.tmp 37)) rfl ?_); refine store_event 67 (.tmp 7) (.tmp 37) rfl rfl rfl (g := g7) #[.int .i64 0, .slice none 0 0, .slice none 0 0] #[.int .i64 k, .slice M1 m1 d1, .slice M2 m2 d2] [.int .i64 k, .slice M1 m1 d1, .slice M2 m2 d2] rfl rfl rfl size67 HZ_.out (by simp) (by rfl) rfl ?_; intro w_2 hbox hs; have hb := hs.below HBa_.out HGE_.out; have HB_ := Aside0.mk (below_step HB.out hb); have HT_ := Aside0.mk (Kd.R_below HT.out hb); clear HB HT; have HB := HB_; have HT := HT_; clear HB_ HT_; have HXg7 := Aside0.mk hbox; clear hbox hs hb HZ_ HGE_ HBa_; have cg7_0 : w_2.cell? ⟨g7, 0, none⟩ = some (.int .i64 k) := (blk_cell HXg7.out 0).trans rfl; have cg7_1 : w_2.cell? ⟨g7, 1, none⟩ = some (.slice M1 m1 d1) := (blk_cell HXg7.out 1).trans rfl; have cg7_2 : w_2.cell? ⟨g7, 2, none⟩ = some (.slice M2 m2 d2) := (blk_cell HXg7.out 2).trans rfl) | (go_at_call 38; with_reducible refine (Large_calls k M1 m1 d1 ns HM1.out M2 m2 d2 ts HM2.out true _ (Kd.C_below HC1.out HB.out) HCC1.out (Kd.C_below HC2.out HB.out) HCC2.out HMX.out HLR.out).mono ?_; rintro e w_3 ⟨rfl, hb⟩; skip; have HB_ := Aside0.mk (below_step HB.out hb); have HT_ := Aside0.mk (Kd.R_below HT.out hb); have HXg7_ := Aside0.mk ((hb.block g7 (blk_lt HXg7.out)).trans HXg7.out); clear HB HT HXg7; have HB := HB_; have HT := HT_; have HXg7 := HXg7_; clear HB_ HT_ HXg7_; clear hb; have cg7_0 : w_3.cell? ⟨g7, 0, none⟩ = some (.int .i64 k) := (blk_cell HXg7.out 0).trans rfl; have cg7_1 : w_3.cell? ⟨g7, 1, none⟩ = some (.slice M1 m1 d1) := (blk_cell HXg7.out 1).trans rfl; have cg7_2 : w_3.cell? ⟨g7, 2, none⟩ = some (.slice M2 m2 d2) := (blk_cell HXg7.out 2).trans rfl))
        go_ret
        exact ⟨rfl, HB.out⟩
      | false =>
        have hmb := mbytes_or k ns ts
        obtain ⟨⟨p, ee⟩, hp⟩ : ∃ r, mbytesS k ns ts = r := ⟨_, rfl⟩
        rw [hp] at hmb
        simp only at hmb
        have HMB := Aside0.mk hp
        by_cases ce : ee = 0
        · subst ce
          rcases hmb with h | ⟨hse, hpe⟩
          · exact absurd rfl h
          injection hpe with hpe _
          obtain ⟨pn, hpn⟩ : ∃ n, p.length = n := ⟨_, rfl⟩
          have HPN := Aside0.mk hpn
          have HPL := Aside0.mk (show pn ≤ 303 by
            have h300 : (bodyM k ns ts).length ≤ 300 := hse.2.2.2
            have hk1 : 1 ≤ k := hse.2.1
            rw [← hpn, hpe, bytesS_len (c := k) (by omega) h300]
            omega)
          have HMY2 := Aside0.mk (show ∀ f ∈ l.take (i + 1), sent f from fun f hf => by
            rcases hsl f hf with h | rfl
            · exact HMY.out f h
            · exact hse)
          have HAL := Aside0.mk (show (allB ((l.take i).map frm)).length ≤ 3636 by have h := allF_len HMY.out; have h2 : (l.take i).length ≤ 12 := (by rw [List.length_take]; have := HN12.out; omega); omega)
          have HALE := Aside0.mk (show allB ((l.take (i + 1)).map frm) = allB ((l.take i).map frm) ++ p by rw [hal, hpe])
          clear hlr hal hsl hp hpe hse hpn
          go_wp2_with (first | ((with_reducible refine gate_dst (N := 7) rfl ?_); refine box_event ?hg (N := 7) ?hd (cs := #[.int .i64 0, .slice none 0 0, .slice none 0 0]) (t := 67) ?hr ?_; (case hd => rfl); (case hg => rfl); (case hr => first | (go_simp; done) | (go_simp; rfl)); intro g7 hgb w_1 hbox hb; have HZ_ := Aside0.mk hbox; have HGE_ := Aside0.mk (Nat.le_of_eq hgb.symm); have HBa_ := Aside0.mk hb; clear hgb hb hbox) | ((with_reducible refine gate_ (.store 67 (.tmp 7) (.tmp 37)) rfl ?_); refine store_event 67 (.tmp 7) (.tmp 37) rfl rfl rfl (g := g7) #[.int .i64 0, .slice none 0 0, .slice none 0 0] #[.int .i64 k, .slice M1 m1 d1, .slice M2 m2 d2] [.int .i64 k, .slice M1 m1 d1, .slice M2 m2 d2] rfl rfl rfl size67 HZ_.out (by simp) (by rfl) rfl ?_; intro w_2 hbox hs; have hb := hs.below HBa_.out HGE_.out; have HB_ := Aside0.mk (below_step HB.out hb); have HT_ := Aside0.mk (Kd.R_below HT.out hb); clear HB HT; have HB := HB_; have HT := HT_; clear HB_ HT_; have HXg7 := Aside0.mk hbox; clear hbox hs hb HZ_ HGE_ HBa_; have cg7_0 : w_2.cell? ⟨g7, 0, none⟩ = some (.int .i64 k) := (blk_cell HXg7.out 0).trans rfl; have cg7_1 : w_2.cell? ⟨g7, 1, none⟩ = some (.slice M1 m1 d1) := (blk_cell HXg7.out 1).trans rfl; have cg7_2 : w_2.cell? ⟨g7, 2, none⟩ = some (.slice M2 m2 d2) := (blk_cell HXg7.out 2).trans rfl) | (go_at_call 38; with_reducible refine (Large_calls k M1 m1 d1 ns HM1.out M2 m2 d2 ts HM2.out false _ (Kd.C_below HC1.out HB.out) HCC1.out (Kd.C_below HC2.out HB.out) HCC2.out HMX.out HLR.out).mono ?_; rintro e w_3 ⟨rfl, hb⟩; skip; have HB_ := Aside0.mk (below_step HB.out hb); have HT_ := Aside0.mk (Kd.R_below HT.out hb); have HXg7_ := Aside0.mk ((hb.block g7 (blk_lt HXg7.out)).trans HXg7.out); clear HB HT HXg7; have HB := HB_; have HT := HT_; have HXg7 := HXg7_; clear HB_ HT_ HXg7_; clear hb; have cg7_0 : w_3.cell? ⟨g7, 0, none⟩ = some (.int .i64 k) := (blk_cell HXg7.out 0).trans rfl; have cg7_1 : w_3.cell? ⟨g7, 1, none⟩ = some (.slice M1 m1 d1) := (blk_cell HXg7.out 1).trans rfl; have cg7_2 : w_3.cell? ⟨g7, 2, none⟩ = some (.slice M2 m2 d2) := (blk_cell HXg7.out 2).trans rfl) | (go_at_call 43; with_reducible refine (MBytes_calls k M1 m1 d1 ns HM1.out M2 m2 d2 ts HM2.out p 0 _ (Kd.C_below HC1.out HB.out) HCC1.out (Kd.C_below HC2.out HB.out) HCC2.out HWF.out HMB.out).mono ?_; rintro e w_4 ⟨v, rfl, ho, hb⟩; obtain ⟨Ap, cp, rfl⟩ := Kd.R_slice ho; rw [HPN.out] at ho ⊢; skip; have HB_ := Aside0.mk (below_step HB.out hb); have HT_ := Aside0.mk (Kd.R_below HT.out hb); have HXg7_ := Aside0.mk ((hb.block g7 (blk_lt HXg7.out)).trans HXg7.out); clear HB HT HXg7; have HB := HB_; have HT := HT_; have HXg7 := HXg7_; clear HB_ HT_ HXg7_; have HP := Aside0.mk (show Kd.C (Kd.int .u8) w_4 Ap pn p from R_at ho); have HPC := Aside0.mk (show pn ≤ cp from (Kd.R_reads' ho).2.1); clear hb; have cg7_0 : w_4.cell? ⟨g7, 0, none⟩ = some (.int .i64 k) := (blk_cell HXg7.out 0).trans rfl; have cg7_1 : w_4.cell? ⟨g7, 1, none⟩ = some (.slice M1 m1 d1) := (blk_cell HXg7.out 1).trans rfl; have cg7_2 : w_4.cell? ⟨g7, 2, none⟩ = some (.slice M2 m2 d2) := (blk_cell HXg7.out 2).trans rfl) | ((with_reducible refine gate_builtin (b := .append) (xs := #[.tmp 47, .tmp 48]) rfl ?_); at_builtin; refine Kd.R_append_row (Value.int .u8) 0 (w0 := w) w.heap.size rfl (.tmp 47) (.tmp 48) 22 5 (.int .u8 0) 1 rfl Try.underlying22 info5 rfl (by omega) u5 (allB ((l.take i).map frm)) p Ap pn cp (fun _ => True) (by rfl) rfl (fun _ _ => trivial) HT.out HP.out HB.out HB.out.size (by have := HAL.out; have := HPL.out; omega) ?_; intro v5 w7 ho hb hg hat; clear HT HP HB; have HT := Aside0.mk ho; have HB := Aside0.mk hb; clear hg hat ho hb))
          go_roundg gk
          case measure => omega
          case rel => exact ⟨i + 1, congrArg (Value.int .i64) (by omega), ⟨by have := HKQ.out; omega⟩, ⟨by omega⟩, HMY2, ⟨by rw [HALE.out]; exact HT.out⟩, HB⟩
        · have b9 : (ee != 0) = true := bne_iff_ne.mpr ce
          clear hlr hal hsl hp hmb ce
          go_wp2_with (first | ((with_reducible refine gate_dst (N := 7) rfl ?_); refine box_event ?hg (N := 7) ?hd (cs := #[.int .i64 0, .slice none 0 0, .slice none 0 0]) (t := 67) ?hr ?_; (case hd => rfl); (case hg => rfl); (case hr => first | (go_simp; done) | (go_simp; rfl)); intro g7 hgb w_1 hbox hb; have HZ_ := Aside0.mk hbox; have HGE_ := Aside0.mk (Nat.le_of_eq hgb.symm); have HBa_ := Aside0.mk hb; clear hgb hb hbox) | ((with_reducible refine gate_ (.store 67 (.tmp 7) (.tmp 37)) rfl ?_); refine store_event 67 (.tmp 7) (.tmp 37) rfl rfl rfl (g := g7) #[.int .i64 0, .slice none 0 0, .slice none 0 0] #[.int .i64 k, .slice M1 m1 d1, .slice M2 m2 d2] [.int .i64 k, .slice M1 m1 d1, .slice M2 m2 d2] rfl rfl rfl size67 HZ_.out (by simp) (by rfl) rfl ?_; intro w_2 hbox hs; have hb := hs.below HBa_.out HGE_.out; have HB_ := Aside0.mk (below_step HB.out hb); have HT_ := Aside0.mk (Kd.R_below HT.out hb); clear HB HT; have HB := HB_; have HT := HT_; clear HB_ HT_; have HXg7 := Aside0.mk hbox; clear hbox hs hb HZ_ HGE_ HBa_; have cg7_0 : w_2.cell? ⟨g7, 0, none⟩ = some (.int .i64 k) := (blk_cell HXg7.out 0).trans rfl; have cg7_1 : w_2.cell? ⟨g7, 1, none⟩ = some (.slice M1 m1 d1) := (blk_cell HXg7.out 1).trans rfl; have cg7_2 : w_2.cell? ⟨g7, 2, none⟩ = some (.slice M2 m2 d2) := (blk_cell HXg7.out 2).trans rfl) | (go_at_call 38; with_reducible refine (Large_calls k M1 m1 d1 ns HM1.out M2 m2 d2 ts HM2.out false _ (Kd.C_below HC1.out HB.out) HCC1.out (Kd.C_below HC2.out HB.out) HCC2.out HMX.out HLR.out).mono ?_; rintro e w_3 ⟨rfl, hb⟩; skip; have HB_ := Aside0.mk (below_step HB.out hb); have HT_ := Aside0.mk (Kd.R_below HT.out hb); have HXg7_ := Aside0.mk ((hb.block g7 (blk_lt HXg7.out)).trans HXg7.out); clear HB HT HXg7; have HB := HB_; have HT := HT_; have HXg7 := HXg7_; clear HB_ HT_ HXg7_; clear hb; have cg7_0 : w_3.cell? ⟨g7, 0, none⟩ = some (.int .i64 k) := (blk_cell HXg7.out 0).trans rfl; have cg7_1 : w_3.cell? ⟨g7, 1, none⟩ = some (.slice M1 m1 d1) := (blk_cell HXg7.out 1).trans rfl; have cg7_2 : w_3.cell? ⟨g7, 2, none⟩ = some (.slice M2 m2 d2) := (blk_cell HXg7.out 2).trans rfl) | (go_at_call 43; with_reducible refine (MBytes_calls k M1 m1 d1 ns HM1.out M2 m2 d2 ts HM2.out p ee _ (Kd.C_below HC1.out HB.out) HCC1.out (Kd.C_below HC2.out HB.out) HCC2.out HWF.out HMB.out).mono ?_; rintro e w_4 ⟨v, rfl, ho, hb⟩; skip; have HB_ := Aside0.mk (below_step HB.out hb); have HT_ := Aside0.mk (Kd.R_below HT.out hb); have HXg7_ := Aside0.mk ((hb.block g7 (blk_lt HXg7.out)).trans HXg7.out); clear HB HT HXg7; have HB := HB_; have HT := HT_; have HXg7 := HXg7_; clear HB_ HT_ HXg7_; clear hb; have cg7_0 : w_4.cell? ⟨g7, 0, none⟩ = some (.int .i64 k) := (blk_cell HXg7.out 0).trans rfl; have cg7_1 : w_4.cell? ⟨g7, 1, none⟩ = some (.slice M1 m1 d1) := (blk_cell HXg7.out 1).trans rfl; have cg7_2 : w_4.cell? ⟨g7, 2, none⟩ = some (.slice M2 m2 d2) := (blk_cell HXg7.out 2).trans rfl))
          go_ret
          exact ⟨rfl, HB.out⟩
    · have cb : decide ((i : Int) < (n0 : Int)) = false := decide_eq_false (by omega)
      have hin : n0 = i := by have := HI.out; omega
      subst hin
      have htk : l.take n0 = l := List.take_of_length_le (by rw [HN0.out]; exact Nat.le_refl _)
      rw [htk] at HT HMY
      obtain ⟨At, ct, et⟩ := Kd.R_slice HT.out
      subst et
      obtain ⟨all, hall⟩ : ∃ a, allB (l.map frm) = a := ⟨_, rfl⟩
      have hby := allB_bytes (frm_bytes HMY.out)
      have hfs := framesS_allB (frm_bytes HMY.out) (frm_may HMY.out)
      have hln := allF_len HMY.out
      rw [hall] at HT hby hfs hln ⊢
      obtain ⟨an, han⟩ : ∃ n, all.length = n := ⟨_, rfl⟩
      rw [han] at HT ⊢
      have HAN := Aside0.mk han
      have HBY := Aside0.mk hby
      have HFS := Aside0.mk hfs
      have HM0 := Aside0.mk (show an ≤ 4000 by have := HN12.out; have := HN0.out; omega)
      have HAll := Aside0.mk (show T8 wr (.slice At an ct) all from T8.of_R HT.out)
      have HXC := Aside0.mk HAll.out.at_.2.1
      clear HT hby hfs hln han htk hall
      go_wp2_with (first | (go_at_call 33; with_reducible refine (New_calls _).mono ?_; rintro e wd ⟨gc, rfl, hI, hg, hb⟩; have HC := Aside0.mk hI; have HGC := Aside0.mk (Nat.le_trans HB.out.size hg); have HAll_ := Aside0.mk (HAll.out.below hb); have HB_ := Aside0.mk (below_step HB.out hb); clear HAll HB; have HAll := HAll_; have HB := HB_; clear HAll_ HB_; clear hI hg hb) | ((with_reducible refine gate_dst (N := 54) rfl ?_); refine Kd.R_lit (Kd.int .i64) _ 3 ?hg (N := 54) ?hd (xs := ([] : List Int)) (inner := []) (ok := fun _ => True) (okp := fun _ => True) ?hr ?hp (fun _ hk => hk) trivial (Below.refl _ _) (Nat.le_refl _) (by simp) ?_; (case hd => rfl); (case hg => rfl); (case hr => first | (go_simp; done) | (go_simp; rfl)); (case hp => exact (Reps.none _ _)); intro vz wz ho hb hg_ hnew_; clear hg_ hnew_; have HR := Aside0.mk ho; have HBZ := Aside0.mk hb; clear ho hb) | ((with_reducible refine gate_builtin (b := .append) (xs := #[.tmp 54, .tmp 55]) rfl ?_); at_builtin; refine Kd.R_append_row (Value.int .i64) 0 _ rfl (.tmp 54) (.tmp 55) 61 3 (.int .i64 0) 8 rfl Try.underlying61 info3i rfl (by omega) vz [] cuts A1 n1 c1 (fun _ => True) rfl rfl (fun _ _ => trivial) HR.out (Kd.C_below (Kd.C_below HU.out HB.out) HBZ.out) HBZ.out HBZ.out.size (by have := HN1.out; simp only [List.length_nil]; omega) ?_; intro vy wy ho hb hg hat; clear HR HBZ hg hat; have HR := Aside0.mk ho; have HBZ := Aside0.mk hb; clear ho hb; rw [List.nil_append] at HR) | ((with_reducible refine gate_builtin (b := .append) (xs := #[.tmp 56, .tmp 59]) rfl ?_); at_builtin; refine Kd.R_append (Kd.int .i64) _ rfl (.tmp 56) (.tmp 59) 61 3 (.int .i64 0) 8 rfl Try.underlying61 info3i rfl (by decide) (by omega) vy cuts (an : Int) [.int .i64 (an : Int)] (fun _ => True) (fun _ => False) rfl rfl rfl (fun _ hk => hk.elim) (fun _ _ => trivial) HR.out HBZ.out HBZ.out.size (by have := HN1.out; have := HL1.out; omega) ?_; intro vx wx ho hb hg hat; clear HR HBZ hg hat; have HR := Aside0.mk ho; have HBZ := Aside0.mk hb; clear ho hb; obtain ⟨Ac, cc, rfl⟩ := Kd.R_slice HR.out; have HCU := Aside0.mk (TV.of_R HR.out HC.out.lt); have HC_ := Aside0.mk (HC.out.below HBZ.out); have HAll_ := Aside0.mk (HAll.out.below HBZ.out); have HB_ := Aside0.mk (below_step HB.out HBZ.out); clear HC HAll HB; have HC := HC_; have HAll := HAll_; have HB := HB_; clear HC_ HAll_ HB_; clear HR HBZ))
      have HWN := Aside0.mk HB.out.size
      have HNW := Aside0.mk (Nat.le_refl wx.heap.size)
      have HGN := Aside0.mk HC.out.lt
      have HO := Aside0.mk (TN.nil gc wx.heap.size wx)
      obtain ⟨N1, hN1⟩ : ∃ n, wx.heap.size = n := ⟨_, rfl⟩
      simp only [List.length_append, List.length_singleton, HL1.out] at HCU
      rw [hN1] at HWN HNW HGN HO HCU
      have HNW_ := Aside0.mk (show N1 ≤ wx.heap.size by rw [hN1]; exact Nat.le_refl _)
      clear HNW hN1
      have HNW := HNW_
      clear HNW_
      go_loopg [11, 12, 62] (n1 + 2) (fun kq v11 v12 v62 w' => ∃ (i m : Nat) (kp : List Int) (oo : List S38), v12 = .int .i64 (m : Int) ∧ v62 = .int .i64 (i : Int) ∧ Aside0 (kq + i = n1 + 2) ∧ Aside0 (i ≤ n1 + 1) ∧ Aside0 (m ≤ an) ∧ Aside0 (i = n1 + 1 → m = an) ∧ Aside0 (framesS (all.take m) = (oo, kp, 0)) ∧ Aside0 (TN gc N1 w' v11 oo) ∧ Aside0 (TV (Kd.int .i64) gc N1 w' (.slice Ac (n1 + 1) cc) (cuts ++ [(an : Int)])) ∧ Aside0 (T8 w' (.slice At an ct) all) ∧ Aside0 (IsD w' gc kp 0) ∧ Aside0 (N1 ≤ w'.heap.size) ∧ Aside0 (Below w.heap.size w w'))
      case atStart => exact ⟨0, 0, [], [], rfl, rfl, ⟨by omega⟩, ⟨by omega⟩, ⟨by omega⟩, ⟨by omega⟩, ⟨rfl⟩, HO, HCU, HAll, HC, HNW, HB⟩
      case round =>
        clear HO HCU HC HNW HB HAll HKQ HI
        obtain ⟨i, m, kp, oo, rfl, rfl, HKQ, HI, HM, HE, HFM, HO, HCU, HAll, HC, HNW, HB⟩ := hrel
        obtain ⟨gk, rfl⟩ : ∃ gk', gk = gk' + 1 := ⟨gk - 1, by have := HKQ.out; have := HI.out; omega⟩
        by_cases ci : i < n1 + 1
        · have cb2 : decide ((i : Int) < (n1 : Int) + 1) = true := decide_eq_true (by omega)
          have cb : decide ((i : Int) < ((n1 + 1 : Nat) : Int)) = true := decide_eq_true (by omega)
          have p1 : 0 ≤ (i : Int) := by omega
          have p2 : (i : Int) < ((n1 + 1 : Nat) : Int) := by omega
          have p3 : (i : Int) < (n1 : Int) + 1 := by omega
          have hwi : wrap64 ((i : Int) + 1) = ((i + 1 : Nat) : Int) := by have := HN1.out; unfold wrap64; omega
          obtain ⟨ad, e7, hy⟩ := Kd.at_int (HCU.out.at_) (i : Int) p1 p2
          cases e7
          simp only [Int.toNat_natCast] at hy
          obtain ⟨q, hq⟩ : ∃ q, rd (cuts ++ [(an : Int)]) (i : Int) = q := ⟨_, rfl⟩
          rw [hq] at hy
          have HQL := Aside0.mk (show i = n1 → q = an from fun e => by subst e; rw [← hq]; unfold rd; rw [Int.toNat_natCast, List.getD_eq_getElem?_getD, List.getElem?_append_right (by rw [HL1.out]; exact Nat.le_refl _), HL1.out]; simp)
          clear hq
          obtain ⟨M, hM⟩ : ∃ M, (if q < (m : Int) then (m : Int) else q) = M := ⟨_, rfl⟩
          have hM1 : (m : Int) ≤ M ∧ q ≤ M ∧ (M = m ∨ M = q) := by rw [← hM]; split <;> omega
          obtain ⟨T, hT⟩ : ∃ T, (if (an : Int) < M then (an : Int) else M) = T := ⟨_, rfl⟩
          have hT1 : (m : Int) ≤ T ∧ T ≤ an ∧ (T = an ∨ T = M) := by have := HM.out; rw [← hT]; split <;> omega
          obtain ⟨t, rfl⟩ := Int.eq_ofNat_of_zero_le (show 0 ≤ T by omega)
          have HMT := Aside0.mk (show m ≤ t ∧ t ≤ an by omega)
          have HTE := Aside0.mk (show i + 1 = n1 + 1 → t = an from fun e => by have := HQL.out (by omega); have := HM.out; omega)
          clear hM1 hT1
          have hm0 : (0 : Int) ≤ (m : Int) := by omega
          have hmt : (m : Int) ≤ (t : Int) := by have := HMT.out; omega
          have htn : (t : Int) ≤ (an : Int) := by have := HMT.out; omega
          obtain ⟨i0, hi0, _, hsz0, _⟩ := info_parts info5
          have hcut := cut_mid (P := Try.prog) 22 5 .i64 .i64 Try.underlying22 hi0 1 hsz0 At an ct (m : Int) (t : Int) hm0 hmt htn HXC.out
          have HX5 := C_cut HAll.out.at_.2.2 HAN.out HXC.out HMT.out.1 HMT.out.2
          simp only [Int.toNat_natCast] at hcut
          obtain ⟨A5, hA5⟩ : ∃ A5, A5 = (if ct = m then At else At.map (·.add (m * 1))) := ⟨_, rfl⟩
          rw [← hA5] at hcut HX5
          have HX5 := Aside0.mk HX5
          clear hA5 hi0 hsz0
          obtain ⟨x, hx⟩ : ∃ x, (all.take t).drop m = x := ⟨_, rfl⟩
          have hsp : all.take t = all.take m ++ x := by
            have h := List.take_append_drop m (all.take t)
            rw [List.take_take, Nat.min_eq_left HMT.out.1, hx] at h
            exact h.symm
          have HXN := Aside0.mk (show x.length = t - m by rw [← hx, List.length_drop, List.length_take]; have := HMT.out; have := HAN.out; omega)
          rw [hx] at HX5
          have HXC5 := Aside0.mk (show t - m ≤ ct - m by have := HXC.out; have := HMT.out; omega)
          have hbt : Bytes (all.take m) := bt_take HBY.out m
          have hbt2 : Bytes (all.take m ++ x) := by rw [← hsp]; exact bt_take HBY.out t
          have hkp := frames_len hbt HFM.out
          have HXB5 := Aside0.mk (show Bytes (kp ++ x) from bt_append hkp.2.2.1 (bt_right hbt2))
          have HXL5 := Aside0.mk (show kp.length + (t - m) ≤ 1000000 by have h := hkp.2.1; rw [List.length_take] at h; have := HM0.out; have := HM.out; have := HMT.out; omega)
          have hmore := framesS_more hbt2
          rw [← hsp, HFM.out, if_pos rfl] at hmore
          have hpre := framesS_prefix HBY.out (by rw [HFS.out]) t
          have HOL := Aside0.mk (show oo.length ≤ 4000 by have h := hkp.1; rw [List.length_take] at h; have := HM0.out; have := HM.out; omega)
          obtain ⟨⟨o3, b3, e3⟩, hfs3⟩ : ∃ r, framesS (kp ++ x) = r := ⟨_, rfl⟩
          rw [hfs3] at hmore
          rw [hmore] at hpre
          simp only at hpre
          subst hpre
          have HFS3 := Aside0.mk hfs3
          have HMO := Aside0.mk hmore
          obtain ⟨on3, ho3⟩ : ∃ n, o3.length = n := ⟨_, rfl⟩
          have HO3 := Aside0.mk ho3
          have HO4 := Aside0.mk (show on3 ≤ 8000 by have h := (frames_len HXB5.out hfs3).1; rw [List.length_append, HXN.out] at h; have h2 := hkp.2.1; rw [List.length_take] at h2; have := HM0.out; have := HMT.out; omega)
          clear hfs3 hmore ho3 hkp hbt hbt2 hsp hx
          go_wp2_with (first | (go_at_call 34; with_reducible refine (Feed_calls gc kp x A5 (t - m) (ct - m) HXN.out o3 b3 0 _ HC.out HX5.out HXC5.out HXB5.out HXL5.out HFS3.out).mono ?_; rintro e wf ⟨vo, rfl, ho, hI, hn⟩; obtain ⟨Ao, co, rfl⟩ := Kd.R_slice ho; rw [HO3.out]; have HL3 := Aside0.mk (HO3.out ▸ TN.fresh ho HO.out HC.out.lt); have HO_ := Aside0.mk (HO.out.near hn); have HCU_ := Aside0.mk (HCU.out.near hn); have HAll_ := Aside0.mk (HAll.out.near HC.out.typed hn); have HNW_ := Aside0.mk (Nat.le_trans HNW.out hn.size_); have HB_ := Aside0.mk (hn.bel HGC.out HB.out); have HC_ := Aside0.mk (hI); clear HO HCU HAll HNW HB HC; have HO := HO_; have HCU := HCU_; have HAll := HAll_; have HNW := HNW_; have HB := HB_; have HC := HC_; clear HO_ HCU_ HAll_ HNW_ HB_ HC_; clear ho hI hn) | ((with_reducible refine gate_builtin (b := .append) (xs := #[.tmp 83, .tmp 84]) rfl ?_); at_builtin; refine TN.append_rows rfl (.tmp 83) (.tmp 84) rfl rfl rfl HO.out (HL3.out) HNW.out HGN.out (by have := HOL.out; have := HO4.out; omega) ?_; intro v11 w9 ho hg hr; have HCU_ := Aside0.mk (HCU.out.grown hg hr); have HAll_ := Aside0.mk (HAll.out.grown hg (fun k hk cells hc => by obtain ⟨c9, h9⟩ := HO.out.typed k hk; exact ne_typed h9 hc (by decide) rfl)); have HC_ := Aside0.mk (HC.out.grown hg (HO.out.typed) (by decide) (by decide)); have HNW_ := Aside0.mk (Nat.le_trans HNW.out hg.size); have HB_ := Aside0.mk (HB.out.grown hg HB.out.size (fun k hk => Nat.le_trans HWN.out (hr k hk))); clear HCU HAll HC HNW HB; have HCU := HCU_; have HAll := HAll_; have HC := HC_; have HNW := HNW_; have HB := HB_; clear HCU_ HAll_ HC_ HNW_ HB_; clear hg hr; have HO_ := Aside0.mk ho; clear ho HO; have HO := HO_; clear HO_))
          go_roundg gk
          case measure => omega
          case rel => exact ⟨i + 1, t, b3, oo ++ o3, rfl, congrArg (Value.int .i64) (by omega), ⟨by have := HKQ.out; omega⟩, ⟨by omega⟩, ⟨HMT.out.2⟩, HTE, HMO, HO, HCU, HAll, HC, HNW, HB⟩
        · have cb : decide ((i : Int) < ((n1 + 1 : Nat) : Int)) = false := decide_eq_false (by omega)
          have cb2 : decide ((i : Int) < (n1 : Int) + 1) = false := decide_eq_false (by omega)
          have hmn : an = m := by have := HE.out (by have := HI.out; omega); omega
          subst hmn
          have hf := HFM.out
          rw [List.take_of_length_le (by rw [HAN.out]; exact Nat.le_refl _), HFS.out] at hf
          injection hf with hf1 hf2
          injection hf2 with hf2 _
          subst hf1 hf2
          obtain ⟨Az, cz, ez⟩ := HO.out.slice
          subst ez
          rw [List.length_map, HN0.out] at HO ⊢
          have hb9 : ((n0 : Int) != (n0 : Int)) = false := by simp
          have HK38 := Aside0.mk (show Kd.C k38 wr Az n0 (l.map frm) by
            have h2 := Kd.V_reads' HO.out.vv
            have h3 := h2.2.2
            rw [← h2.1] at h3
            exact h3)
          clear HO HCU HAll hn1
          go_wp2_with (first | (go_at_call 36; with_reducible refine (Pending_calls gc [] 0 0 List.length_nil _ HC.out).mono ?_; rintro e w' ⟨rfl, rfl⟩))
          go_loopg [100] (n0 + 1) (fun kq v100 w' => ∃ j : Nat, v100 = .int .i64 (j : Int) ∧ Aside0 (kq + j = n0 + 1) ∧ Aside0 (j ≤ n0) ∧ Aside0 (Kd.C k38 w' Az n0 (l.map frm)) ∧ Aside0 (Below w.heap.size w w'))
          case atStart => exact ⟨0, rfl, ⟨by omega⟩, ⟨by omega⟩, HK38, HB⟩
          case round =>
            clear HK38 HB HKQ HI HC HNW
            obtain ⟨j, rfl, HKQ, HI, HK38, HB⟩ := hrel
            obtain ⟨gk, rfl⟩ : ∃ gk', gk = gk' + 1 := ⟨gk - 1, by have := HKQ.out; have := HI.out; omega⟩
            by_cases cj : j < n0
            · have cb_ : decide ((j : Int) < (n0 : Int)) = true := decide_eq_true (by omega)
              have p1 : 0 ≤ (j : Int) := by omega
              have p2 : (j : Int) < (n0 : Int) := by omega
              have hwi : wrap64 ((j : Int) + 1) = ((j + 1 : Nat) : Int) := by have := HN12.out; unfold wrap64; omega
              obtain ⟨ado, Ag, cg, e8, hv0, hv1, hvc, hvC⟩ := at_T38 HK38.out j p1 p2
              cases e8
              obtain ⟨ad, M1, d1, M2, d2, e7, hy0, hy1, hy2, hyc1, hyC1, hyc2, hyC2⟩ := at_T67 HA.out j p1 p2
              cases e7
              simp only [Int.toNat_natCast] at hv0 hv1 hy0 hy1 hy2
              have hjl : j < l.length := by rw [HN0.out]; exact cj
              have hjm : j < (l.map frm).length := by rw [List.length_map]; exact hjl
              rw [T38_at _ j hjm, List.getElem_map] at hv0 hv1 hvc hvC
              rw [T67_eq l j hjl] at hy0 hy1 hy2 hyc1 hyC1 hyc2 hyC2
              have hwu := HWU.out _ (List.getElem_mem hjl)
              have hse := HMY.out _ (List.getElem_mem hjl)
              obtain ⟨⟨k, ns, ts⟩, hf⟩ : ∃ f, l[j] = f := ⟨_, rfl⟩
              rw [hf] at hv0 hv1 hvc hvC hy0 hy1 hy2 hyc1 hyC1 hyc2 hyC2 hwu hse
              have hof := sent_of _ hse (fun n hn => (hwu n hn).1)
              have hkr : 0 ≤ k ∧ k < 256 := by have h1 := hse.2.1; have h2 := hse.2.2.1; simp only at h1 h2; omega
              have hfr := hse.1
              have hrl := rightS_len (k := k) (ns := ns) (ts := ts) (by
                rcases frameS_or k ns ts with ⟨_, h⟩ | ⟨h, _⟩ | ⟨h, _⟩
                · simp only at hfr; rw [h] at hfr; injection hfr with _ hfr; injection hfr with _ hfr; simp at hfr
                · exact h
                · exact h)
              simp only [frm] at hv0 hv1 hvc hvC
              simp only at hy0 hy1 hy2 hyc1 hyC1 hyc2 hyC2 hwu hof
              have HPB := Aside0.mk (bodyM_bytes k ns ts)
              obtain ⟨p, hp⟩ : ∃ p, bodyM k ns ts = p := ⟨_, rfl⟩
              rw [hp] at hv1 hvc hvC hof HPB
              obtain ⟨pn, hpn⟩ : ∃ n, p.length = n := ⟨_, rfl⟩
              obtain ⟨m1, hm1⟩ : ∃ n, ns.length = n := ⟨_, rfl⟩
              obtain ⟨m2, hm2⟩ : ∃ n, ts.length = n := ⟨_, rfl⟩
              rw [hpn] at hv1 hvc hvC
              rw [hm1] at hy1 hyc1 hyC1
              rw [hm2] at hy2 hyc2 hyC2
              have HPN := Aside0.mk hpn
              have HM1 := Aside0.mk hm1
              have HM2 := Aside0.mk hm2
              have HC1 := Aside0.mk hyC1
              have HCC1 := Aside0.mk hyc1
              have HC2 := Aside0.mk hyC2
              have HCC2 := Aside0.mk hyc2
              have HCV := Aside0.mk hvC
              have HCVC := Aside0.mk hvc
              have HOF := Aside0.mk hof
              have HKR := Aside0.mk hkr
              have HY0 := Aside0.mk hy0
              have HY1 := Aside0.mk hy1
              have HY2 := Aside0.mk hy2
              have HL6 := Aside0.mk (show m1 ≤ 1000000 ∧ m2 ≤ 1000000 by omega)
              clear hyC1 hyc1 hyC2 hyc2 hwu hm1 hm2 hf hpn hp hof hkr hse hfr hrl hvC hvc hjl hjm hy0 hy1 hy2
              go_upto_region 36 with (first | ((with_reducible refine gate_dst (N := 19) rfl ?_); refine box_event ?hg (N := 19) ?hd (cs := #[.int .u8 0, .slice none 0 0]) (t := 38) ?hr ?_; (case hd => rfl); (case hg => rfl); (case hr => first | (go_simp; done) | (go_simp; rfl)); intro g19 hgb w_1 hbox hb; have HZ_ := Aside0.mk hbox; have HGE_ := Aside0.mk (Nat.le_of_eq hgb.symm); have HBa_ := Aside0.mk hb; clear hgb hb hbox) | ((with_reducible refine gate_ (.store 38 (.tmp 19) (.tmp 104)) rfl ?_); refine store_event 38 (.tmp 19) (.tmp 104) rfl rfl rfl (g := g19) #[.int .u8 0, .slice none 0 0] #[.int .u8 k, .slice Ag pn cg] [.int .u8 k, .slice Ag pn cg] rfl rfl rfl size38 HZ_.out (by simp) (by rfl) rfl ?_; intro w_2 hbox hs; have hb := hs.below HBa_.out HGE_.out; have HB_ := Aside0.mk (below_step HB.out hb); have HK38_ := Aside0.mk (Kd.C_below HK38.out hb); clear HB HK38; have HB := HB_; have HK38 := HK38_; clear HB_ HK38_; have HXg19 := Aside0.mk hbox; have HCV_ := Aside0.mk (Kd.C_below HCV.out (hs.below HBa_.out HGE_.out)); clear HCV; have HCV := HCV_; clear HCV_; clear hbox hs hb HZ_ HGE_ HBa_; have cg19_0 : w_2.cell? ⟨g19, 0, none⟩ = some (.int .u8 k) := (blk_cell HXg19.out 0).trans rfl; have cg19_1 : w_2.cell? ⟨g19, 1, none⟩ = some (.slice Ag pn cg) := (blk_cell HXg19.out 1).trans rfl) | (go_at_call 41; with_reducible refine (Of_calls k Ag pn cg p HPN.out k ns ts 0 _ HCV.out HCVC.out HPB.out HKR.out HOF.out).mono ?_; rintro e w_3 ⟨v1, v2, rfl, ho1, ho2, hb⟩; obtain ⟨E1, e1, rfl⟩ := Kd.R_slice ho1; obtain ⟨E2, e2, rfl⟩ := Kd.R_slice ho2; rw [HM1.out] at ho1 ⊢; rw [HM2.out] at ho2 ⊢; skip; have HB_ := Aside0.mk (below_step HB.out hb); have HK38_ := Aside0.mk (Kd.C_below HK38.out hb); have HXg19_ := Aside0.mk ((hb.block g19 (blk_lt HXg19.out)).trans HXg19.out); have HCV_ := Aside0.mk (Kd.C_below HCV.out hb); clear HB HK38 HXg19 HCV; have HB := HB_; have HK38 := HK38_; have HXg19 := HXg19_; have HCV := HCV_; clear HB_ HK38_ HXg19_ HCV_; have HS1 := Aside0.mk (show Kd.C (Kd.int .u64) w_3 E1 m1 ns from R_at ho1); have HS1C := Aside0.mk (show m1 ≤ e1 from (Kd.R_reads' ho1).2.1); have HS2 := Aside0.mk (show Kd.C Kd.string w_3 E2 m2 ts from R_at ho2); have HS2C := Aside0.mk (show m2 ≤ e2 from (Kd.R_reads' ho2).2.1); clear hb; have cg19_0 : w_3.cell? ⟨g19, 0, none⟩ = some (.int .u8 k) := (blk_cell HXg19.out 0).trans rfl; have cg19_1 : w_3.cell? ⟨g19, 1, none⟩ = some (.slice Ag pn cg) := (blk_cell HXg19.out 1).trans rfl) | ((with_reducible refine gate_dst (N := 20) rfl ?_); refine box_event ?hg (N := 20) ?hd (cs := #[.int .i64 0, .slice none 0 0, .slice none 0 0]) (t := 67) ?hr ?_; (case hd => rfl); (case hg => rfl); (case hr => first | (go_simp; done) | (go_simp; rfl)); intro g20 hgb w_4 hbox hb; have HZ_ := Aside0.mk hbox; have HGE_ := Aside0.mk (Nat.le_of_eq hgb.symm); have HBa_ := Aside0.mk hb; clear hgb hb hbox) | ((with_reducible refine gate_ (.store 67 (.tmp 20) (.tmp 108)) rfl ?_); refine store_event 67 (.tmp 20) (.tmp 108) rfl rfl rfl (g := g20) #[.int .i64 0, .slice none 0 0, .slice none 0 0] #[.int .i64 k, .slice E1 m1 e1, .slice E2 m2 e2] [.int .i64 k, .slice E1 m1 e1, .slice E2 m2 e2] rfl rfl rfl size67 HZ_.out (by simp) (by rfl) rfl ?_; intro w_5 hbox hs; have hb := hs.below HBa_.out HGE_.out; have HB_ := Aside0.mk (below_step HB.out hb); have HK38_ := Aside0.mk (Kd.C_below HK38.out hb); have HS1_ := Aside0.mk (Kd.C_below HS1.out hb); have HS2_ := Aside0.mk (Kd.C_below HS2.out hb); clear HB HK38 HS1 HS2; have HB := HB_; have HK38 := HK38_; have HS1 := HS1_; have HS2 := HS2_; clear HB_ HK38_ HS1_ HS2_; have HXg20 := Aside0.mk hbox; clear hbox hs hb HZ_ HGE_ HBa_; have cg20_0 : w_5.cell? ⟨g20, 0, none⟩ = some (.int .i64 k) := (blk_cell HXg20.out 0).trans rfl; have cg20_1 : w_5.cell? ⟨g20, 1, none⟩ = some (.slice E1 m1 e1) := (blk_cell HXg20.out 1).trans rfl; have cg20_2 : w_5.cell? ⟨g20, 2, none⟩ = some (.slice E2 m2 e2) := (blk_cell HXg20.out 2).trans rfl))
              (try clear cg20_0 cg20_1 cg20_2)
              have hb := below_drew1 (Below.refl w_5.heap.size w_5)
              have HB_ := Aside0.mk (below_step HB.out hb)
              have HK38_ := Aside0.mk (Kd.C_below HK38.out hb)
              have HS1_ := Aside0.mk (Kd.C_below HS1.out hb)
              have HS2_ := Aside0.mk (Kd.C_below HS2.out hb)
              have HXg20_ := Aside0.mk ((hb.block g20 (blk_lt HXg20.out)).trans HXg20.out)
              clear HB HK38 HS1 HS2 HXg20
              have HB := HB_
              have HK38 := HK38_
              have HS1 := HS1_
              have HS2 := HS2_
              have HXg20 := HXg20_
              clear HB_ HK38_ HS1_ HS2_ HXg20_
              clear hb
              refine start_ (n := 11) (S := fun w' => w'.cell? ⟨g20, 0, none⟩ = some (.int .i64 k) ∧ w'.cell? ⟨g20, 1, none⟩ = some (.slice E1 m1 e1) ∧ w'.cell? ⟨g20, 2, none⟩ = some (.slice E2 m2 e2) ∧ w'.cell? (ad.add (j * 3)) = some (.int .i64 k) ∧ w'.cell? ⟨(ad.add (j * 3)).block, (ad.add (j * 3)).off + 1, none⟩ = some (.slice M1 m1 d1) ∧ w'.cell? ⟨(ad.add (j * 3)).block, (ad.add (j * 3)).off + 2, none⟩ = some (.slice M2 m2 d2)) (ds := []) #[false, false, false, false, false, false, false, false, false, false, false] (by kernel_rfl) rfl rfl ⟨(blk_cell HXg20.out 0).trans rfl, (blk_cell HXg20.out 1).trans rfl, (blk_cell HXg20.out 2).trans rfl, (HB.out.cell (World.block_lt_of_cell? w _ HY0.out)).trans HY0.out, (HB.out.cell (World.block_lt_of_cell? w _ HY1.out)).trans HY1.out, (HB.out.cell (World.block_lt_of_cell? w _ HY2.out)).trans HY2.out⟩ (fun hHeld => ?_)
              generalize World.drew w_5 = wz9 at HB HK38 HS1 HS2 HXg20 hHeld ⊢
              refine pure_ (i := 0) (N := some 110) (v := ?_) (a' := ?_) #[true, false, false, false, false, false, false, false, false, false, false] rfl rfl (by kernel_rfl) (fun _ _ _ h => h) (Or.inl ⟨by rfl, ?_⟩) ?_ ?_
              rotate_left
              · intro w'
                go_simp
                with_reducible rfl
              rotate_left
              · simp only [Act.put, List.setIfInBounds_toArray, List.set_cons_zero, List.set_cons_succ, i64_w, i32_w]
                rfl
              refine pure_ (i := 1) (N := some 111) (v := ?_) (a' := ?_) #[true, true, false, false, false, false, false, false, false, false, false] rfl rfl (by kernel_rfl) (fun _ _ _ h => h) (Or.inl ⟨by rfl, ?_⟩) ?_ ?_
              rotate_left
              · intro w'
                go_simp
                with_reducible rfl
              rotate_left
              · simp only [Act.put, List.setIfInBounds_toArray, List.set_cons_zero, List.set_cons_succ, i64_w, i32_w]
                rfl
              refine pure_ (i := 2) (N := some 112) (v := ?_) (a' := ?_) #[true, true, true, false, false, false, false, false, false, false, false] rfl rfl (by kernel_rfl) (fun _ _ _ h => h) (Or.inl ⟨by rfl, ?_⟩) ?_ ?_
              rotate_left
              · intro w'
                go_simp
                with_reducible rfl
              rotate_left
              · simp only [Act.put, List.setIfInBounds_toArray, List.set_cons_zero, List.set_cons_succ, i64_w, i32_w]
                rfl
              refine pure_ (i := 4) (N := some 114) (v := ?_) (a' := ?_) #[true, true, true, false, true, false, false, false, false, false, false] rfl rfl (by kernel_rfl) (fun _ _ _ h => h) (Or.inl ⟨by rfl, ?_⟩) ?_ ?_
              rotate_left
              · intro w'
                go_simp
                with_reducible rfl
              rotate_left
              · simp only [Act.put, List.setIfInBounds_toArray, List.set_cons_zero, List.set_cons_succ, i64_w, i32_w]
                rfl
              refine pure_ (i := 5) (N := some 115) (v := ?_) (a' := ?_) #[true, true, true, false, true, true, false, false, false, false, false] rfl rfl (by kernel_rfl) (fun _ _ _ h => h) (Or.inl ⟨by rfl, ?_⟩) ?_ ?_
              rotate_left
              · intro w'
                go_simp
                with_reducible rfl
              rotate_left
              · simp only [Act.put, List.setIfInBounds_toArray, List.set_cons_zero, List.set_cons_succ, i64_w, i32_w]
                rfl
              refine pure_ (i := 6) (N := some 116) (v := ?_) (a' := ?_) #[true, true, true, false, true, true, true, false, false, false, false] rfl rfl (by kernel_rfl) (fun _ _ _ h => h) (Or.inl ⟨by rfl, ?_⟩) ?_ ?_
              rotate_left
              · intro w'
                go_simp
                with_reducible rfl
              rotate_left
              · simp only [Act.put, List.setIfInBounds_toArray, List.set_cons_zero, List.set_cons_succ, i64_w, i32_w]
                rfl
              refine take_ (i := 3) (N := some 113) (v := ?_) (a' := ?_) #[true, true, true, true, true, true, true, false, false, false, false] rfl rfl (by kernel_rfl) (fun _ _ _ h => h) (Or.inl ⟨by rfl, ?_⟩) hHeld ?_ ?_
              rotate_left
              · rintro w' ⟨s0, s1, s2, s3, s4, s5⟩
                go_simp
                with_reducible rfl
              rotate_left
              · simp only [Act.put, List.setIfInBounds_toArray, List.set_cons_zero, List.set_cons_succ, i64_w, i32_w]
                rfl
              refine take_ (i := 7) (N := some 117) (v := ?_) (a' := ?_) #[true, true, true, true, true, true, true, true, false, false, false] rfl rfl (by kernel_rfl) (fun _ _ _ h => h) (Or.inl ⟨by rfl, ?_⟩) hHeld ?_ ?_
              rotate_left
              · rintro w' ⟨s0, s1, s2, s3, s4, s5⟩
                go_simp
                with_reducible rfl
              rotate_left
              · simp only [Act.put, List.setIfInBounds_toArray, List.set_cons_zero, List.set_cons_succ, i64_w, i32_w]
                rfl
              refine one_ (i := 8) (N := some 118) #[true, true, true, true, true, true, true, true, true, false, false] rfl rfl (by kernel_rfl) (by decide) (fun K hK => ?_)
              refine goes_ Try.func42 (by kernel_rfl) rfl #[.agg #[.int .i64 k, .slice E1 m1 e1, .slice E2 m2 e2], .agg #[.int .i64 k, .slice M1 m1 d1, .slice M2 m2 d2]] (by rfl) rfl rfl (by simp only [List.map_toArray, List.map_cons, List.map_nil]; rfl) ?_
              with_reducible refine (MSame_calls k E1 m1 e1 ns HM1.out E2 m2 e2 ts HM2.out k M1 m1 d1 ns HM1.out M2 m2 d2 ts HM2.out true _ HS1.out HS1C.out HS2.out HS2C.out (Kd.C_below HC1.out HB.out) HCC1.out (Kd.C_below HC2.out HB.out) HCC2.out HL6.out (decide_eq_true ⟨rfl, rfl, rfl⟩)).mono ?_
              rintro e wk ⟨rfl, hb⟩
              refine ⟨_, rfl, ?_⟩
              have HB_ := Aside0.mk (below_step HB.out hb)
              have HK38_ := Aside0.mk (Kd.C_below HK38.out hb)
              have HS1_ := Aside0.mk (Kd.C_below HS1.out hb)
              have HS2_ := Aside0.mk (Kd.C_below HS2.out hb)
              have HXg20_ := Aside0.mk ((hb.block g20 (blk_lt HXg20.out)).trans HXg20.out)
              clear HB HK38 HS1 HS2 HXg20
              have HB := HB_
              have HK38 := HK38_
              have HS1 := HS1_
              have HS2 := HS2_
              have HXg20 := HXg20_
              clear HB_ HK38_ HS1_ HS2_ HXg20_
              clear hb
              refine hK.out _ _ ⟨(blk_cell HXg20.out 0).trans rfl, (blk_cell HXg20.out 1).trans rfl, (blk_cell HXg20.out 2).trans rfl, (HB.out.cell (World.block_lt_of_cell? w _ HY0.out)).trans HY0.out, (HB.out.cell (World.block_lt_of_cell? w _ HY1.out)).trans HY1.out, (HB.out.cell (World.block_lt_of_cell? w _ HY2.out)).trans HY2.out⟩ (fun hHeld => ?_)
              clear hK K
              refine norm_ (a' := ?_) ?_ ?_
              rotate_left
              · show Act.put _ (some 118) _ = _
                simp only [Act.put, List.setIfInBounds_toArray, List.set_cons_zero, List.set_cons_succ, i64_w, i32_w]
                rfl
              refine pure_ (i := 9) (N := some 119) (v := ?_) (a' := ?_) #[true, true, true, true, true, true, true, true, true, true, false] rfl rfl (by kernel_rfl) (fun _ _ _ h => h) (Or.inl ⟨by rfl, ?_⟩) ?_ ?_
              rotate_left
              · intro w'
                go_simp
                with_reducible rfl
              rotate_left
              · simp only [Act.put, List.setIfInBounds_toArray, List.set_cons_zero, List.set_cons_succ, i64_w, i32_w]
                rfl
              refine pure_ (i := 10) (N := some 120) (v := ?_) (a' := ?_) #[true, true, true, true, true, true, true, true, true, true, true] rfl rfl (by kernel_rfl) (fun _ _ _ h => h) (Or.inl ⟨by rfl, ?_⟩) ?_ ?_
              rotate_left
              · intro w'
                go_simp
                with_reducible rfl
              rotate_left
              · simp only [Act.put, List.setIfInBounds_toArray, List.set_cons_zero, List.set_cons_succ, i64_w, i32_w]
                rfl
              refine done_ (by kernel_rfl) ?_

              go_wp2
              go_roundg gk
              case measure => omega
              case rel => exact ⟨j + 1, congrArg (Value.int .i64) (by omega), ⟨by have := HKQ.out; omega⟩, ⟨by omega⟩, HK38, HB⟩
            · have cb_ : decide ((j : Int) < (n0 : Int)) = false := decide_eq_false (by omega)
              go_wp2
              go_ret
              exact ⟨rfl, HB.out⟩
end Go.Proofs.Ytagmefjpnmjcjab.Mh
