/- FrameBack, walked by hand. -/
import Derived.Test.YtagmefjpnmjcjabFrRows
namespace Go.Proofs.Ytagmefjpnmjcjab.Fh
open Go.RowKit Go.Proofs.YtagmefjpnmjcjabW.PrintWords Go.Proofs.YtagmefjpnmjcjabW.PrintLast Go.Proofs.YtagmefjpnmjcjabW.PrintMore
open Go.Proofs.Ytagmefjpnmjcjab.Fr
open Go.Proofs.Ytagmefjpnmjcjab.FrNum (readS read_eq Bytes)
attribute [local go_sem] max2_int min2_int max_two min_two
set_option linter.unusedVariables false
set_option linter.unusedSimpArgs false
theorem heap38 : Kd.Heap k38 := Kd.heap_iso _ (Kd.heap_pair (Kd.heap_int _) (Kd.heap_slice _ (Kd.heap_int _)))
theorem V38_of_C {w : World} {A : Option Addr} {n c : Nat} {l : List S38} (h : Kd.C k38 w A n l) (hn : l.length = n) (hc : n ≤ c) : Kd.V k38 38 w 0 (fun k => k < w.heap.size) (.slice A n c) l := by
  subst hn
  exact ⟨A, c, rfl, hc, Kd.C_F heap38 h⟩
theorem allB_take {l : List S38} {i : Nat} (h : i < l.length) : allB (l.take (i + 1)) = allB (l.take i) ++ (bytesS l[i].f0 l[i].f1).1 := by
  unfold allB
  rw [List.take_add_one, List.getElem?_eq_getElem h, List.flatMap_append]
  simp
theorem T38_eq (l : List S38) (i : Nat) (h : i < l.length) : rd_T38 l (i : Int) = l[i] := by
  unfold rd_T38
  rw [Int.toNat_natCast, List.getD_eq_getElem?_getD, List.getElem?_eq_getElem h]
  rfl
theorem allB_len : ∀ {l : List S38}, (∀ f ∈ l, may f) → (allB l).length ≤ 303 * l.length
  | [], _ => by simp [allB]
  | f :: l, h => by
    have h1 := allB_len (l := l) (fun g hg => h g (List.mem_cons_of_mem _ hg))
    have h2 := h f (by simp)
    have e : allB (f :: l) = (bytesS f.f0 f.f1).1 ++ allB l := rfl
    rw [e, List.length_append, bytesS_len h2.1 h2.2, List.length_cons]
    have := h2.2
    omega
attribute [local irreducible] IsD T8 Near TV TN

set_option maxHeartbeats 8000000 in
set_option maxRecDepth 100000 in
theorem FrameBack_calls (A0 : Option Addr) (c0 : Nat) (l : List S38) (A1 : Option Addr) (c1 : Nat) (more : List Int) (w : World) (hr0 : Kd.C k38 w A0 l.length l) (hc0 : l.length ≤ c0) (hr1 : Kd.C (Kd.int .u8) w A1 more.length more) (hc1 : more.length ≤ c1) (hwf0 : ∀ f ∈ l, (Lit.int .u8 f.f0).wf = true ∧ ∀ x ∈ f.f1, (Lit.int .u8 x).wf = true) (hwf1 : ∀ x ∈ more, (Lit.int .u8 x).wf = true) :
    Calls Try.prog 10 #[.slice A0 l.length c0, .slice A1 more.length c1] w fun e w' => e = .returned (.bool true) ∧ Below w.heap.size w w' := by
  have HB := Aside0.mk (Below.refl w.heap.size w)
  obtain ⟨n0, hn0⟩ : ∃ n, l.length = n := ⟨_, rfl⟩
  obtain ⟨n1, hn1⟩ : ∃ n, more.length = n := ⟨_, rfl⟩
  rw [hn0] at hr0 hc0 ⊢
  rw [hn1] at hr1 hc1 ⊢
  have HN0 := Aside0.mk hn0
  have HL1 := Aside0.mk hn1
  have HA := Aside0.mk hr0
  have HAC := Aside0.mk hc0
  have HV := Aside0.mk (V38_of_C hr0 hn0 hc0)
  have HM := Aside0.mk hr1
  have HMC := Aside0.mk hc1
  have HMB := Aside0.mk (bytes_of_wf hwf1)
  have HLB := Aside0.mk (show ∀ f ∈ l, (0 ≤ f.f0 ∧ f.f0 < 256) ∧ Bytes f.f1 from fun f hf => ⟨by have h := (hwf0 f hf).1; have := bytes_of_wf (l := [f.f0]) (fun x hx => by rw [List.mem_singleton.1 hx]; exact h) f.f0 (by simp); exact this, bytes_of_wf (hwf0 f hf).2⟩)
  clear hr0 hc0 hr1 hc1 hwf0 hwf1
  by_cases cl : n0 > 6
  · have b0 : decide (6 < (n0 : Int)) = true := decide_eq_true (by omega)
    go_enter Try.func10, Try.ntmps10
    go_wp2_with (first | (go_at_call 25; with_reducible refine (awake_calls _).mono ?_; rintro e w' ⟨rfl, hb⟩; have HB_ := Aside0.mk (below_step HB.out hb); clear HB; have HB := HB_; clear HB_; clear hb))
    go_ret
    exact ⟨rfl, HB.out⟩
  have b0 : decide (6 < (n0 : Int)) = false := decide_eq_false (by omega)
  by_cases cm : n1 > 2000
  · have b1 : decide (2000 < (n1 : Int)) = true := decide_eq_true (by omega)
    go_enter Try.func10, Try.ntmps10
    go_wp2_with (first | (go_at_call 25; with_reducible refine (awake_calls _).mono ?_; rintro e w' ⟨rfl, hb⟩; have HB_ := Aside0.mk (below_step HB.out hb); clear HB; have HB := HB_; clear HB_; clear hb))
    go_ret
    exact ⟨rfl, HB.out⟩
  have b1 : decide (2000 < (n1 : Int)) = false := decide_eq_false (by omega)
  have HN06 := Aside0.mk (show n0 ≤ 1000000 by omega)
  have HN6 := Aside0.mk (show n0 ≤ 6 by omega)
  have HN1 := Aside0.mk (show n1 ≤ 2000 by omega)
  have hu38 := Try.underlying38
  clear cl cm
  go_enter Try.func10, Try.ntmps10
  go_wp2_with (first | (go_at_call 25; with_reducible refine (awake_calls _).mono ?_; rintro e w' ⟨rfl, hb⟩; have HB_ := Aside0.mk (below_step HB.out hb); clear HB; have HB := HB_; clear HB_; clear hb))
  go_loopg [5, 28] (n0 + 1) (fun kq v5 v28 w' => ∃ i : Nat, v28 = .int .i64 (i : Int) ∧ Aside0 (kq + i = n0 + 1) ∧ Aside0 (i ≤ n0) ∧ Aside0 (∀ f ∈ l.take i, may f) ∧ Aside0 (Kd.R (Kd.int .u8) 5 w' w.heap.size (fun _ => True) v5 (allB (l.take i))) ∧ Aside0 (Below w.heap.size w w'))
  case atStart => exact ⟨0, rfl, ⟨by omega⟩, ⟨by omega⟩, ⟨fun f hf => by simp at hf⟩, ⟨Kd.R_nil _ _ _ _ _⟩, HB⟩
  case round =>
    clear HB
    obtain ⟨i, rfl, HKQ, HI, HMY, HT, HB⟩ := hrel
    obtain ⟨gk, rfl⟩ : ∃ gk', gk = gk' + 1 := ⟨gk - 1, by have := HKQ.out; have := HI.out; omega⟩
    by_cases ci : i < n0
    · have cb : decide ((i : Int) < (n0 : Int)) = true := decide_eq_true (by omega)
      have p1 : 0 ≤ (i : Int) := by omega
      have p2 : (i : Int) < (n0 : Int) := by omega
      have hwi : wrap64 ((i : Int) + 1) = ((i + 1 : Nat) : Int) := by have := HN6.out; unfold wrap64; omega
      obtain ⟨ad, Af, cf, e7, hy0, hy1, hyc, hyC⟩ := at_T38 HA.out i p1 p2
      cases e7
      replace hy0 := (HB.out.cell (World.block_lt_of_cell? w _ hy0)).trans hy0
      replace hy1 := (HB.out.cell (World.block_lt_of_cell? w _ hy1)).trans hy1
      simp only [Int.toNat_natCast] at hy0 hy1
      have hil : i < l.length := by rw [HN0.out]; exact ci
      rw [T38_eq l i hil] at hy0 hy1 hyc hyC
      have hfb := HLB.out _ (List.getElem_mem hil)
      have hal := allB_take hil
      have hsl : ∀ f ∈ l.take (i + 1), f ∈ l.take i ∨ f = l[i] := fun f hf => by
        rw [List.take_add_one, List.getElem?_eq_getElem hil] at hf
        rcases List.mem_append.1 hf with h | h
        · exact .inl h
        · exact .inr (List.mem_singleton.1 h)
      obtain ⟨⟨fc, body⟩, hf⟩ : ∃ f, l[i] = f := ⟨_, rfl⟩
      rw [hf] at hy0 hy1 hyc hyC hfb hal hsl
      simp only at hy0 hy1 hyc hyC hfb hal
      obtain ⟨fn, hfn⟩ : ∃ n, body.length = n := ⟨_, rfl⟩
      rw [hfn] at hy1 hyc hyC
      have HFN := Aside0.mk hfn
      have HF := Aside0.mk hyC
      have HFC := Aside0.mk hyc
      have HBB := Aside0.mk hfb.2
      obtain ⟨⟨p, ee⟩, hbs⟩ : ∃ r, bytesS fc body = r := ⟨_, rfl⟩
      rw [hbs] at hal
      have HBS := Aside0.mk hbs
      by_cases cmay : fc ≠ 0 ∧ fn ≤ 300
      · have hbe := bytesS_eq cmay.1 (by rw [hfn]; exact cmay.2)
        have hpl := bytesS_len cmay.1 (show body.length ≤ 300 by rw [hfn]; exact cmay.2)
        have hpb := bytesS_bytes hfb.1 hfb.2
        have hrdm := readS_bytesS cmay.1 (show body.length ≤ 300 by rw [hfn]; exact cmay.2) more
        rw [hbs] at hbe hpl hpb hrdm
        simp only [hfn] at hpl hrdm
        injection hbe with _ hbe2
        subst hbe2
        obtain ⟨pn, hpn⟩ : ∃ n, p.length = n := ⟨_, rfl⟩
        have HPN := Aside0.mk hpn
        have HPL := Aside0.mk (show pn ≤ 303 by omega)
        have HZL := Aside0.mk (show (p ++ more).length = pn + n1 by rw [List.length_append, hpn, HL1.out])
        have HZ6 := Aside0.mk (show pn + n1 ≤ 1000000 by have := HN1.out; omega)
        have HZB := Aside0.mk (show Bytes (p ++ more) from bt_append hpb HMB.out)
        have HRD := Aside0.mk (show readS (p ++ more) = (fc, body, (pn : Int), 0) by rw [hrdm]; congr 3; omega)
        have HMY2 := Aside0.mk (show ∀ f ∈ l.take (i + 1), may f from fun f hf => by
          rcases hsl f hf with h | rfl
          · exact HMY.out f h
          · exact ⟨cmay.1, by show body.length ≤ 300; rw [hfn]; exact cmay.2⟩)
        have HAL := Aside0.mk (show (allB (l.take i)).length ≤ 1818 by have h := allB_len HMY.out; have h2 : (l.take i).length ≤ 6 := (by rw [List.length_take]; have := HN6.out; omega); omega)
        have HALE := Aside0.mk hal
        have hz3 : ((pn : Int) != (pn : Int)) = false := by simp
        clear hbs hal hsl hf hfn hpn hpl hpb hrdm hfb hyc hyC cmay hil
        go_upto_region 9 with (first | ((with_reducible refine gate_dst (N := 7) rfl ?_); refine box_event ?hg (N := 7) ?hd (cs := #[.int .u8 0, .slice none 0 0]) (t := 38) ?hr ?_; (case hd => rfl); (case hg => rfl); (case hr => first | (go_simp; done) | (go_simp; rfl)); intro g7 hgb wa hbox hb; have HBXg7 := Aside0.mk hbox; have HGEg7 := Aside0.mk (show w.heap.size ≤ g7 by rw [hgb]; exact HB.out.size); have HT_ := Aside0.mk (Kd.R_mono (Kd.R_below (Kd.R_bound HT.out) hb) (fun k hk => show k ≠ g7 by have := hk.2.2.1; omega)); have HB_ := Aside0.mk (below_step HB.out hb); clear HT HB; have HT := HT_; have HB := HB_; clear HT_ HB_; clear hgb hb hbox; have hx0 := blk_cell HBXg7.out 0; have hx1 := blk_cell HBXg7.out 1; have hfx0 := blk_frozen HBXg7.out 0; have hfx1 := blk_frozen HBXg7.out 1; replace hx0 := hx0.trans rfl; replace hx1 := hx1.trans rfl))
        (try simp only [Act.put, List.setIfInBounds_toArray, List.set_cons_zero, List.set_cons_succ])
        generalize hst : World.setCell (World.setCell wa ⟨g7, 0, none⟩ (.int .u8 fc)) ⟨g7, 1, none⟩ (.slice Af fn cf) = w2
        have HBX0 := Aside0.mk ((blk_set HBXg7.out 0 (.int .u8 fc)).trans rfl)
        have HT_ := Aside0.mk ((hst ▸ Kd.R_far (p := ⟨g7, 1, none⟩) (Kd.R_far (p := ⟨g7, 0, none⟩) HT.out (fun _ h => h) _) (fun _ h => h) _ : Kd.R (Kd.int .u8) 5 w2 w.heap.size (fun k => k ≠ g7) u5 (allB (l.take i))))
        have HB_ := Aside0.mk (hst ▸ below_set (below_set HB.out HGEg7.out) HGEg7.out)
        have HBXg7_ := Aside0.mk ((hst ▸ (blk_set HBX0.out 1 (.slice Af fn cf)).trans rfl : w2.heap[g7]? = some (.cells #[.int .u8 fc, .slice Af fn cf] 38 (0, 0))))
        clear HT HB HBXg7
        have HT := HT_
        have HB := HB_
        have HBXg7 := HBXg7_
        clear HT_ HB_ HBXg7_
        clear hst hx0 hx1 hfx0 hfx1 HBX0
        have hz0 : w2.cell? ⟨g7, 0, none⟩ = some (.int .u8 fc) := (blk_cell HBXg7.out 0).trans rfl
        have hz1 : w2.cell? ⟨g7, 1, none⟩ = some (.slice Af fn cf) := (blk_cell HBXg7.out 1).trans rfl
        go_upto_region 13 with (first | (go_at_call 26; with_reducible refine (Bytes_calls fc Af fn cf body HFN.out p 0 _ (Kd.C_below HF.out HB.out) HFC.out HBS.out).mono ?_; rintro e w3 ⟨v0, rfl, ho, hb⟩; obtain ⟨Ap, cp, rfl⟩ := Kd.R_slice ho; rw [HPN.out] at ho ⊢; have HP := Aside0.mk (show T8 w3 (.slice Ap pn cp) p from T8.of_R ho); have HT_ := Aside0.mk (Kd.R_below HT.out hb); have HBXg7_ := Aside0.mk ((hb.block g7 (blk_lt HBXg7.out)).trans HBXg7.out); have HB_ := Aside0.mk (below_step HB.out hb); clear HT HBXg7 HB; have HT := HT_; have HBXg7 := HBXg7_; have HB := HB_; clear HT_ HBXg7_ HB_; clear ho hb) | ((with_reducible refine gate_dst (N := 49) rfl ?_); refine Kd.R_lit (Kd.int .u8) _ 5 ?hg (N := 49) ?hd (xs := ([] : List Int)) (inner := []) (ok := fun _ => True) (okp := fun _ => True) ?hr ?hp (fun _ hk => hk) trivial (Below.refl _ _) (Nat.le_refl _) (by simp) ?_; (case hd => rfl); (case hg => rfl); (case hr => first | (go_simp; done) | (go_simp; rfl)); (case hp => exact (Reps.none _ _)); intro vz wz ho hb hg_ hnew_; clear hg_ hnew_; have HR := Aside0.mk ho; have HBZ := Aside0.mk hb; clear ho hb) | ((with_reducible refine gate_builtin (b := .append) (xs := #[.tmp 49, .tmp 50]) rfl ?_); at_builtin; refine Kd.R_append_row (Value.int .u8) 0 _ rfl (.tmp 49) (.tmp 50) 22 5 (.int .u8 0) 1 rfl Try.underlying22 info5 rfl (by omega) vz [] p Ap pn cp (fun _ => True) rfl rfl (fun _ _ => trivial) HR.out (Kd.C_below (HP.out.at_.2.2) HBZ.out) HBZ.out HBZ.out.size (by have := HPL.out; simp only [List.length_nil]; omega) ?_; intro vy wy ho hb hg hat; clear HR HBZ hg hat; have HR := Aside0.mk ho; have HBZ := Aside0.mk hb; clear ho hb; rw [List.nil_append] at HR) | ((with_reducible refine gate_builtin (b := .append) (xs := #[.tmp 51, .tmp 52]) rfl ?_); at_builtin; refine Kd.R_append_row (Value.int .u8) 0 _ rfl (.tmp 51) (.tmp 52) 22 5 (.int .u8 0) 1 rfl Try.underlying22 info5 rfl (by omega) vy p more A1 n1 c1 (fun _ => True) rfl rfl (fun _ _ => trivial) HR.out (Kd.C_below (Kd.C_below HM.out HB.out) HBZ.out) HBZ.out HBZ.out.size (by have := HPL.out; have := HN1.out; have := HPN.out; omega) ?_; intro vx wx ho hb hg hat; clear HR HBZ hg hat; have HR := Aside0.mk ho; have HBZ := Aside0.mk hb; clear ho hb; obtain ⟨Az, cz, rfl⟩ := Kd.R_slice HR.out; have HZ := Aside0.mk (T8.of_R HR.out); rw [HZL.out] at HZ ⊢; have HP_ := Aside0.mk (HP.out.below HBZ.out); have HT_ := Aside0.mk (Kd.R_below HT.out HBZ.out); have HBXg7_ := Aside0.mk ((HBZ.out.block g7 (blk_lt HBXg7.out)).trans HBXg7.out); have HB_ := Aside0.mk (below_step HB.out HBZ.out); clear HP HT HBXg7 HB; have HP := HP_; have HT := HT_; have HBXg7 := HBXg7_; have HB := HB_; clear HP_ HT_ HBXg7_ HB_; clear HR HBZ) | (go_at_call 28; with_reducible refine (Read_calls Az (pn + n1) cz (p ++ more) HZL.out fc body (pn : Int) 0 _ HZ.out.at_.2.2 HZ.out.at_.2.1 HZ6.out HZB.out HRD.out).mono ?_; rintro e w5 ⟨v2, rfl, ho, hb⟩; obtain ⟨A2, c2, rfl⟩ := Kd.R_slice ho; rw [HFN.out] at ho ⊢; have HP2 := Aside0.mk (show T8 w5 (.slice A2 fn c2) body from T8.of_R ho); have HT_ := Aside0.mk (Kd.R_below HT.out hb); have HP_ := Aside0.mk (HP.out.below hb); have HBXg7_ := Aside0.mk ((hb.block g7 (blk_lt HBXg7.out)).trans HBXg7.out); have HB_ := Aside0.mk (below_step HB.out hb); clear HT HP HBXg7 HB; have HT := HT_; have HP := HP_; have HBXg7 := HBXg7_; have HB := HB_; clear HT_ HP_ HBXg7_ HB_; clear ho hb HZ) | ((with_reducible refine gate_dst (N := 10) rfl ?_); refine box_event ?hg (N := 10) ?hd (cs := #[.int .u8 0, .slice none 0 0]) (t := 38) ?hr ?_; (case hd => rfl); (case hg => rfl); (case hr => first | (go_simp; done) | (go_simp; rfl)); intro g10 hgb wb hbox hb; have HBXg10 := Aside0.mk hbox; have HGEg10 := Aside0.mk (show w.heap.size ≤ g10 by rw [hgb]; exact HB.out.size); have HNE := Aside0.mk (show g7 ≠ g10 by have := blk_lt HBXg7.out; omega); have HT_ := Aside0.mk (Kd.R_mono (Kd.R_below (Kd.R_bound HT.out) hb) (fun k hk => show k ≠ g10 by have := hk.2.2.1; omega)); have HP_ := Aside0.mk (HP.out.below hb); have HP2_ := Aside0.mk (HP2.out.below hb); have HBXg7_ := Aside0.mk ((hb.block g7 (blk_lt HBXg7.out)).trans HBXg7.out); have HB_ := Aside0.mk (below_step HB.out hb); clear HT HP HP2 HBXg7 HB; have HT := HT_; have HP := HP_; have HP2 := HP2_; have HBXg7 := HBXg7_; have HB := HB_; clear HT_ HP_ HP2_ HBXg7_ HB_; clear hgb hb hbox; have hx0 := blk_cell HBXg10.out 0; have hx1 := blk_cell HBXg10.out 1; have hfx0 := blk_frozen HBXg10.out 0; have hfx1 := blk_frozen HBXg10.out 1; replace hx0 := hx0.trans rfl; replace hx1 := hx1.trans rfl))
        (try simp only [Act.put, List.setIfInBounds_toArray, List.set_cons_zero, List.set_cons_succ])
        generalize hst : World.setCell (World.setCell wb ⟨g10, 0, none⟩ (.int .u8 fc)) ⟨g10, 1, none⟩ (.slice A2 fn c2) = w9
        have HBX0 := Aside0.mk ((blk_set HBXg10.out 0 (.int .u8 fc)).trans rfl)
        have HT_ := Aside0.mk (Kd.R_mono (hst ▸ Kd.R_far (p := ⟨g10, 1, none⟩) (Kd.R_far (p := ⟨g10, 0, none⟩) HT.out (fun _ h => h) _) (fun _ h => h) _ : Kd.R (Kd.int .u8) 5 w9 w.heap.size (fun k => k ≠ g10) u5 (allB (l.take i))) (fun _ _ => trivial))
        have HP_ := Aside0.mk (hst ▸ (HP.out.apart HBXg10.out 0 _).apart HBX0.out 1 _)
        have HP2_ := Aside0.mk (hst ▸ (HP2.out.apart HBXg10.out 0 _).apart HBX0.out 1 _)
        have HBXg7_ := Aside0.mk ((hst ▸ blk_far (blk_far HBXg7.out HNE.out (.int .u8 fc)) HNE.out (.slice A2 fn c2) : w9.heap[g7]? = some (.cells #[.int .u8 fc, .slice Af fn cf] 38 (0, 0))))
        have HB_ := Aside0.mk (hst ▸ below_set (below_set HB.out HGEg10.out) HGEg10.out)
        have HBXg10_ := Aside0.mk ((hst ▸ (blk_set HBX0.out 1 (.slice A2 fn c2)).trans rfl : w9.heap[g10]? = some (.cells #[.int .u8 fc, .slice A2 fn c2] 38 (0, 0))))
        clear HT HP HP2 HBXg7 HB HBXg10
        have HT := HT_
        have HP := HP_
        have HP2 := HP2_
        have HBXg7 := HBXg7_
        have HB := HB_
        have HBXg10 := HBXg10_
        clear HT_ HP_ HP2_ HBXg7_ HB_ HBXg10_
        clear hst hx0 hx1 hfx0 hfx1 HBX0
        have hw0 : w9.cell? ⟨g10, 0, none⟩ = some (.int .u8 fc) := (blk_cell HBXg10.out 0).trans rfl
        have hw1 : w9.cell? ⟨g10, 1, none⟩ = some (.slice A2 fn c2) := (blk_cell HBXg10.out 1).trans rfl
        have hv0 : w9.cell? ⟨g7, 0, none⟩ = some (.int .u8 fc) := (blk_cell HBXg7.out 0).trans rfl
        have hv1 : w9.cell? ⟨g7, 1, none⟩ = some (.slice Af fn cf) := (blk_cell HBXg7.out 1).trans rfl
        go_wp2_with (first | (go_at_call 32; with_reducible refine (Same38_calls fc A2 fn c2 body HFN.out fc Af fn cf body HFN.out true _ HP2.out.at_.2.2 HP2.out.at_.2.1 (Kd.C_below HF.out HB.out) HFC.out HBB.out HBB.out (decide_eq_true ⟨rfl, rfl⟩)).mono ?_; rintro e w6 ⟨rfl, hb⟩; have HT_ := Aside0.mk (Kd.R_below HT.out hb); have HP_ := Aside0.mk (HP.out.below hb); have HB_ := Aside0.mk (below_step HB.out hb); clear HT HP HB; have HT := HT_; have HP := HP_; have HB := HB_; clear HT_ HP_ HB_; clear hb HP2) | ((with_reducible refine gate_builtin (b := .append) (xs := #[.tmp 72, .tmp 73]) rfl ?_); at_builtin; refine Kd.R_append_row (Value.int .u8) 0 (w0 := w) w.heap.size rfl (.tmp 72) (.tmp 73) 22 5 (.int .u8 0) 1 rfl Try.underlying22 info5 rfl (by omega) u5 (allB (l.take i)) p Ap pn cp (fun _ => True) (by rfl) rfl (fun _ _ => trivial) HT.out HP.out.at_.2.2 HB.out HB.out.size (by have := HAL.out; have := HPL.out; omega) ?_; intro v5 w7 ho hb hg hat; clear HT HP HB; have HT := Aside0.mk ho; have HB := Aside0.mk hb; clear hg hat ho hb))
        go_roundg gk
        case measure => omega
        case rel => exact ⟨i + 1, congrArg (Value.int .i64) (by omega), ⟨by have := HKQ.out; omega⟩, ⟨by omega⟩, HMY2, ⟨by rw [HALE.out]; exact HT.out⟩, HB⟩
      · clear HT
        have HT := Aside0.mk (Kd.R_nil (Kd.int .u8) 5 wr w.heap.size (fun _ => True))
        by_cases c0_ : fc = 0
        · subst c0_
          have he : ee = 1 := by unfold bytesS at hbs; rw [if_pos rfl] at hbs; injection hbs with _ h; exact h.symm
          subst he
          clear hbs hal hsl hf hfn hfb hyc hyC cmay hil
          go_upto_region 9 with (first | ((with_reducible refine gate_dst (N := 7) rfl ?_); refine box_event ?hg (N := 7) ?hd (cs := #[.int .u8 0, .slice none 0 0]) (t := 38) ?hr ?_; (case hd => rfl); (case hg => rfl); (case hr => first | (go_simp; done) | (go_simp; rfl)); intro g7 hgb wa hbox hb; have HBXg7 := Aside0.mk hbox; have HGEg7 := Aside0.mk (show w.heap.size ≤ g7 by rw [hgb]; exact HB.out.size); have HT_ := Aside0.mk (Kd.R_mono (Kd.R_below (Kd.R_bound HT.out) hb) (fun k hk => show k ≠ g7 by have := hk.2.2.1; omega)); have HB_ := Aside0.mk (below_step HB.out hb); clear HT HB; have HT := HT_; have HB := HB_; clear HT_ HB_; clear hgb hb hbox; have hx0 := blk_cell HBXg7.out 0; have hx1 := blk_cell HBXg7.out 1; have hfx0 := blk_frozen HBXg7.out 0; have hfx1 := blk_frozen HBXg7.out 1; replace hx0 := hx0.trans rfl; replace hx1 := hx1.trans rfl))
          (try simp only [Act.put, List.setIfInBounds_toArray, List.set_cons_zero, List.set_cons_succ])
          generalize hst : World.setCell (World.setCell wa ⟨g7, 0, none⟩ (.int .u8 0)) ⟨g7, 1, none⟩ (.slice Af fn cf) = w2
          have HBX0 := Aside0.mk ((blk_set HBXg7.out 0 (.int .u8 0)).trans rfl)
          have HT_ := Aside0.mk ((hst ▸ Kd.R_far (p := ⟨g7, 1, none⟩) (Kd.R_far (p := ⟨g7, 0, none⟩) HT.out (fun _ h => h) _) (fun _ h => h) _ : Kd.R (Kd.int .u8) 5 w2 w.heap.size (fun k => k ≠ g7) (.slice none 0 0) []))
          have HB_ := Aside0.mk (hst ▸ below_set (below_set HB.out HGEg7.out) HGEg7.out)
          have HBXg7_ := Aside0.mk ((hst ▸ (blk_set HBX0.out 1 (.slice Af fn cf)).trans rfl : w2.heap[g7]? = some (.cells #[.int .u8 0, .slice Af fn cf] 38 (0, 0))))
          clear HT HB HBXg7
          have HT := HT_
          have HB := HB_
          have HBXg7 := HBXg7_
          clear HT_ HB_ HBXg7_
          clear hst hx0 hx1 hfx0 hfx1 HBX0
          have hz0 : w2.cell? ⟨g7, 0, none⟩ = some (.int .u8 0) := (blk_cell HBXg7.out 0).trans rfl
          have hz1 : w2.cell? ⟨g7, 1, none⟩ = some (.slice Af fn cf) := (blk_cell HBXg7.out 1).trans rfl
          go_wp2_with (first | (go_at_call 26; with_reducible refine (Bytes_calls 0 Af fn cf body HFN.out p 1 _ (Kd.C_below HF.out HB.out) HFC.out HBS.out).mono ?_; rintro e w3 ⟨v0, rfl, ho, hb⟩; have HBXg7_ := Aside0.mk ((hb.block g7 (blk_lt HBXg7.out)).trans HBXg7.out); have HB_ := Aside0.mk (below_step HB.out hb); clear HBXg7 HB; have HBXg7 := HBXg7_; have HB := HB_; clear HBXg7_ HB_; clear ho hb; have hz0 : w3.cell? ⟨g7, 0, none⟩ = some (.int .u8 0) := (blk_cell HBXg7.out 0).trans rfl; have hz1 : w3.cell? ⟨g7, 1, none⟩ = some (.slice Af fn cf) := (blk_cell HBXg7.out 1).trans rfl))
          go_ret
          exact ⟨rfl, HB.out⟩
        · have h300 : ¬ fn ≤ 300 := fun h => cmay ⟨c0_, h⟩
          have he : ee = 4 := by unfold bytesS at hbs; rw [if_neg c0_, if_pos (by omega)] at hbs; injection hbs with _ h; exact h.symm
          subst he
          have hz3 : (fc == 0) = false := beq_eq_false_iff_ne.mpr c0_
          have hz4 : decide (300 < (fn : Int)) = true := decide_eq_true (by omega)
          clear hbs hal hsl hf hfn hfb hyc hyC cmay hil c0_ h300
          go_upto_region 9 with (first | ((with_reducible refine gate_dst (N := 7) rfl ?_); refine box_event ?hg (N := 7) ?hd (cs := #[.int .u8 0, .slice none 0 0]) (t := 38) ?hr ?_; (case hd => rfl); (case hg => rfl); (case hr => first | (go_simp; done) | (go_simp; rfl)); intro g7 hgb wa hbox hb; have HBXg7 := Aside0.mk hbox; have HGEg7 := Aside0.mk (show w.heap.size ≤ g7 by rw [hgb]; exact HB.out.size); have HT_ := Aside0.mk (Kd.R_mono (Kd.R_below (Kd.R_bound HT.out) hb) (fun k hk => show k ≠ g7 by have := hk.2.2.1; omega)); have HB_ := Aside0.mk (below_step HB.out hb); clear HT HB; have HT := HT_; have HB := HB_; clear HT_ HB_; clear hgb hb hbox; have hx0 := blk_cell HBXg7.out 0; have hx1 := blk_cell HBXg7.out 1; have hfx0 := blk_frozen HBXg7.out 0; have hfx1 := blk_frozen HBXg7.out 1; replace hx0 := hx0.trans rfl; replace hx1 := hx1.trans rfl))
          (try simp only [Act.put, List.setIfInBounds_toArray, List.set_cons_zero, List.set_cons_succ])
          generalize hst : World.setCell (World.setCell wa ⟨g7, 0, none⟩ (.int .u8 fc)) ⟨g7, 1, none⟩ (.slice Af fn cf) = w2
          have HBX0 := Aside0.mk ((blk_set HBXg7.out 0 (.int .u8 fc)).trans rfl)
          have HT_ := Aside0.mk ((hst ▸ Kd.R_far (p := ⟨g7, 1, none⟩) (Kd.R_far (p := ⟨g7, 0, none⟩) HT.out (fun _ h => h) _) (fun _ h => h) _ : Kd.R (Kd.int .u8) 5 w2 w.heap.size (fun k => k ≠ g7) (.slice none 0 0) []))
          have HB_ := Aside0.mk (hst ▸ below_set (below_set HB.out HGEg7.out) HGEg7.out)
          have HBXg7_ := Aside0.mk ((hst ▸ (blk_set HBX0.out 1 (.slice Af fn cf)).trans rfl : w2.heap[g7]? = some (.cells #[.int .u8 fc, .slice Af fn cf] 38 (0, 0))))
          clear HT HB HBXg7
          have HT := HT_
          have HB := HB_
          have HBXg7 := HBXg7_
          clear HT_ HB_ HBXg7_
          clear hst hx0 hx1 hfx0 hfx1 HBX0
          have hz0 : w2.cell? ⟨g7, 0, none⟩ = some (.int .u8 fc) := (blk_cell HBXg7.out 0).trans rfl
          have hz1 : w2.cell? ⟨g7, 1, none⟩ = some (.slice Af fn cf) := (blk_cell HBXg7.out 1).trans rfl
          go_wp2_with (first | (go_at_call 26; with_reducible refine (Bytes_calls fc Af fn cf body HFN.out p 4 _ (Kd.C_below HF.out HB.out) HFC.out HBS.out).mono ?_; rintro e w3 ⟨v0, rfl, ho, hb⟩; have HBXg7_ := Aside0.mk ((hb.block g7 (blk_lt HBXg7.out)).trans HBXg7.out); have HB_ := Aside0.mk (below_step HB.out hb); clear HBXg7 HB; have HBXg7 := HBXg7_; have HB := HB_; clear HBXg7_ HB_; clear ho hb; have hz0 : w3.cell? ⟨g7, 0, none⟩ = some (.int .u8 fc) := (blk_cell HBXg7.out 0).trans rfl; have hz1 : w3.cell? ⟨g7, 1, none⟩ = some (.slice Af fn cf) := (blk_cell HBXg7.out 1).trans rfl))
          go_ret
          exact ⟨rfl, HB.out⟩
    · have cb : decide ((i : Int) < (n0 : Int)) = false := decide_eq_false (by omega)
      have hin : n0 = i := by have := HI.out; omega
      subst hin
      have htk : l.take n0 = l := List.take_of_length_le (by rw [HN0.out]; exact Nat.le_refl _)
      rw [htk] at HT HMY
      obtain ⟨At, ct, et⟩ := Kd.R_slice HT.out
      subst et
      obtain ⟨an, han⟩ : ∃ n, (allB l).length = n := ⟨_, rfl⟩
      rw [han] at HT ⊢
      have HAN := Aside0.mk han
      have HT8 := Aside0.mk (show T8 wr (.slice At an ct) (allB l) from T8.of_R HT.out)
      have hab := allB_bytes HLB.out
      have hal := allB_len HMY.out
      have HFB := Aside0.mk (show Bytes ([] ++ allB l) from hab)
      have HFL := Aside0.mk (show ([] : List Int).length + an ≤ 1000000 by have := HN6.out; have := HN0.out; simp only [List.length_nil]; omega)
      have HFS := Aside0.mk (show framesS ([] ++ allB l) = (l, [], 0) from framesS_allB HLB.out HMY.out)
      have HBD := Aside0.mk (show ∀ f ∈ l.map to41, f.f1.length ≤ 1000000 from fun f hf => by obtain ⟨q, hq, rfl⟩ := List.mem_map.1 hf; have := (HMY.out q hq).2; show q.f1.length ≤ _; omega)
      have HMB0 := Aside0.mk (show Bytes ([] ++ more) from HMB.out)
      have HML0 := Aside0.mk (show ([] : List Int).length + n1 ≤ 1000000 by have := HN1.out; simp only [List.length_nil]; omega)
      obtain ⟨⟨o5, b5, e5⟩, hfs5⟩ : ∃ r, framesS ([] ++ more) = r := ⟨_, rfl⟩
      have HFS5 := Aside0.mk hfs5
      have h302 := framesS_kept_302 HMB0.out
      rw [hfs5] at h302
      have hz5 : decide ((b5.length : Int) ≤ 302) = true := decide_eq_true (by simp only at h302; omega)
      clear hfs5 h302 hab hal han htk
      go_wp2_with (first | (go_at_call 33; with_reducible refine (New_calls _).mono ?_; rintro e wd ⟨gd, rfl, hI, hg, hb⟩; have HD := Aside0.mk hI; have HGD := Aside0.mk (Nat.le_trans HB.out.size hg); have HT8_ := Aside0.mk (HT8.out.below hb); have HB_ := Aside0.mk (below_step HB.out hb); clear HT8 HB; have HT8 := HT8_; have HB := HB_; clear HT8_ HB_; clear hI hg hb) | (go_at_call 34; with_reducible refine (Feed_calls gd [] (allB l) At an ct HAN.out l [] 0 _ HD.out HT8.out.at_.2.2 HT8.out.at_.2.1 HFB.out HFL.out HFS.out).mono ?_; rintro e w1 ⟨vo, rfl, ho, hI, hn⟩; obtain ⟨Ao, co, rfl⟩ := Kd.R_slice ho; rw [HN0.out]; have HO := Aside0.mk (HN0.out ▸ TV.of_R ho HD.out.lt); have HB_ := Aside0.mk (hn.bel HGD.out HB.out); have HD_ := Aside0.mk (hI); clear HB HD; have HB := HB_; have HD := HD_; clear HB_ HD_; clear ho hI hn HT8) | (go_at_call 36; with_reducible refine (Pending_calls gd [] 0 0 List.length_nil _ HD.out).mono ?_; rintro e w' ⟨rfl, rfl⟩) | (go_at_call 31; with_reducible refine (Frames_calls _ Ao n0 co l HN0.out _ HO.out.vv HN06.out).mono ?_; rintro e w' ⟨Aq, cq, rfl, hcp, hp, hb⟩; have HP := Aside0.mk hp; have HPC := Aside0.mk hcp; have HD_ := Aside0.mk (HD.out.below hb); have HB_ := Aside0.mk (below_step HB.out hb); clear HD HB; have HD := HD_; have HB := HB_; clear HD_ HB_; clear hp hcp hb HO) | (go_at_call 31; with_reducible refine (Frames_calls _ A0 n0 c0 l HN0.out _ (Kd.V_below HV.out HB.out) HN06.out).mono ?_; rintro e w' ⟨Ar, cr, rfl, hcp, hp, hb⟩; have HQ := Aside0.mk hp; have HQC := Aside0.mk hcp; have HD_ := Aside0.mk (HD.out.below hb); have HB_ := Aside0.mk (below_step HB.out hb); have HP_ := Aside0.mk (Kd.C_below HP.out hb); clear HD HB HP; have HD := HD_; have HB := HB_; have HP := HP_; clear HD_ HB_ HP_; clear hp hcp hb) | (go_at_call 30; with_reducible refine (Same41_calls Aq n0 cq (l.map to41) (by rw [List.length_map]; exact HN0.out) Ar n0 cr (l.map to41) (by rw [List.length_map]; exact HN0.out) true _ HP.out HPC.out HQ.out HQC.out HN06.out HBD.out (decide_eq_true rfl)).mono ?_; rintro e w' ⟨rfl, hb⟩; have HD_ := Aside0.mk (HD.out.below hb); have HB_ := Aside0.mk (below_step HB.out hb); clear HD HB; have HD := HD_; have HB := HB_; clear HD_ HB_; clear hb HP HQ) | (go_at_call 34; with_reducible refine (Feed_calls gd [] more A1 n1 c1 HL1.out o5 b5 e5 _ HD.out (Kd.C_below HM.out HB.out) HMC.out HMB0.out HML0.out HFS5.out).mono ?_; rintro e w1 ⟨vo, rfl, ho, hI, hn⟩; have HB_ := Aside0.mk (hn.bel HGD.out HB.out); have HD_ := Aside0.mk (hI); clear HB HD; have HB := HB_; have HD := HD_; clear HB_ HD_; clear ho hI hn) | (go_at_call 36; with_reducible refine (Pending_calls gd b5 e5 b5.length rfl _ HD.out).mono ?_; rintro e w' ⟨rfl, rfl⟩))
      go_ret
      exact ⟨rfl, HB.out⟩
end Go.Proofs.Ytagmefjpnmjcjab.Fh
