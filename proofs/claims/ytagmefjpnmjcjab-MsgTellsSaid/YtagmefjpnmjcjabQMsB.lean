/- Cut to what this claim names. -/
import Derived.Test.YtagmefjpnmjcjabQMsA
import Derived.Test.YtagmefjpnmjcjabQMsF
import Derived.Lib.OthersKept
/- msg.Frame and msg.Bytes, walked by hand. -/
namespace Go.Proofs.Ytagmefjpnmjcjab.Mh
open Go.RowKit Go.Proofs.YtagmefjpnmjcjabW.PrintWords Go.Proofs.YtagmefjpnmjcjabW.PrintLast Go.Proofs.YtagmefjpnmjcjabW.PrintMore
open Go.Proofs.Ytagmefjpnmjcjab.Nu (bits_Len64.f bits_Len64.calls)
open Go.Proofs.Ytagmefjpnmjcjab.Ms (msg_shape_size.f msg_shape_size.calls)
open Go.Proofs.Ytagmefjpnmjcjab.FrNum (fits len_ex rd_drop be Bytes)
open Go.Proofs.Ytagmefjpnmjcjab.Fh (bytesS Bytes_calls T8 T8.of_R)
attribute [local go_sem] max2_int min2_int max_two min_two
set_option linter.unusedVariables false
set_option linter.unusedSimpArgs false
theorem size38 : (Try.prog.info? 38).map (·.size) = some 2 := by kernel_rfl
theorem size67 : (Try.prog.info? 67).map (·.size) = some 3 := by kernel_rfl

theorem numsB_take {z : List Nat} {ns : List Int} {i : Nat} (h : ns.length = z.length) (hi : i < ns.length) (s : Nat) (nn : Int) (hs : z[i]? = some s) (hn : ns[i]? = some nn) : numsB (z.take (i + 1)) (ns.take (i + 1)) = numsB (z.take i) (ns.take i) ++ be s nn := by
  induction i generalizing z ns with
  | zero =>
    cases z with
    | nil => simp at hs
    | cons x z =>
      cases ns with
      | nil => simp at hn
      | cons y ns =>
        simp at hs hn
        subst hs hn
        simp [numsB]
  | succ i ih =>
    cases z with
    | nil => simp at hs
    | cons x z =>
      cases ns with
      | nil => simp at hn
      | cons y ns =>
        simp only [List.length_cons] at h hi
        have := ih (z := z) (ns := ns) (by omega) (by omega) (by simpa using hs) (by simpa using hn)
        rw [List.take_succ_cons, List.take_succ_cons, List.take_succ_cons, List.take_succ_cons]
        simp only [numsB]
        rw [this, List.append_assoc]
theorem textsB_take {ts : List ByteArray} {i : Nat} (hi : i < ts.length) : textsB (ts.take (i + 1)) = textsB (ts.take i) ++ (be 2 (ts[i].size : Int) ++ bytesOf ts[i]) := by
  unfold textsB
  rw [List.take_add_one, List.getElem?_eq_getElem hi, List.flatMap_append]
  simp
theorem allFit_at : ∀ {z : List Nat} {ns : List Int} {i : Nat} {s : Nat} {nn : Int}, allFit z ns = true → z[i]? = some s → ns[i]? = some nn → fits (s : Int) nn = true
  | [], _, i, _, _, _, h, _ => by simp at h
  | _ :: _, [], i, _, _, _, _, h => by simp at h
  | s0 :: z, n0 :: ns, 0, s, nn, h, h1, h2 => by
    simp only [allFit, Bool.and_eq_true] at h
    simp at h1 h2
    subst h1 h2
    exact h.1
  | s0 :: z, n0 :: ns, i + 1, s, nn, h, h1, h2 => by
    simp only [allFit, Bool.and_eq_true] at h
    exact allFit_at (i := i) h.2 (by simpa using h1) (by simpa using h2)
set_option maxHeartbeats 8000000 in
set_option maxRecDepth 100000 in
theorem Frame_calls (k : Int) (A1 : Option Addr) (n1 c1 : Nat) (ns : List Int) (hn1 : ns.length = n1) (A2 : Option Addr) (n2 c2 : Nat) (ts : List ByteArray) (hn2 : ts.length = n2) (r1 : Int) (r2 : List Int) (r3 : Int) (w : World)
    (hC1 : Kd.C (Kd.int .u64) w A1 n1 ns) (hc1 : n1 ≤ c1) (hC2 : Kd.C Kd.string w A2 n2 ts) (hc2 : n2 ≤ c2) (hwf : ∀ n ∈ ns, 0 ≤ n ∧ n ≤ 18446744073709551615) (h : frameS k ns ts = (r1, r2, r3)) :
    Calls Try.prog 39 #[.agg #[.int .i64 k, .slice A1 n1 c1, .slice A2 n2 c2]] w fun e w' => ∃ v : Value, e = .returned (.tuple #[.agg #[.int .u8 r1, v], .int .i64 r3]) ∧ Kd.R (Kd.int .u8) 5 w' w.heap.size (fun _ => True) v r2 ∧ Below w.heap.size w w' := by
  have HB := Aside0.mk (Below.refl w.heap.size w)
  have HC1 := Aside0.mk hC1
  have HC2 := Aside0.mk hC2
  have HCC1 := Aside0.mk hc1
  have HCC2 := Aside0.mk hc2
  have HN1 := Aside0.mk hn1
  have HN2 := Aside0.mk hn2
  have HWF := Aside0.mk hwf
  have HM1 := Aside0.mk hC1.2.1
  have HM2 := Aside0.mk hC2.2.1
  have hu97 := Try.underlying97
  have hu67 := Try.underlying67
  have hu38 := Try.underlying38
  clear hC1 hc1 hC2 hc2 hwf
  unfold frameS at h
  obtain ⟨rr, hrr⟩ : ∃ r, rightS k ns ts = r := ⟨_, rfl⟩
  have HRR := Aside0.mk hrr
  cases rr with
  | false =>
    rw [hrr, if_neg (by simp)] at h
    injection h with h1 h
    injection h with h2 h3
    subst h1 h2 h3
    clear hrr
    go_enter Try.func39, Try.ntmps39
    go_wp2_with (first | ((with_reducible refine gate_dst (N := 1) rfl ?_); refine box_event ?hg (N := 1) ?hd (cs := #[.int .i64 k, .slice A1 n1 c1, .slice A2 n2 c2]) (t := 67) ?hr ?_; (case hd => rfl); (case hg => rfl); (case hr => first | (go_simp; done) | (go_simp; rfl)); intro g1 hgb wa hbox hb; have HBX1 := Aside0.mk hbox; have HGE1 := Aside0.mk (show w.heap.size ≤ g1 by rw [hgb]; exact Nat.le_refl _); have HB_ := Aside0.mk hb; clear HB hgb hbox hb; have HB := HB_; clear HB_) | ((with_reducible refine gate_dst (N := 2) rfl ?_); refine box_event ?hg (N := 2) ?hd (cs := #[.int .u8 0, .slice none 0 0]) (t := 38) ?hr ?_; (case hd => rfl); (case hg => rfl); (case hr => first | (go_simp; done) | (go_simp; rfl)); intro g2 hgb wb hbox hb; have HBX2 := Aside0.mk hbox; have HGE2 := Aside0.mk (show w.heap.size ≤ g2 by rw [hgb]; exact HB.out.size); have HN12 := Aside0.mk (show g1 ≠ g2 by have := blk_lt HBX1.out; omega); have HBX1_ := Aside0.mk ((hb.block g1 (blk_lt HBX1.out)).trans HBX1.out); have HB_ := Aside0.mk (below_step HB.out hb); clear HBX1 HB; have HBX1 := HBX1_; have HB := HB_; clear HBX1_ HB_; clear hgb hbox hb; have hx0 : wb.cell? ⟨g1, 0, none⟩ = some (.int .i64 k) := (blk_cell HBX1.out 0).trans rfl; have hx1 : wb.cell? ⟨g1, 1, none⟩ = some (.slice A1 n1 c1) := (blk_cell HBX1.out 1).trans rfl; have hx2 : wb.cell? ⟨g1, 2, none⟩ = some (.slice A2 n2 c2) := (blk_cell HBX1.out 2).trans rfl) | (go_at_call 40; go_loud (with_reducible refine (Right_calls k A1 n1 c1 ns HN1.out A2 n2 c2 ts HN2.out false _ (Kd.C_below HC1.out HB.out) HCC1.out (Kd.C_below HC2.out HB.out) HCC2.out HWF.out HRR.out).mono ?_; rintro e wc ⟨rfl, hb⟩; have HB_ := Aside0.mk (below_step HB.out hb); have HBX1_ := Aside0.mk ((hb.block g1 (blk_lt HBX1.out)).trans HBX1.out); have HBX2_ := Aside0.mk ((hb.block g2 (blk_lt HBX2.out)).trans HBX2.out); clear HB HBX1 HBX2; have HB := HB_; have HBX1 := HBX1_; have HBX2 := HBX2_; clear HB_ HBX1_ HBX2_; clear hb; have hx0 : wc.cell? ⟨g1, 0, none⟩ = some (.int .i64 k) := (blk_cell HBX1.out 0).trans rfl; have hx1 : wc.cell? ⟨g1, 1, none⟩ = some (.slice A1 n1 c1) := (blk_cell HBX1.out 1).trans rfl; have hx2 : wc.cell? ⟨g1, 2, none⟩ = some (.slice A2 n2 c2) := (blk_cell HBX1.out 2).trans rfl)) | ((with_reducible refine gate_ (.store 38 (.tmp 2) (.tmp 14)) rfl ?_); refine store_event 38 (.tmp 2) (.tmp 14) rfl rfl rfl (g := g2) #[.int .u8 0, .slice none 0 0] #[.int .u8 0, .slice none 0 0] [.int .u8 0, .slice none 0 0] rfl rfl rfl size38 HBX2.out (by simp) (by rfl) rfl ?_; intro wg hbox hs; have HB_ := Aside0.mk (hs.below HB.out HGE2.out); clear HB; have HB := HB_; clear HB_; have hz0 : wg.cell? ⟨g2, 0, none⟩ = some (.int .u8 0) := (blk_cell hbox 0).trans rfl; have hz1 : wg.cell? ⟨g2, 1, none⟩ = some (.slice none 0 0) := (blk_cell hbox 1).trans rfl; clear hbox hs))
    (try simp only [Exit.inBlock, Exit.then])
    refine bodyPost_ret (v := .tuple #[.agg #[.int .u8 0, .slice none 0 0], .int .i64 1]) ?_ rfl ⟨_, rfl, Kd.R_nil _ _ _ _ _, HB.out⟩
    rw [results_cell_tmp rfl]
    go_simp
  | true =>
    have hbl := bodyM_len hrr
    rw [hrr, if_pos rfl] at h
    have hr2 := hrr
    unfold rightS at hr2
    cases hs : szS k with
    | none => rw [hs] at hr2; cases hr2
    | some p =>
      obtain ⟨z, tx⟩ := p
      rw [hs] at hr2
      simp only [Bool.and_eq_true] at hr2
      have hbody : bodyM k ns ts = numsB z ns ++ textsB ts := by unfold bodyM; rw [hs]
      have hzl := allFit_len hr2.1
      have htz := textsOk_small hr2.2
      rw [hbody] at h hbl
      have HSZ := Aside0.mk hs
      obtain ⟨sb, hsb⟩ : ∃ s, digB z = s := ⟨_, rfl⟩
      have HSB := Aside0.mk hsb
      have HAF := Aside0.mk hr2.1
      have HZL := Aside0.mk hzl
      have HT200 := Aside0.mk htz.2
      have HBL0 := Aside0.mk hbl
      have hkr := (szS_cases hs).1
      have HZS := Aside0.mk (szS_cases hs).2.2.1
      have hk8 : k % 256 = k := by omega
      have HH := Aside0.mk h
      clear hs hsb hr2 hbody hzl htz hbl hrr h hkr
      go_enter Try.func39, Try.ntmps39
      go_wp2_with (first | ((with_reducible refine gate_dst (N := 1) rfl ?_); refine box_event ?hg (N := 1) ?hd (cs := #[.int .i64 k, .slice A1 n1 c1, .slice A2 n2 c2]) (t := 67) ?hr ?_; (case hd => rfl); (case hg => rfl); (case hr => first | (go_simp; done) | (go_simp; rfl)); intro g1 hgb wa hbox hb; have HBX1 := Aside0.mk hbox; have HGE1 := Aside0.mk (show w.heap.size ≤ g1 by rw [hgb]; exact Nat.le_refl _); have HB_ := Aside0.mk hb; clear HB hgb hbox hb; have HB := HB_; clear HB_) | ((with_reducible refine gate_dst (N := 2) rfl ?_); refine box_event ?hg (N := 2) ?hd (cs := #[.int .u8 0, .slice none 0 0]) (t := 38) ?hr ?_; (case hd => rfl); (case hg => rfl); (case hr => first | (go_simp; done) | (go_simp; rfl)); intro g2 hgb wb hbox hb; have HBX2 := Aside0.mk hbox; have HGE2 := Aside0.mk (show w.heap.size ≤ g2 by rw [hgb]; exact HB.out.size); have HN12 := Aside0.mk (show g1 ≠ g2 by have := blk_lt HBX1.out; omega); have HBX1_ := Aside0.mk ((hb.block g1 (blk_lt HBX1.out)).trans HBX1.out); have HB_ := Aside0.mk (below_step HB.out hb); clear HBX1 HB; have HBX1 := HBX1_; have HB := HB_; clear HBX1_ HB_; clear hgb hbox hb; have hx0 : wb.cell? ⟨g1, 0, none⟩ = some (.int .i64 k) := (blk_cell HBX1.out 0).trans rfl; have hx1 : wb.cell? ⟨g1, 1, none⟩ = some (.slice A1 n1 c1) := (blk_cell HBX1.out 1).trans rfl; have hx2 : wb.cell? ⟨g1, 2, none⟩ = some (.slice A2 n2 c2) := (blk_cell HBX1.out 2).trans rfl) | (go_at_call 40; go_loud (with_reducible refine (Right_calls k A1 n1 c1 ns HN1.out A2 n2 c2 ts HN2.out true _ (Kd.C_below HC1.out HB.out) HCC1.out (Kd.C_below HC2.out HB.out) HCC2.out HWF.out HRR.out).mono ?_; rintro e wc ⟨rfl, hb⟩; have HB_ := Aside0.mk (below_step HB.out hb); have HBX1_ := Aside0.mk ((hb.block g1 (blk_lt HBX1.out)).trans HBX1.out); have HBX2_ := Aside0.mk ((hb.block g2 (blk_lt HBX2.out)).trans HBX2.out); clear HB HBX1 HBX2; have HB := HB_; have HBX1 := HBX1_; have HBX2 := HBX2_; clear HB_ HBX1_ HBX2_; clear hb; have hx0 : wc.cell? ⟨g1, 0, none⟩ = some (.int .i64 k) := (blk_cell HBX1.out 0).trans rfl; have hx1 : wc.cell? ⟨g1, 1, none⟩ = some (.slice A1 n1 c1) := (blk_cell HBX1.out 1).trans rfl; have hx2 : wc.cell? ⟨g1, 2, none⟩ = some (.slice A2 n2 c2) := (blk_cell HBX1.out 2).trans rfl)) | (go_at_call 56; go_loud (with_reducible refine (shaped_calls k z tx _ HSZ.out).mono ?_; rw [HSB.out]; rintro e wd ⟨rfl, hb⟩; have HB_ := Aside0.mk (below_step HB.out hb); have HBX1_ := Aside0.mk ((hb.block g1 (blk_lt HBX1.out)).trans HBX1.out); have HBX2_ := Aside0.mk ((hb.block g2 (blk_lt HBX2.out)).trans HBX2.out); clear HB HBX1 HBX2; have HB := HB_; have HBX1 := HBX1_; have HBX2 := HBX2_; clear HB_ HBX1_ HBX2_; clear hb)) | ((with_reducible refine gate_dst (N := 4) rfl ?_); refine box_event ?hg (N := 4) ?hd (cs := #[.string ⟨#[]⟩, .int .i64 0]) (t := 97) ?hr ?_; (case hd => rfl); (case hg => rfl); (case hr => first | (go_simp; done) | (go_simp; rfl)); intro g4 hgb we hbox hb; have HBX4 := Aside0.mk hbox; have HGE4 := Aside0.mk (show w.heap.size ≤ g4 by rw [hgb]; exact HB.out.size); have HN14 := Aside0.mk (show g1 ≠ g4 by have := blk_lt HBX1.out; omega); have HN24 := Aside0.mk (show g2 ≠ g4 by have := blk_lt HBX2.out; omega); have HBX1_ := Aside0.mk ((hb.block g1 (blk_lt HBX1.out)).trans HBX1.out); have HBX2_ := Aside0.mk ((hb.block g2 (blk_lt HBX2.out)).trans HBX2.out); have HB_ := Aside0.mk (below_step HB.out hb); clear HBX1 HBX2 HB; have HBX1 := HBX1_; have HBX2 := HBX2_; have HB := HB_; clear HBX1_ HBX2_ HB_; clear hgb hbox hb) | ((with_reducible refine gate_ (.store 97 (.tmp 4) (.tmp 19)) rfl ?_); refine store_event 97 (.tmp 4) (.tmp 19) rfl rfl rfl (g := g4) #[.string ⟨#[]⟩, .int .i64 0] #[.string sb, .int .i64 tx] [.string sb, .int .i64 tx] rfl rfl rfl size97 HBX4.out (by simp) (by rfl) rfl ?_; intro wf hbox hs; have HBX1_ := Aside0.mk (hs.blk HBX1.out HN14.out); have HBX2_ := Aside0.mk (hs.blk HBX2.out HN24.out); have HB_ := Aside0.mk (hs.below HB.out HGE4.out); clear HBX1 HBX2 HB; have HBX1 := HBX1_; have HBX2 := HBX2_; have HB := HB_; clear HBX1_ HBX2_ HB_; have HBX4_ := Aside0.mk hbox; clear HBX4 hbox hs; have HBX4 := HBX4_; clear HBX4_; have hx0 : wf.cell? ⟨g1, 0, none⟩ = some (.int .i64 k) := (blk_cell HBX1.out 0).trans rfl; have hx1 : wf.cell? ⟨g1, 1, none⟩ = some (.slice A1 n1 c1) := (blk_cell HBX1.out 1).trans rfl; have hx2 : wf.cell? ⟨g1, 2, none⟩ = some (.slice A2 n2 c2) := (blk_cell HBX1.out 2).trans rfl))
      clear hx0 hx1 hx2
      go_loopg [6, 24] (n1 + 1) (fun kq v6 v24 w' => ∃ i : Nat, v24 = .int .i64 (i : Int) ∧ Aside0 (kq + i = n1 + 1) ∧ Aside0 (i ≤ n1) ∧ Aside0 (Kd.R (Kd.int .u8) 5 w' w.heap.size (fun _ => True) v6 (numsB (z.take i) (ns.take i))) ∧ Aside0 (w'.heap[g1]? = some (.cells #[.int .i64 k, .slice A1 n1 c1, .slice A2 n2 c2] 67 (0, 0))) ∧ Aside0 (w'.heap[g2]? = some (.cells #[.int .u8 0, .slice none 0 0] 38 (0, 0))) ∧ Aside0 (w'.heap[g4]? = some (.cells #[.string sb, .int .i64 tx] 97 (0, 0))) ∧ Aside0 (Below w.heap.size w w'))
      case atStart => exact ⟨0, rfl, ⟨by omega⟩, ⟨by omega⟩, ⟨by have h := Kd.R_nil (Kd.int .u8) 5 wf w.heap.size (fun _ => True); simpa [numsB] using h⟩, HBX1, HBX2, HBX4, HB⟩
      case round =>
        clear HBX1 HBX2 HBX4 HB
        obtain ⟨i, rfl, HKQ, HI, HT, HBX1, HBX2, HBX4, HB⟩ := hrel
        obtain ⟨gk, rfl⟩ : ∃ gk', gk = gk' + 1 := ⟨gk - 1, by have := HKQ.out; have := HI.out; omega⟩
        by_cases ci : i < n1
        · have cb_ : decide ((i : Int) < (n1 : Int)) = true := decide_eq_true (by omega)
          have p1 : 0 ≤ (i : Int) := by omega
          have p2 : (i : Int) < (n1 : Int) := by omega
          have hwi : wrap64 ((i : Int) + 1) = ((i + 1 : Nat) : Int) := by have := HM1.out; unfold wrap64; omega
          obtain ⟨ad, e7, hv⟩ := Kd.at_int HC1.out (i : Int) p1 p2
          cases e7
          replace hv := (HB.out.cell (World.block_lt_of_cell? w _ hv)).trans hv
          simp only [Int.toNat_natCast] at hv
          have hil : i < ns.length := by rw [HN1.out]; exact ci
          have hiz : i < z.length := by rw [← HZL.out]; exact hil
          have hse := size_eq HSZ.out i hiz
          rw [HSB.out] at hse
          have hnw := HWF.out (rd ns (i : Int)) (FrNum.rd_mem ns i hil)
          have hzi : z[i]? = some z[i] := List.getElem?_eq_getElem hiz
          have hni : ns[i]? = some (rd ns (i : Int)) := by unfold rd; rw [Int.toNat_natCast, List.getD_eq_getElem?_getD, List.getElem?_eq_getElem hil]; rfl
          have hs4 := HZS.out z[i] (List.getElem_mem hiz)
          obtain ⟨s, hs⟩ : ∃ s, z[i] = s := ⟨_, rfl⟩
          obtain ⟨nn, hnn⟩ : ∃ n, rd ns (i : Int) = n := ⟨_, rfl⟩
          rw [hs] at hse hzi hs4
          rw [hnn] at hv hnw hni
          have HF := Aside0.mk (allFit_at HAF.out hzi hni)
          have HNW := Aside0.mk hnw
          have HSE := Aside0.mk hse
          have HNX := Aside0.mk (numsB_take HZL.out hil s nn hzi hni)
          obtain ⟨Ab, cb, eb⟩ := Kd.R_slice HT.out
          subst eb
          obtain ⟨bn, hbn⟩ : ∃ n, (numsB (z.take i) (ns.take i)).length = n := ⟨_, rfl⟩
          rw [hbn] at HT ⊢
          have HBN := Aside0.mk hbn
          have HBL := Aside0.mk (show bn ≤ 1000000 by
            have h1 := numsB_len (z := z.take i) (ns := ns.take i) (fun x hx => HZS.out x (List.mem_of_mem_take hx))
            have h2 : (z.take i).length ≤ 3 := by rw [List.length_take]; have := (szS_cases HSZ.out).2.1; omega
            omega)
          clear hbn hs hnn hzi hni hnw hse hs4
          have hx1 : wr.cell? ⟨g1, 1, none⟩ = some (.slice (some ad) n1 c1) := (blk_cell HBX1.out 1).trans rfl
          have hy0 : wr.cell? ⟨g4, 0, none⟩ = some (.string sb) := (blk_cell HBX4.out 0).trans rfl; have hy1 : wr.cell? ⟨g4, 1, none⟩ = some (.int .i64 tx) := (blk_cell HBX4.out 1).trans rfl
          go_wp2_with (first | (go_at_call 57; go_loud (with_reducible refine (msg_shape_size.calls sb tx (i : Int) (s : Int) _ HSE.out).mono ?_; rintro e wh ⟨rfl, hb⟩; have HB_ := Aside0.mk (below_step HB.out hb); have HBX1_ := Aside0.mk ((hb.block g1 (blk_lt HBX1.out)).trans HBX1.out); have HBX2_ := Aside0.mk ((hb.block g2 (blk_lt HBX2.out)).trans HBX2.out); have HBX4_ := Aside0.mk ((hb.block g4 (blk_lt HBX4.out)).trans HBX4.out); have HT_ := Aside0.mk (Kd.R_below HT.out hb); clear HB HBX1 HBX2 HBX4 HT; have HB := HB_; have HBX1 := HBX1_; have HBX2 := HBX2_; have HBX4 := HBX4_; have HT := HT_; clear HB_ HBX1_ HBX2_ HBX4_ HT_; clear hb)) | (go_at_call 15; go_loud (with_reducible refine (Put_calls Ab bn cb (numsB (z.take i) (ns.take i)) HBN.out s nn _ (T8.of_R HT.out).at_.2.2 (T8.of_R HT.out).at_.2.1 HF.out HNW.out HBL.out).mono ?_; rintro e wi ⟨v, rfl, ho, hb⟩; have HT_ := Aside0.mk (Kd.R_lower ho HB.out.size); clear HT; have HT := HT_; clear HT_; have HB_ := Aside0.mk (below_step HB.out hb); have HBX1_ := Aside0.mk ((hb.block g1 (blk_lt HBX1.out)).trans HBX1.out); have HBX2_ := Aside0.mk ((hb.block g2 (blk_lt HBX2.out)).trans HBX2.out); have HBX4_ := Aside0.mk ((hb.block g4 (blk_lt HBX4.out)).trans HBX4.out); clear HB HBX1 HBX2 HBX4; have HB := HB_; have HBX1 := HBX1_; have HBX2 := HBX2_; have HBX4 := HBX4_; clear HB_ HBX1_ HBX2_ HBX4_; clear hb ho)))
          go_roundg gk
          case measure => omega
          case rel => exact ⟨i + 1, congrArg (Value.int .i64) (by omega), ⟨by have := HKQ.out; omega⟩, ⟨by omega⟩, ⟨by rw [HNX.out]; exact HT.out⟩, HBX1, HBX2, HBX4, HB⟩
        · have cb_ : decide ((i : Int) < (n1 : Int)) = false := decide_eq_false (by omega)
          have hx2 : wr.cell? ⟨g1, 2, none⟩ = some (.slice A2 n2 c2) := (blk_cell HBX1.out 2).trans rfl
          have hin : n1 = i := by have := HI.out; omega
          subst hin
          have h9 := HT.out
          rw [List.take_of_length_le (by rw [← HZL.out, HN1.out]; exact Nat.le_refl _), List.take_of_length_le (by rw [HN1.out]; exact Nat.le_refl _)] at h9
          clear HT
          have HT := Aside0.mk h9
          clear h9
          go_wp2
          clear hx2
          go_loopg [6, 42] (n2 + 1) (fun kq v6 v42 w' => ∃ j : Nat, v42 = .int .i64 (j : Int) ∧ Aside0 (kq + j = n2 + 1) ∧ Aside0 (j ≤ n2) ∧ Aside0 (Kd.R (Kd.int .u8) 5 w' w.heap.size (fun _ => True) v6 (numsB z ns ++ textsB (ts.take j))) ∧ Aside0 (w'.heap[g1]? = some (.cells #[.int .i64 k, .slice A1 n1 c1, .slice A2 n2 c2] 67 (0, 0))) ∧ Aside0 (w'.heap[g2]? = some (.cells #[.int .u8 0, .slice none 0 0] 38 (0, 0))) ∧ Aside0 (w'.heap[g4]? = some (.cells #[.string sb, .int .i64 tx] 97 (0, 0))) ∧ Aside0 (Below w.heap.size w w'))
          case atStart => exact ⟨0, rfl, ⟨by omega⟩, ⟨by omega⟩, ⟨by simpa [textsB] using HT.out⟩, HBX1, HBX2, HBX4, HB⟩
          case round =>
            clear HBX1 HBX2 HBX4 HB HT HKQ HI
            obtain ⟨j, rfl, HKQ, HI, HT, HBX1, HBX2, HBX4, HB⟩ := hrel
            obtain ⟨gk, rfl⟩ : ∃ gk', gk = gk' + 1 := ⟨gk - 1, by have := HKQ.out; have := HI.out; omega⟩
            obtain ⟨Ab, cb, eb⟩ := Kd.R_slice HT.out
            subst eb
            obtain ⟨bn, hbn⟩ : ∃ n, (numsB z ns ++ textsB (ts.take j)).length = n := ⟨_, rfl⟩
            rw [hbn] at HT ⊢
            by_cases cj : j < n2
            · have cb_ : decide ((j : Int) < (n2 : Int)) = true := decide_eq_true (by omega)
              have p1 : 0 ≤ (j : Int) := by omega
              have p2 : (j : Int) < (n2 : Int) := by omega
              have hwi : wrap64 ((j : Int) + 1) = ((j + 1 : Nat) : Int) := by have := HM2.out; unfold wrap64; omega
              obtain ⟨ad, e7, hv⟩ := Kd.at_string HC2.out (j : Int) p1 p2
              cases e7
              replace hv := (HB.out.cell (World.block_lt_of_cell? w _ hv)).trans hv
              simp only [Int.toNat_natCast] at hv
              have hjl : j < ts.length := by rw [HN2.out]; exact cj
              have hrd : rdOf ByteArray.empty ts (j : Int) = ts[j] := by unfold rdOf; rw [Int.toNat_natCast, List.getD_eq_getElem?_getD, List.getElem?_eq_getElem hjl]; rfl
              rw [hrd] at hv
              have hts := HT200.out ts[j] (List.getElem_mem hjl)
              have hnx := textsB_take hjl
              have hpre : (numsB z ns ++ textsB (ts.take j)).length ≤ (numsB z ns ++ textsB ts).length := by
                have h1 : ts = ts.take j ++ ts.drop j := (List.take_append_drop j ts).symm
                have h2 : textsB ts = textsB (ts.take j) ++ textsB (ts.drop j) := by
                  conv => lhs; rw [h1]
                  unfold textsB
                  rw [List.flatMap_append]
                rw [h2]
                simp only [List.length_append]
                omega
              obtain ⟨t, ht⟩ : ∃ t, ts[j] = t := ⟨_, rfl⟩
              rw [ht] at hv hts hnx
              have HTS := Aside0.mk (show t.size ≤ 65535 by omega)
              have HNX := Aside0.mk hnx
              have HBN := Aside0.mk hbn
              have HBL := Aside0.mk (show bn ≤ 1000000 by have := HBL0.out; omega)
              clear hbn ht hnx hts hpre hrd
              go_wp2_with (first | (go_at_call 19; go_loud (with_reducible refine (PutText_calls Ab bn cb (numsB z ns ++ textsB (ts.take j)) HBN.out t _ (T8.of_R HT.out).at_.2.2 (T8.of_R HT.out).at_.2.1 HTS.out HBL.out).mono ?_; rintro e wi ⟨v, rfl, ho, hb⟩; have HT_ := Aside0.mk (Kd.R_lower ho HB.out.size); clear HT; have HT := HT_; clear HT_; have HB_ := Aside0.mk (below_step HB.out hb); have HBX1_ := Aside0.mk ((hb.block g1 (blk_lt HBX1.out)).trans HBX1.out); have HBX2_ := Aside0.mk ((hb.block g2 (blk_lt HBX2.out)).trans HBX2.out); have HBX4_ := Aside0.mk ((hb.block g4 (blk_lt HBX4.out)).trans HBX4.out); clear HB HBX1 HBX2 HBX4; have HB := HB_; have HBX1 := HBX1_; have HBX2 := HBX2_; have HBX4 := HBX4_; clear HB_ HBX1_ HBX2_ HBX4_; clear hb ho)))
              go_roundg gk
              case measure => omega
              case rel => exact ⟨j + 1, congrArg (Value.int .i64) (by omega), ⟨by have := HKQ.out; omega⟩, ⟨by omega⟩, ⟨by rw [HNX.out, ← List.append_assoc]; exact HT.out⟩, HBX1, HBX2, HBX4, HB⟩
            · have cb_ : decide ((j : Int) < (n2 : Int)) = false := decide_eq_false (by omega)
              rw [List.take_of_length_le (by have := HN2.out; omega)] at HT hbn
              have HBN := Aside0.mk hbn
              have hx0 : wr.cell? ⟨g1, 0, none⟩ = some (.int .i64 k) := (blk_cell HBX1.out 0).trans rfl
              have hh := HH.out
              by_cases cl : bn > 300
              · have b9 : decide (300 < (bn : Int)) = true := decide_eq_true (by omega)
                rw [if_pos (by rw [hbn]; exact cl)] at hh
                injection hh with h1 hh
                injection hh with h2 h3
                subst h1 h2 h3
                clear hbn cl
                go_wp2_with (first | ((with_reducible refine gate_ (.store 38 (.tmp 2) (.tmp 56)) rfl ?_); refine store_event 38 (.tmp 2) (.tmp 56) rfl rfl rfl (g := g2) #[.int .u8 0, .slice none 0 0] #[.int .u8 0, .slice none 0 0] [.int .u8 0, .slice none 0 0] rfl rfl rfl size38 HBX2.out (by simp) (by rfl) rfl ?_; intro wg hbox hs; have HB_ := Aside0.mk (hs.below HB.out HGE2.out); clear HB; have HB := HB_; clear HB_; have hz0 : wg.cell? ⟨g2, 0, none⟩ = some (.int .u8 0) := (blk_cell hbox 0).trans rfl; have hz1 : wg.cell? ⟨g2, 1, none⟩ = some (.slice none 0 0) := (blk_cell hbox 1).trans rfl; clear hbox hs))
                (try simp only [Exit.inBlock, Exit.then])
                refine bodyPost_ret (v := .tuple #[.agg #[.int .u8 0, .slice none 0 0], .int .i64 4]) ?_ rfl ⟨_, rfl, Kd.R_nil _ _ _ _ _, HB.out⟩
                rw [results_cell_tmp rfl]
                go_simp
              · have b9 : decide (300 < (bn : Int)) = false := decide_eq_false (by omega)
                rw [if_neg (by rw [hbn]; exact cl)] at hh
                injection hh with h1 hh
                injection hh with h2 h3
                subst h1 h2 h3
                clear hbn cl
                go_wp2_with (first | ((with_reducible refine gate_ (.store 38 (.tmp 2) (.tmp 61)) rfl ?_); refine store_event 38 (.tmp 2) (.tmp 61) rfl rfl rfl (g := g2) #[.int .u8 0, .slice none 0 0] #[.int .u8 k, .slice Ab bn cb] [.int .u8 k, .slice Ab bn cb] rfl rfl rfl size38 HBX2.out (by simp) (by rfl) rfl ?_; intro wg hbox hs; have HB_ := Aside0.mk (hs.below HB.out HGE2.out); have HT_ := Aside0.mk (Kd.R_mono (hs.R (Kd.R_types HT.out HBX2.out (by decide)) (fun k hk => hk.2)) (fun _ _ => trivial)); clear HB HT; have HB := HB_; have HT := HT_; clear HB_ HT_; have hz0 : wg.cell? ⟨g2, 0, none⟩ = some (.int .u8 k) := (blk_cell hbox 0).trans rfl; have hz1 : wg.cell? ⟨g2, 1, none⟩ = some (.slice Ab bn cb) := (blk_cell hbox 1).trans rfl; clear hbox hs))
                (try simp only [Exit.inBlock, Exit.then])
                refine bodyPost_ret (v := .tuple #[.agg #[.int .u8 k, .slice Ab bn cb], .int .i64 0]) ?_ rfl ⟨_, rfl, HT.out, HB.out⟩
                rw [results_cell_tmp rfl]
                go_simp

set_option maxHeartbeats 8000000 in
set_option maxRecDepth 100000 in
theorem MBytes_calls (k : Int) (A1 : Option Addr) (n1 c1 : Nat) (ns : List Int) (hn1 : ns.length = n1) (A2 : Option Addr) (n2 c2 : Nat) (ts : List ByteArray) (hn2 : ts.length = n2) (r1 : List Int) (r2 : Int) (w : World)
    (hC1 : Kd.C (Kd.int .u64) w A1 n1 ns) (hc1 : n1 ≤ c1) (hC2 : Kd.C Kd.string w A2 n2 ts) (hc2 : n2 ≤ c2) (hwf : ∀ n ∈ ns, 0 ≤ n ∧ n ≤ 18446744073709551615) (h : mbytesS k ns ts = (r1, r2)) :
    Calls Try.prog 43 #[.agg #[.int .i64 k, .slice A1 n1 c1, .slice A2 n2 c2]] w fun e w' => ∃ v : Value, e = .returned (.tuple #[v, .int .i64 r2]) ∧ Kd.R (Kd.int .u8) 5 w' w.heap.size (fun _ => True) v r1 ∧ Below w.heap.size w w' := by
  have HB := Aside0.mk (Below.refl w.heap.size w)
  have HC1 := Aside0.mk hC1
  have HC2 := Aside0.mk hC2
  have HCC1 := Aside0.mk hc1
  have HCC2 := Aside0.mk hc2
  have HN1 := Aside0.mk hn1
  have HN2 := Aside0.mk hn2
  have HWF := Aside0.mk hwf
  have hu67 := Try.underlying67
  have hu38 := Try.underlying38
  clear hC1 hc1 hC2 hc2 hwf
  unfold mbytesS at h
  obtain ⟨⟨q1, q2, q3⟩, hq⟩ : ∃ q, frameS k ns ts = q := ⟨_, rfl⟩
  rw [hq] at h
  simp only at h
  have HQ := Aside0.mk hq
  obtain ⟨qn, hqn⟩ : ∃ n, q2.length = n := ⟨_, rfl⟩
  have HQN := Aside0.mk hqn
  by_cases c : q3 = 0
  · subst c
    rw [if_pos rfl] at h
    have HH := Aside0.mk h
    clear hq h hqn
    go_enter Try.func43, Try.ntmps43
    go_wp2_with (first | ((with_reducible refine gate_dst (N := 1) rfl ?_); refine box_event ?hg (N := 1) ?hd (cs := #[.int .i64 k, .slice A1 n1 c1, .slice A2 n2 c2]) (t := 67) ?hr ?_; (case hd => rfl); (case hg => rfl); (case hr => first | (go_simp; done) | (go_simp; rfl)); intro g1 hgb wa hbox hb; have HBX1 := Aside0.mk hbox; have HB_ := Aside0.mk hb; clear HB hgb hbox hb; have HB := HB_; clear HB_; have hx0 : wa.cell? ⟨g1, 0, none⟩ = some (.int .i64 k) := (blk_cell HBX1.out 0).trans rfl; have hx1 : wa.cell? ⟨g1, 1, none⟩ = some (.slice A1 n1 c1) := (blk_cell HBX1.out 1).trans rfl; have hx2 : wa.cell? ⟨g1, 2, none⟩ = some (.slice A2 n2 c2) := (blk_cell HBX1.out 2).trans rfl) | (go_at_call 39; go_loud (with_reducible refine (Frame_calls k A1 n1 c1 ns HN1.out A2 n2 c2 ts HN2.out q1 q2 0 _ (Kd.C_below HC1.out HB.out) HCC1.out (Kd.C_below HC2.out HB.out) HCC2.out HWF.out HQ.out).mono ?_; rintro e wb ⟨v, rfl, ho, hb⟩; obtain ⟨Aq, cq, rfl⟩ := Kd.R_slice ho; rw [HQN.out] at ho ⊢; have HT := Aside0.mk ho; have HB_ := Aside0.mk (below_step HB.out hb); clear HB; have HB := HB_; clear HB_; clear ho hb)) | ((with_reducible refine gate_dst (N := 4) rfl ?_); refine box_event ?hg (N := 4) ?hd (cs := #[.int .u8 0, .slice none 0 0]) (t := 38) ?hr ?_; (case hd => rfl); (case hg => rfl); (case hr => first | (go_simp; done) | (go_simp; rfl)); intro g4 hgb wc hbox hb; have HBX4 := Aside0.mk hbox; have HGE4 := Aside0.mk (show w.heap.size ≤ g4 by rw [hgb]; exact HB.out.size); have HT_ := Aside0.mk (Kd.R_mono (Kd.R_below (Kd.R_bound HT.out) hb) (fun k hk => show k ≠ g4 by have := hk.2.2.1; omega)); clear HT; have HT := HT_; clear HT_; have HB_ := Aside0.mk (below_step HB.out hb); clear HB; have HB := HB_; clear HB_; clear hgb hbox hb) | ((with_reducible refine gate_ (.store 38 (.tmp 4) (.tmp 9)) rfl ?_); refine store_event 38 (.tmp 4) (.tmp 9) rfl rfl rfl (g := g4) #[.int .u8 0, .slice none 0 0] #[.int .u8 q1, .slice Aq qn cq] [.int .u8 q1, .slice Aq qn cq] rfl rfl rfl size38 HBX4.out (by simp) (by rfl) rfl ?_; intro wd hbox hs; have HT_ := Aside0.mk (hs.R HT.out (fun k hk => hk)); have HB_ := Aside0.mk (hs.below HB.out HGE4.out); clear HT HB; have HT := HT_; have HB := HB_; clear HT_ HB_; have hz0 : wd.cell? ⟨g4, 0, none⟩ = some (.int .u8 q1) := (blk_cell hbox 0).trans rfl; have hz1 : wd.cell? ⟨g4, 1, none⟩ = some (.slice Aq qn cq) := (blk_cell hbox 1).trans rfl; clear hbox hs) | (go_at_call 26; go_loud (with_reducible refine (Bytes_calls q1 Aq qn cq q2 HQN.out r1 r2 _ (T8.of_R HT.out).at_.2.2 (T8.of_R HT.out).at_.2.1 HH.out).mono ?_; rintro e we ⟨v, rfl, ho, hb⟩; have HR := Aside0.mk (Kd.R_lower ho HB.out.size); have HB_ := Aside0.mk (below_step HB.out hb); clear HB; have HB := HB_; clear HB_; clear ho hb)))
    go_ret2
    exact ⟨_, rfl, HR.out, HB.out⟩
  · rw [if_neg c] at h
    injection h with h1 h2
    subst h1 h2
    have b0 : (q3 != 0) = true := bne_iff_ne.mpr c
    clear hq hqn c
    go_enter Try.func43, Try.ntmps43
    go_wp2_with (first | ((with_reducible refine gate_dst (N := 1) rfl ?_); refine box_event ?hg (N := 1) ?hd (cs := #[.int .i64 k, .slice A1 n1 c1, .slice A2 n2 c2]) (t := 67) ?hr ?_; (case hd => rfl); (case hg => rfl); (case hr => first | (go_simp; done) | (go_simp; rfl)); intro g1 hgb wa hbox hb; have HBX1 := Aside0.mk hbox; have HB_ := Aside0.mk hb; clear HB hgb hbox hb; have HB := HB_; clear HB_; have hx0 : wa.cell? ⟨g1, 0, none⟩ = some (.int .i64 k) := (blk_cell HBX1.out 0).trans rfl; have hx1 : wa.cell? ⟨g1, 1, none⟩ = some (.slice A1 n1 c1) := (blk_cell HBX1.out 1).trans rfl; have hx2 : wa.cell? ⟨g1, 2, none⟩ = some (.slice A2 n2 c2) := (blk_cell HBX1.out 2).trans rfl) | (go_at_call 39; go_loud (with_reducible refine (Frame_calls k A1 n1 c1 ns HN1.out A2 n2 c2 ts HN2.out q1 q2 q3 _ (Kd.C_below HC1.out HB.out) HCC1.out (Kd.C_below HC2.out HB.out) HCC2.out HWF.out HQ.out).mono ?_; rintro e wb ⟨v, rfl, ho, hb⟩; obtain ⟨Aq, cq, rfl⟩ := Kd.R_slice ho; rw [HQN.out] at ho ⊢; have HT := Aside0.mk ho; have HB_ := Aside0.mk (below_step HB.out hb); clear HB; have HB := HB_; clear HB_; clear ho hb)) | ((with_reducible refine gate_dst (N := 4) rfl ?_); refine box_event ?hg (N := 4) ?hd (cs := #[.int .u8 0, .slice none 0 0]) (t := 38) ?hr ?_; (case hd => rfl); (case hg => rfl); (case hr => first | (go_simp; done) | (go_simp; rfl)); intro g4 hgb wc hbox hb; have HBX4 := Aside0.mk hbox; have HGE4 := Aside0.mk (show w.heap.size ≤ g4 by rw [hgb]; exact HB.out.size); have HT_ := Aside0.mk (Kd.R_mono (Kd.R_below (Kd.R_bound HT.out) hb) (fun k hk => show k ≠ g4 by have := hk.2.2.1; omega)); clear HT; have HT := HT_; clear HT_; have HB_ := Aside0.mk (below_step HB.out hb); clear HB; have HB := HB_; clear HB_; clear hgb hbox hb) | ((with_reducible refine gate_ (.store 38 (.tmp 4) (.tmp 9)) rfl ?_); refine store_event 38 (.tmp 4) (.tmp 9) rfl rfl rfl (g := g4) #[.int .u8 0, .slice none 0 0] #[.int .u8 q1, .slice Aq qn cq] [.int .u8 q1, .slice Aq qn cq] rfl rfl rfl size38 HBX4.out (by simp) (by rfl) rfl ?_; intro wd hbox hs; have HT_ := Aside0.mk (hs.R HT.out (fun k hk => hk)); have HB_ := Aside0.mk (hs.below HB.out HGE4.out); clear HT HB; have HT := HT_; have HB := HB_; clear HT_ HB_; have hz0 : wd.cell? ⟨g4, 0, none⟩ = some (.int .u8 q1) := (blk_cell hbox 0).trans rfl; have hz1 : wd.cell? ⟨g4, 1, none⟩ = some (.slice Aq qn cq) := (blk_cell hbox 1).trans rfl; clear hbox hs))
    go_ret2
    exact ⟨_, rfl, Kd.R_nil _ _ _ _ _, HB.out⟩
end Go.Proofs.Ytagmefjpnmjcjab.Mh

/- The state of msg.Of, as one word; the closure that keeps what is left. -/
namespace Go.Proofs.Ytagmefjpnmjcjab.Mh
open Go.RowKit Go.Proofs.YtagmefjpnmjcjabW.PrintWords Go.Proofs.YtagmefjpnmjcjabW.PrintLast Go.Proofs.YtagmefjpnmjcjabW.PrintMore
open Go.Proofs.Ytagmefjpnmjcjab.FrNum (fits rd_drop be Bytes vl)
open Go.Proofs.Ytagmefjpnmjcjab.Fh (T8 T8.of_R T8.same T8.below T8.grown ne_typed T8.slice bt_drop bt_take)
attribute [local go_sem] max2_int min2_int max_two min_two
set_option linter.unusedVariables false
set_option linter.unusedSimpArgs false
theorem size22 : (Try.prog.info? 22).map (·.size) = some 1 := by kernel_rfl
theorem size4 : (Try.prog.info? 4).map (·.size) = some 1 := by kernel_rfl
theorem size64 : (Try.prog.info? 64).map (·.size) = some 1 := by kernel_rfl
theorem size65 : (Try.prog.info? 65).map (·.size) = some 1 := by kernel_rfl
theorem info23 : (Try.prog.info? 23).map (fun i => (i.zero, i.size, i.bytes)) = some (some (.int .u64 0), 1, 8) := by kernel_rfl
theorem info9 : (Try.prog.info? 9).map (fun i => (i.zero, i.size, i.bytes)) = some (some (.string ByteArray.empty), 1, 16) := by kernel_rfl
/-- Bytes that are read: in blocks that came in, or of bytes. -/
def TB (w W : World) (v : Value) (l : List Int) : Prop := ∃ ok : Nat → Prop, (∀ k, ok k → k < w.heap.size ∨ ∃ cells, W.heap[k]? = some (.cells cells 5 (0, 0))) ∧ Kd.V (Kd.int .u8) 5 W 0 ok v l
section
variable {w W W' : World} {v : Value} {l : List Int}
theorem TB.same (h : TB w W v l) (h1 : ∀ k, k < w.heap.size → W'.heap[k]? = W.heap[k]?) (h2 : ∀ (k : Nat) (cells : Array Value), W.heap[k]? = some (.cells cells 5 (0, 0)) → W'.heap[k]? = W.heap[k]?) : TB w W' v l := by
  obtain ⟨ok, ho, hv⟩ := h
  refine ⟨ok, fun k hk => ?_, Kd.V_step hv (fun k hk _ => ?_)⟩
  · rcases ho k hk with hlt | ⟨cells, hc⟩
    · exact .inl hlt
    · exact .inr ⟨cells, (h2 k cells hc).trans hc⟩
  · rcases ho k hk with hlt | ⟨cells, hc⟩
    · exact h1 k hlt
    · exact h2 k cells hc
theorem TB.below (h : TB w W v l) (hw : w.heap.size ≤ W.heap.size) (hb : Below W.heap.size W W') : TB w W' v l := h.same (fun k hk => hb.block k (by omega)) (fun k _ hc => hb.block k (blk_lt hc))
theorem TB.grown (h : TB w W v l) (hw : w.heap.size ≤ W.heap.size) {row : Option Nat} (hg : W.grownBy W' row) (hr : ∀ k, row = some k → ∀ cells, W.heap[k]? ≠ some (.cells cells 5 (0, 0))) (hn : ∀ k, row = some k → w.heap.size ≤ k) : TB w W' v l :=
  h.same (fun k hk => hg.block k (by omega) (fun e => by have := hn k e.symm; omega)) (fun k cells hc => hg.block k (blk_lt hc) (fun e => hr k e.symm cells hc))
theorem St_TB {W1 : World} {g t : Nat} {cs : Array Value} (hs : St W W1 g) (h : TB w W v l) (hg : W.heap[g]? = some (.cells cs t (0, 0))) (ht : t ≠ 5) (hge : w.heap.size ≤ g) : TB w W1 v l :=
  h.same (fun k hk => hs.1 k (by omega)) (fun k _ hc => hs.1 k (ne_typed hg hc ht))
theorem TB.of_T8 (h : T8 W v l) : TB w W v l := by
  obtain ⟨ok, ho, hv⟩ := h
  exact ⟨ok, fun k hk => .inr (ho k hk), hv⟩
theorem TB.of_C {A : Option Addr} {n c : Nat} (h : Kd.C (Kd.int .u8) w A n l) (hn : l.length = n) (hc : n ≤ c) : TB w w (.slice A n c) l := by
  subst hn
  exact ⟨_, fun k hk => .inl hk, A, c, rfl, hc, Kd.C_F (Kd.heap_int _) h⟩
theorem TB.slice (h : TB w W v l) : ∃ A c, v = .slice A l.length c := by
  obtain ⟨_, _, hv⟩ := h
  exact Kd.V_slice hv
theorem TB.at_ {A : Option Addr} {n c : Nat} (h : TB w W (.slice A n c) l) : n = l.length ∧ n ≤ c ∧ Kd.C (Kd.int .u8) W A n l := by
  obtain ⟨_, _, hv⟩ := h
  have h2 := Kd.V_reads' hv
  refine ⟨h2.1, h2.2.1, ?_⟩
  rw [h2.1]
  exact h2.2.2
end
section
variable {P : Program} {ops : Array Oper} {rest : List Oper} {o : Oper} {a : Act} {Q : Exit → Act → World → Prop}
theorem iter_event {W : World} (hgd : o.guard = none) {N : Tmp} (_hd : o.dst = some N) {s : ByteArray}
    (hrun : (execOp a.eval o).run P W = .ok (.value (.pointer (some ⟨W.heap.size, 0, none⟩))) (W.iter s 0))
    (h : ∀ g, g = W.heap.size → ∀ w1, w1.heap[g]? = some (.stringIter s 0) → Below W.heap.size W w1 → wpList P ops Q rest (a.put o.dst (.pointer (some ⟨g, 0, none⟩))) w1) : wpList P ops Q (o :: rest) a W :=
  Kd.event_run hgd hrun (h _ rfl _ (World.iter_heap W s 0) (below_alloc (Below.refl _ _) _))
end
/-- The closure: what is left is kept, and whether it went badly. -/
theorem keepm_calls (A : Option Addr) (n c : Nat) (er : Int) (g6 g7 : Nat) (v6 : Value) (bad : Bool) (w : World) (h6 : w.heap[g6]? = some (.cells #[v6] 22 (0, 0))) (h7 : w.heap[g7]? = some (.cells #[.bool bad] 4 (0, 0))) (hne : g7 ≠ g6) :
    Calls Try.prog 60 #[.slice A n c, .int .i64 er, .pointer (some ⟨g6, 0, none⟩), .pointer (some ⟨g7, 0, none⟩)] w fun e w' => e = .returned (.tuple #[]) ∧ w'.heap[g6]? = some (.cells #[.slice A n c] 22 (0, 0)) ∧ w'.heap[g7]? = some (.cells #[.bool (bad || er != 0)] 4 (0, 0)) ∧ ∃ w1, St w w1 g6 ∧ St w1 w' g7 := by
  have H6 := Aside0.mk h6
  have H7 := Aside0.mk h7
  have HNE := Aside0.mk hne
  clear h6 h7 hne
  cases bad with
  | true =>
    go_enter Try.func60, Try.ntmps60
    go_wp2_with (first
      | ((with_reducible refine gate_ (.store 22 (.tmp 2) (.tmp 6)) rfl ?_); refine store_event 22 (.tmp 2) (.tmp 6) rfl rfl rfl (g := g6) #[v6] #[.slice A n c] [.slice A n c] rfl rfl rfl size22 H6.out (by simp) (by rfl) rfl ?_; intro wa hbox hs; have HS1 := Aside0.mk hs; have H6_ := Aside0.mk hbox; have H7_ := Aside0.mk (hs.blk H7.out HNE.out); clear H6 H7 hbox hs; have H6 := H6_; have H7 := H7_; clear H6_ H7_; have hz : wa.cell? ⟨g7, 0, none⟩ = some (.bool true) := (blk_cell H7.out 0).trans rfl)
      | ((with_reducible refine gate_ (.store 4 (.tmp 3) (.tmp 11)) rfl ?_); refine store_event 4 (.tmp 3) (.tmp 11) rfl rfl rfl (g := g7) #[.bool true] #[.bool true] [.bool true] rfl rfl rfl size4 H7.out (by simp) (by rfl) rfl ?_; intro wb hbox hs; have HS2 := Aside0.mk hs; have H7_ := Aside0.mk hbox; have H6_ := Aside0.mk (hs.blk H6.out HNE.out.symm); clear H6 H7 hbox hs; have H6 := H6_; have H7 := H7_; clear H6_ H7_))
    go_end0
    exact ⟨rfl, H6.out, H7.out, _, HS1.out, HS2.out⟩
  | false =>
    obtain ⟨b, hb⟩ : ∃ b, (er != 0) = b := ⟨_, rfl⟩
    rw [hb]
    go_enter Try.func60, Try.ntmps60
    go_wp2_with (first
      | ((with_reducible refine gate_ (.store 22 (.tmp 2) (.tmp 6)) rfl ?_); refine store_event 22 (.tmp 2) (.tmp 6) rfl rfl rfl (g := g6) #[v6] #[.slice A n c] [.slice A n c] rfl rfl rfl size22 H6.out (by simp) (by rfl) rfl ?_; intro wa hbox hs; have HS1 := Aside0.mk hs; have H6_ := Aside0.mk hbox; have H7_ := Aside0.mk (hs.blk H7.out HNE.out); clear H6 H7 hbox hs; have H6 := H6_; have H7 := H7_; clear H6_ H7_; have hz : wa.cell? ⟨g7, 0, none⟩ = some (.bool false) := (blk_cell H7.out 0).trans rfl)
      | ((with_reducible refine gate_ (.store 4 (.tmp 3) (.tmp 11)) rfl ?_); refine store_event 4 (.tmp 3) (.tmp 11) rfl rfl rfl (g := g7) #[.bool false] #[.bool b] [.bool b] rfl rfl rfl size4 H7.out (by simp) (by rfl) rfl ?_; intro wb hbox hs; have HS2 := Aside0.mk hs; have H7_ := Aside0.mk hbox; have H6_ := Aside0.mk (hs.blk H6.out HNE.out.symm); clear H6 H7 hbox hs; have H6 := H6_; have H7 := H7_; clear H6_ H7_))
    go_end0
    exact ⟨rfl, H6.out, H7.out, _, HS1.out, HS2.out⟩
/-- All that msg.Of keeps. -/
structure OfI (w W : World) (g1 g2 g4 g6 g7 g9 : Nat) (c : Int) (vf : Value) (sb : ByteArray) (tx : Int) (bad : Bool) (v1 v2 : Value) (rest : List Int) (ns : List Int) (ts : List ByteArray) : Prop where
  x1 : W.heap[g1]? = some (.cells #[.int .u8 c, vf] 38 (0, 0))
  x2 : W.heap[g2]? = some (.cells #[.int .i64 0, .slice none 0 0, .slice none 0 0] 67 (0, 0))
  x4 : W.heap[g4]? = some (.cells #[.string sb, .int .i64 tx] 97 (0, 0))
  x6 : ∃ A cc, W.heap[g6]? = some (.cells #[.slice A rest.length cc] 22 (0, 0)) ∧ TB w W (.slice A rest.length cc) rest
  x7 : W.heap[g7]? = some (.cells #[.bool bad] 4 (0, 0))
  x9 : W.heap[g9]? = some (.cells #[.int .i64 c, v1, v2] 67 (0, 0))
  r1 : Kd.R (Kd.int .u64) 23 W w.heap.size (fun _ => True) v1 ns
  r2 : Kd.R Kd.string 9 W w.heap.size (fun _ => True) v2 ts
  bel : Below w.heap.size w W
  ge : w.heap.size ≤ g2 ∧ w.heap.size ≤ g6 ∧ w.heap.size ≤ g7 ∧ w.heap.size ≤ g9
  ne : g2 ≠ g9
section
variable {w W W' : World} {g1 g2 g4 g6 g7 g9 : Nat} {c : Int} {vf : Value} {sb : ByteArray} {tx : Int} {bad : Bool} {v1 v2 : Value} {rest ns : List Int} {ts : List ByteArray}
theorem OfI.below (h : OfI w W g1 g2 g4 g6 g7 g9 c vf sb tx bad v1 v2 rest ns ts) (hb : Below W.heap.size W W') : OfI w W' g1 g2 g4 g6 g7 g9 c vf sb tx bad v1 v2 rest ns ts := by
  obtain ⟨A, cc, h6, h8⟩ := h.x6
  exact ⟨(hb.block g1 (blk_lt h.x1)).trans h.x1, (hb.block g2 (blk_lt h.x2)).trans h.x2, (hb.block g4 (blk_lt h.x4)).trans h.x4, ⟨A, cc, (hb.block g6 (blk_lt h6)).trans h6, h8.below h.bel.size hb⟩, (hb.block g7 (blk_lt h.x7)).trans h.x7, (hb.block g9 (blk_lt h.x9)).trans h.x9, Kd.R_below h.r1 hb, Kd.R_below h.r2 hb, below_step h.bel hb, h.ge, h.ne⟩
theorem ne_tp {g k t q : Nat} {cs cells : Array Value} (hg : W.heap[g]? = some (.cells cs t (0, 0))) (hk : W.heap[k]? = some (.cells cells q (0, 0))) (ht : q ≠ t) : k ≠ g := ne_typed hg hk (fun e => ht e.symm)
/-- Behind the closure. -/
theorem OfI.kept (h : OfI w W g1 g2 g4 g6 g7 g9 c vf sb tx bad v1 v2 rest ns ts) {A : Option Addr} {cc : Nat} {rest2 : List Int} {bad2 : Bool} (hT : TB w W (.slice A rest2.length cc) rest2)
    (h6 : W'.heap[g6]? = some (.cells #[.slice A rest2.length cc] 22 (0, 0))) (h7 : W'.heap[g7]? = some (.cells #[.bool bad2] 4 (0, 0))) {W1 : World} (s1 : St W W1 g6) (s2 : St W1 W' g7) : OfI w W' g1 g2 g4 g6 g7 g9 c vf sb tx bad2 v1 v2 rest2 ns ts := by
  obtain ⟨A0, c0, h60, h80⟩ := h.x6
  have h71 : W1.heap[g7]? = some (.cells #[.bool bad] 4 (0, 0)) := s1.blk h.x7 (ne_tp h60 h.x7 (by decide))
  have mv : ∀ {k q : Nat} {cs : Array Value}, W.heap[k]? = some (.cells cs q (0, 0)) → q ≠ 22 → q ≠ 4 → W'.heap[k]? = some (.cells cs q (0, 0)) := fun hk h1 h2 => by
    have e := s1.blk hk (ne_tp h60 hk h1)
    exact s2.blk e (ne_tp h71 e h2)
  have hb1 := s1.below (Below.refl _ W) (Nat.le_refl g6)
  refine ⟨mv h.x1 (by decide) (by decide), mv h.x2 (by decide) (by decide), mv h.x4 (by decide) (by decide), ⟨A, cc, h6, St_TB s2 (St_TB s1 hT h60 (by decide) h.ge.2.1) h71 (by decide) h.ge.2.2.1⟩, h7, mv h.x9 (by decide) (by decide), ?_, ?_, s2.below (s1.below h.bel h.ge.2.1) h.ge.2.2.1, h.ge, h.ne⟩
  · have a1 := s1.R (Kd.R_types h.r1 h60 (by decide)) (fun k hk => hk.2)
    exact Kd.R_mono (s2.R (Kd.R_types a1 h71 (by decide)) (fun k hk => hk.2)) (fun _ _ => trivial)
  · have a1 := s1.R (Kd.R_types h.r2 h60 (by decide)) (fun k hk => hk.2)
    exact Kd.R_mono (s2.R (Kd.R_types a1 h71 (by decide)) (fun k hk => hk.2)) (fun _ _ => trivial)
theorem blk_grown {k q e : Nat} {cs : Array Value} {row : Option Nat} (hg : W.grownBy W' row) (hr : ∀ j, row = some j → ∃ cells, W.heap[j]? = some (.cells cells e (0, 0))) (hk : W.heap[k]? = some (.cells cs q (0, 0))) (ht : e ≠ q) : W'.heap[k]? = some (.cells cs q (0, 0)) :=
  (hg.block k (blk_lt hk) (fun e2 => by obtain ⟨cells, hc⟩ := hr k e2.symm; exact ne_typed hc hk ht rfl)).trans hk
/-- A number more. -/
theorem OfI.number (h : OfI w W g1 g2 g4 g6 g7 g9 c vf sb tx bad v1 v2 rest ns ts) {v3 : Value} {n : Int} {W1 : World} (hb : Below W.heap.size W W1) (hr : Kd.R (Kd.int .u64) 23 W' w.heap.size (fun _ => True) v3 (ns ++ [n])) (hg : W1.grownBy W' v1.ownBlock)
    {W2 : World} (h9 : W2.heap[g9]? = some (.cells #[.int .i64 c, v3, v2] 67 (0, 0))) (s : St W' W2 g9) : OfI w W2 g1 g2 g4 g6 g7 g9 c vf sb tx bad v3 v2 rest (ns ++ [n]) ts := by
  have h1 := h.below hb
  obtain ⟨A, cc, h6, h8⟩ := h1.x6
  have ty := Kd.R_typed h1.r1
  have y9 := blk_grown hg ty h1.x9 (by decide)
  have mv : ∀ {k q : Nat} {cs : Array Value}, W1.heap[k]? = some (.cells cs q (0, 0)) → 23 ≠ q → k ≠ g9 → W2.heap[k]? = some (.cells cs q (0, 0)) := fun hk h1' h2 => s.blk (blk_grown hg ty hk h1') h2
  have g8 : TB w W' (.slice A rest.length cc) rest := h8.grown h1.bel.size hg (fun k hk cells hc => by obtain ⟨c9, h9⟩ := ty k hk; exact ne_typed h9 hc (by decide) rfl) (Kd.R_base h1.r1)
  refine ⟨mv h1.x1 (by decide) (ne_tp h1.x9 h1.x1 (by decide)), mv h1.x2 (by decide) h.ne, mv h1.x4 (by decide) (ne_tp h1.x9 h1.x4 (by decide)), ⟨A, cc, mv h6 (by decide) (ne_tp h1.x9 h6 (by decide)), St_TB s g8 y9 (by decide) h.ge.2.2.2⟩, mv h1.x7 (by decide) (ne_tp h1.x9 h1.x7 (by decide)), h9,
    Kd.R_mono (s.R (Kd.R_types hr y9 (by decide)) (fun k hk => hk.2)) (fun _ _ => trivial), ?_, s.below (h1.bel.grown hg h1.bel.size (Kd.R_base h1.r1)) h.ge.2.2.2, h.ge, h.ne⟩
  have a2 := Kd.R_over' h1.r2 ty (by decide) hg
  exact Kd.R_mono (s.R (Kd.R_types a2 y9 (by decide)) (fun k hk => hk.2)) (fun _ _ => trivial)
/-- A text more. -/
theorem OfI.text (h : OfI w W g1 g2 g4 g6 g7 g9 c vf sb tx bad v1 v2 rest ns ts) {v3 : Value} {t : ByteArray} {W1 : World} (hb : Below W.heap.size W W1) (hr : Kd.R Kd.string 9 W' w.heap.size (fun _ => True) v3 (ts ++ [t])) (hg : W1.grownBy W' v2.ownBlock)
    {W2 : World} (h9 : W2.heap[g9]? = some (.cells #[.int .i64 c, v1, v3] 67 (0, 0))) (s : St W' W2 g9) : OfI w W2 g1 g2 g4 g6 g7 g9 c vf sb tx bad v1 v3 rest ns (ts ++ [t]) := by
  have h1 := h.below hb
  obtain ⟨A, cc, h6, h8⟩ := h1.x6
  have ty := Kd.R_typed h1.r2
  have y9 := blk_grown hg ty h1.x9 (by decide)
  have mv : ∀ {k q : Nat} {cs : Array Value}, W1.heap[k]? = some (.cells cs q (0, 0)) → 9 ≠ q → k ≠ g9 → W2.heap[k]? = some (.cells cs q (0, 0)) := fun hk h1' h2 => s.blk (blk_grown hg ty hk h1') h2
  have g8 : TB w W' (.slice A rest.length cc) rest := h8.grown h1.bel.size hg (fun k hk cells hc => by obtain ⟨c9, h9⟩ := ty k hk; exact ne_typed h9 hc (by decide) rfl) (Kd.R_base h1.r2)
  refine ⟨mv h1.x1 (by decide) (ne_tp h1.x9 h1.x1 (by decide)), mv h1.x2 (by decide) h.ne, mv h1.x4 (by decide) (ne_tp h1.x9 h1.x4 (by decide)), ⟨A, cc, mv h6 (by decide) (ne_tp h1.x9 h6 (by decide)), St_TB s g8 y9 (by decide) h.ge.2.2.2⟩, mv h1.x7 (by decide) (ne_tp h1.x9 h1.x7 (by decide)), h9,
    ?_, Kd.R_mono (s.R (Kd.R_types hr y9 (by decide)) (fun k hk => hk.2)) (fun _ _ => trivial), s.below (h1.bel.grown hg h1.bel.size (Kd.R_base h1.r2)) h.ge.2.2.2, h.ge, h.ne⟩
  have a2 := Kd.R_over' h1.r1 ty (by decide) hg
  exact Kd.R_mono (s.R (Kd.R_types a2 y9 (by decide)) (fun k hk => hk.2)) (fun _ _ => trivial)
theorem ne_it {k q gi : Nat} {cs : Array Value} {s : ByteArray} {p : Nat} (hi : W.heap[gi]? = some (.stringIter s p)) (hk : W.heap[k]? = some (.cells cs q (0, 0))) : k ≠ gi := by
  rintro rfl
  rw [hk] at hi
  cases hi
/-- The iterator goes on. -/
theorem OfI.iter (h : OfI w W g1 g2 g4 g6 g7 g9 c vf sb tx bad v1 v2 rest ns ts) {gi : Nat} {s : ByteArray} {p : Nat} (hi : W.heap[gi]? = some (.stringIter s p)) (hgi : w.heap.size ≤ gi) (p2 : Nat) : OfI w (W.iterAt gi s p2) g1 g2 g4 g6 g7 g9 c vf sb tx bad v1 v2 rest ns ts := by
  obtain ⟨A, cc, h6, h8⟩ := h.x6
  have mv : ∀ {k q : Nat} {cs : Array Value}, W.heap[k]? = some (.cells cs q (0, 0)) → (W.iterAt gi s p2).heap[k]? = some (.cells cs q (0, 0)) := fun hk => (Lib.iterAt_other W gi _ s p2 (ne_it hi hk)).trans hk
  have rv : ∀ {α : Type} {d : Kd α} {e base : Nat} {v : Value} {l : List α}, Kd.R d e W base (fun _ => True) v l → Kd.R d e (W.iterAt gi s p2) base (fun _ => True) v l := fun hr => Kd.R_mono (Kd.R_move (Kd.R_bound hr) (fun k hk => by
    obtain ⟨_, _, _, q, _, cells, hc⟩ := hk
    exact Lib.iterAt_other W gi k s p2 (ne_it hi hc))) (fun _ _ => trivial)
  exact ⟨mv h.x1, mv h.x2, mv h.x4, ⟨A, cc, mv h6, h8.same (fun k hk => Lib.iterAt_other W gi k s p2 (by omega)) (fun k cells hc => Lib.iterAt_other W gi k s p2 (ne_it hi hc))⟩, mv h.x7, mv h.x9, rv h.r1, rv h.r2, Lib.below_iterAt h.bel hgi s p2, h.ge, h.ne⟩
end
theorem it_below {W W' : World} {gi : Nat} {s : ByteArray} {p : Nat} (hi : W.heap[gi]? = some (.stringIter s p)) (hb : Below W.heap.size W W') : W'.heap[gi]? = some (.stringIter s p) := (hb.block gi (Array.getElem?_eq_some_iff.1 hi).1).trans hi
theorem it_st {W W' : World} {gi g q : Nat} {cs : Array Value} {s : ByteArray} {p : Nat} (hi : W.heap[gi]? = some (.stringIter s p)) (hs : St W W' g) (hg : W.heap[g]? = some (.cells cs q (0, 0))) : W'.heap[gi]? = some (.stringIter s p) := hs.blk hi (fun e => ne_it hi hg e.symm)
theorem it_grown {W W' : World} {gi e : Nat} {s : ByteArray} {p : Nat} {row : Option Nat} (hi : W.heap[gi]? = some (.stringIter s p)) (hg : W.grownBy W' row) (hr : ∀ j, row = some j → ∃ cells, W.heap[j]? = some (.cells cells e (0, 0))) : W'.heap[gi]? = some (.stringIter s p) :=
  (hg.block gi (Array.getElem?_eq_some_iff.1 hi).1 (fun e2 => by obtain ⟨cells, hc⟩ := hr gi e2.symm; exact ne_it hi hc rfl)).trans hi
end Go.Proofs.Ytagmefjpnmjcjab.Mh

/- What msg.Of's two loops keep, plain; and what stands beside them. -/
namespace Go.Proofs.Ytagmefjpnmjcjab.Mh
open Go.RowKit Go.Proofs.YtagmefjpnmjcjabW.PrintWords Go.Proofs.YtagmefjpnmjcjabW.PrintLast Go.Proofs.YtagmefjpnmjcjabW.PrintMore
open Go.Proofs.Ytagmefjpnmjcjab.FrNum (fits rd_drop be Bytes vl vl_bound)
open Go.Proofs.Ytagmefjpnmjcjab.Fh (T8 T8.of_R T8.same T8.below T8.grown ne_typed T8.slice bt_drop bt_take)
set_option linter.unusedVariables false
set_option linter.unusedSimpArgs false
section
variable {w W W' : World} {g1 g2 g4 g6 g7 g9 : Nat} {c : Int} {vf : Value} {sb : ByteArray} {tx : Int} {bad : Bool} {v1 v2 : Value} {rest ns : List Int} {ts : List ByteArray}
theorem OfI.number_t8 (h : OfI w W g1 g2 g4 g6 g7 g9 c vf sb tx bad v1 v2 rest ns ts) (hg : W.grownBy W' v1.ownBlock) {W2 : World} (s : St W' W2 g9) {v : Value} {l : List Int} (hT : TB w W v l) : TB w W2 v l := by
  have ty := Kd.R_typed h.r1
  exact St_TB s (hT.grown h.bel.size hg (fun k hk cells hc => by obtain ⟨c9, h9⟩ := ty k hk; exact ne_typed h9 hc (by decide) rfl) (Kd.R_base h.r1)) (blk_grown hg ty h.x9 (by decide)) (by decide) h.ge.2.2.2
theorem OfI.number_it (h : OfI w W g1 g2 g4 g6 g7 g9 c vf sb tx bad v1 v2 rest ns ts) (hg : W.grownBy W' v1.ownBlock) {W2 : World} (s : St W' W2 g9) {gi : Nat} {z : ByteArray} {p : Nat} (hi : W.heap[gi]? = some (.stringIter z p)) : W2.heap[gi]? = some (.stringIter z p) := by
  have ty := Kd.R_typed h.r1
  exact it_st (it_grown hi hg ty) s (blk_grown hg ty h.x9 (by decide))
theorem OfI.number_x9 (h : OfI w W g1 g2 g4 g6 g7 g9 c vf sb tx bad v1 v2 rest ns ts) (hg : W.grownBy W' v1.ownBlock) : W'.heap[g9]? = some (.cells #[.int .i64 c, v1, v2] 67 (0, 0)) := blk_grown hg (Kd.R_typed h.r1) h.x9 (by decide)
theorem OfI.text_t8 (h : OfI w W g1 g2 g4 g6 g7 g9 c vf sb tx bad v1 v2 rest ns ts) (hg : W.grownBy W' v2.ownBlock) {W2 : World} (s : St W' W2 g9) {v : Value} {l : List Int} (hT : TB w W v l) : TB w W2 v l := by
  have ty := Kd.R_typed h.r2
  exact St_TB s (hT.grown h.bel.size hg (fun k hk cells hc => by obtain ⟨c9, h9⟩ := ty k hk; exact ne_typed h9 hc (by decide) rfl) (Kd.R_base h.r2)) (blk_grown hg ty h.x9 (by decide)) (by decide) h.ge.2.2.2
theorem OfI.text_x9 (h : OfI w W g1 g2 g4 g6 g7 g9 c vf sb tx bad v1 v2 rest ns ts) (hg : W.grownBy W' v2.ownBlock) : W'.heap[g9]? = some (.cells #[.int .i64 c, v1, v2] 67 (0, 0)) := blk_grown hg (Kd.R_typed h.r2) h.x9 (by decide)
theorem OfI.kept_it (h : OfI w W g1 g2 g4 g6 g7 g9 c vf sb tx bad v1 v2 rest ns ts) {W1 : World} (s1 : St W W1 g6) (s2 : St W1 W' g7) {gi : Nat} {z : ByteArray} {p : Nat} (hi : W.heap[gi]? = some (.stringIter z p)) : W'.heap[gi]? = some (.stringIter z p) := by
  obtain ⟨A0, c0, h60, _⟩ := h.x6
  exact it_st (it_st hi s1 h60) s2 (s1.blk h.x7 (ne_tp h60 h.x7 (by decide)))
end
/-- The numbers' loop, behind i of them. -/
def NumInv (z : List Nat) (body : List Int) (i : Nat) (bad : Bool) (rest ns : List Int) : Prop :=
  ns.length = i ∧ Bytes rest ∧ rest.length ≤ 300 ∧ (bad = true → rest = [] ∧ takeN z body = none) ∧
  (bad = false → takeN z body = (takeN (z.drop i) rest).map (fun r => (ns ++ r.1, r.2)) ∧ ∀ n ∈ ns, 0 ≤ n ∧ n ≤ 18446744073709551615)
theorem NumInv.start (z : List Nat) {body : List Int} (hb : Bytes body) (hl : body.length ≤ 300) : NumInv z body 0 false body [] :=
  ⟨rfl, hb, hl, (fun h => by cases h), fun _ => ⟨by cases e : takeN z body with
    | none => simp [e]
    | some p => simp [e], fun n hn => by cases hn⟩⟩
theorem NumInv.step {z : List Nat} {body : List Int} {i : Nat} {bad : Bool} {rest ns : List Int} (h : NumInv z body i bad rest ns) (hi : i < z.length) {s : Nat} (hs : z[i] = s) (h8 : 1 ≤ s ∧ s ≤ 8) {r1 : Int} {r2 : List Int} {r3 : Int} (hr : num1S s rest = (r1, r2, r3)) : NumInv z body (i + 1) (bad || r3 != 0) r2 (ns ++ [r1]) := by
  obtain ⟨h1, h2, h3, h4, h5⟩ := h
  have hd : z.drop i = s :: z.drop (i + 1) := by rw [List.drop_eq_getElem_cons hi, hs]
  unfold num1S at hr
  by_cases cs : rest.length < s
  · rw [if_pos cs] at hr
    injection hr with e1 hr
    injection hr with e2 e3
    subst e1 e2 e3
    refine ⟨by simp [h1], (fun x hx => by cases hx), by simp, fun _ => ⟨rfl, ?_⟩, fun h => by simp at h⟩
    cases bad with
    | true => exact (h4 rfl).2
    | false =>
      rw [(h5 rfl).1, hd]
      unfold takeN
      rw [if_pos cs]
      rfl
  · rw [if_neg cs] at hr
    injection hr with e1 hr
    injection hr with e2 e3
    subst e1 e2 e3
    cases bad with
    | true =>
      have := (h4 rfl).1
      subst this
      simp at cs
      omega
    | false =>
      obtain ⟨k1, k2⟩ := h5 rfl
      refine ⟨by simp [h1], bt_drop h2 s, (by rw [List.length_drop]; omega), (fun h => by simp at h), fun _ => ⟨?_, fun n hn => ?_⟩⟩
      · rw [k1, hd]
        conv => lhs; unfold takeN
        rw [if_neg cs]
        cases takeN (z.drop (i + 1)) (rest.drop s) with
        | none => rfl
        | some p => simp
      · rcases List.mem_append.1 hn with hn | hn
        · exact k2 n hn
        · rw [List.mem_singleton.1 hn]
          have hv := vl_bound (rest.take s) (bt_take h2 s)
          have hl : (rest.take s).length = s := by rw [List.length_take]; omega
          rw [hl] at hv
          have hp : (256 : Int) ^ s ≤ 18446744073709551616 := by
            have : s = 1 ∨ s = 2 ∨ s = 3 ∨ s = 4 ∨ s = 5 ∨ s = 6 ∨ s = 7 ∨ s = 8 := by omega
            rcases this with rfl | rfl | rfl | rfl | rfl | rfl | rfl | rfl <;> decide
          omega
theorem NumInv.stop {z : List Nat} {body : List Int} {bad : Bool} {rest ns : List Int} (h : NumInv z body z.length bad rest ns) : (bad = true → takeN z body = none) ∧ (bad = false → takeN z body = some (ns, rest) ∧ ∀ n ∈ ns, 0 ≤ n ∧ n ≤ 18446744073709551615) := by
  obtain ⟨h1, h2, h3, h4, h5⟩ := h
  refine ⟨fun e => (h4 e).2, fun e => ⟨?_, (h5 e).2⟩⟩
  rw [(h5 e).1, List.drop_eq_nil_of_le (Nat.le_refl _)]
  simp [takeN]
/-- The texts' loop. -/
def TxtInv (R0 : List Int) (G : Prop) (bad : Bool) (rest : List Int) (ts : List ByteArray) : Prop :=
  Bytes rest ∧ rest.length ≤ 300 ∧ ts.length + rest.length ≤ 301 ∧ (bad = true → G) ∧ (bad = false → takeT (R0.length + 1) R0 = (takeT (rest.length + 1) rest).map (fun l => ts ++ l))
theorem TxtInv.start {R0 : List Int} {G : Prop} {bad : Bool} (hb : Bytes R0) (hl : R0.length ≤ 300) (hG : bad = true → G) : TxtInv R0 G bad R0 [] :=
  ⟨hb, hl, by simp; omega, hG, fun _ => by cases e : takeT (R0.length + 1) R0 with
    | none => rfl
    | some p => simp⟩
theorem TxtInv.step {R0 : List Int} {G : Prop} {rest : List Int} {ts : List ByteArray} (h : TxtInv R0 G false rest ts) (hG : takeT (R0.length + 1) R0 = none → G) (hn : rest ≠ []) {t : ByteArray} {r2 : List Int} {r3 : Int} (hr : text1S rest = (t, r2, r3)) : TxtInv R0 G (false || r3 != 0) r2 (ts ++ [t]) ∧ r2.length < rest.length := by
  obtain ⟨h1, h2, h3, h4, h5⟩ := h
  have h6 := h5 rfl
  have hp : 0 < rest.length := List.length_pos_iff.2 hn
  unfold text1S at hr
  cases e : text1 rest with
  | none =>
    rw [e] at hr
    simp only at hr
    injection hr with e1 hr
    injection hr with e2 e3
    subst e1 e2 e3
    refine ⟨⟨(fun x hx => by cases hx), by simp, (by simp; omega), fun _ => hG ?_, fun h => by simp at h⟩, by simpa using hp⟩
    rw [h6]
    conv => lhs; arg 2; unfold takeT
    rw [if_neg hn, e]
    rfl
  | some p =>
    obtain ⟨t', r'⟩ := p
    rw [e] at hr
    simp only at hr
    injection hr with e1 hr
    injection hr with e2 e3
    subst e1 e2 e3
    have hlt := text1_lt e
    refine ⟨⟨?_, by omega, (by simp; omega), (fun h => by simp at h), fun _ => ?_⟩, hlt⟩
    · have hbk := (text1_back h1 e).1
      intro x hx
      exact h1 x (by rw [← hbk]; exact List.mem_append_right _ hx)
    · rw [h6]
      conv => lhs; arg 2; unfold takeT
      rw [if_neg hn, e]
      simp only
      rw [takeT_fuel rest.length (r'.length + 1) r' hlt (Nat.lt_succ_self _)]
      cases takeT (r'.length + 1) r' with
      | none => rfl
      | some l => simp
theorem TxtInv.stop {R0 : List Int} {G : Prop} {ts : List ByteArray} (h : TxtInv R0 G false [] ts) : takeT (R0.length + 1) R0 = some ts := by
  obtain ⟨h1, h2, h3, h4, h5⟩ := h
  rw [h5 rfl]
  simp [takeT]
end Go.Proofs.Ytagmefjpnmjcjab.Mh

/- msg.Of, walked by hand. -/
namespace Go.Proofs.Ytagmefjpnmjcjab.Mh
open Go.RowKit Go.Proofs.YtagmefjpnmjcjabW.PrintWords Go.Proofs.YtagmefjpnmjcjabW.PrintLast Go.Proofs.YtagmefjpnmjcjabW.PrintMore
open Go.Proofs.Ytagmefjpnmjcjab.Ms (msg_shape_size.f msg_shape_size.calls)
open Go.Proofs.Ytagmefjpnmjcjab.FrNum (fits len_ex rd_drop be Bytes)
open Go.Proofs.Ytagmefjpnmjcjab.Fh (T8 T8.of_R)
attribute [local go_sem] max2_int min2_int max_two min_two
set_option linter.unusedVariables false
set_option linter.unusedSimpArgs false
theorem R_at {α : Type} {d : Kd α} {e base : Nat} {ok : Nat → Prop} {W : World} {A : Option Addr} {n c : Nat} {l : List α} (h : Kd.R d e W base ok (.slice A n c) l) : Kd.C d W A n l := by
  have h2 := Kd.R_reads' h
  rw [h2.1]
  exact h2.2.2
theorem digB_at {z : List Nat} {i : Nat} (hi : i < z.length) (h4 : ∀ s ∈ z, s = 4 ∨ s = 1) : ∃ h : i < (digB z).size, ((digB z)[i]'h).toNat < 128 := by
  have h : i < (digB z).size := by rw [digB_size]; exact hi
  refine ⟨h, ?_⟩
  have e : (digB z)[i]'h = UInt8.ofNat (48 + z[i]) := by
    show ((z.map (fun n => UInt8.ofNat (48 + n))).toArray)[i]'_ = _
    simp
  rw [e]
  rcases h4 z[i] (List.getElem_mem hi) with e4 | e1
  · rw [e4]; decide
  · rw [e1]; decide
attribute [local irreducible] T8 TB NumInv TxtInv
theorem NumInv.bytes {z : List Nat} {body : List Int} {i : Nat} {bad : Bool} {rest ns : List Int} (h : NumInv z body i bad rest ns) : Bytes rest := by unfold NumInv at h; exact h.2.1
theorem NumInv.len {z : List Nat} {body : List Int} {i : Nat} {bad : Bool} {rest ns : List Int} (h : NumInv z body i bad rest ns) : ns.length = i := by unfold NumInv at h; exact h.1
theorem NumInv.short {z : List Nat} {body : List Int} {i : Nat} {bad : Bool} {rest ns : List Int} (h : NumInv z body i bad rest ns) : rest.length ≤ 300 := by unfold NumInv at h; exact h.2.2.1
theorem TxtInv.bytes {R0 : List Int} {G : Prop} {bad : Bool} {rest : List Int} {ts : List ByteArray} (h : TxtInv R0 G bad rest ts) : Bytes rest := by unfold TxtInv at h; exact h.1
theorem TxtInv.sum {R0 : List Int} {G : Prop} {bad : Bool} {rest : List Int} {ts : List ByteArray} (h : TxtInv R0 G bad rest ts) : ts.length + rest.length ≤ 301 := by unfold TxtInv at h; exact h.2.2.1
theorem TxtInv.short {R0 : List Int} {G : Prop} {bad : Bool} {rest : List Int} {ts : List ByteArray} (h : TxtInv R0 G bad rest ts) : rest.length ≤ 300 := by unfold TxtInv at h; exact h.2.1
theorem TxtInv.g {R0 : List Int} {G : Prop} {rest : List Int} {ts : List ByteArray} (h : TxtInv R0 G true rest ts) : G := by unfold TxtInv at h; exact h.2.2.2.1 rfl

set_option maxHeartbeats 8000000 in
set_option maxRecDepth 100000 in
theorem Of_calls (c : Int) (Af : Option Addr) (fn cf : Nat) (body : List Int) (hfn : body.length = fn) (q0 : Int) (q1 : List Int) (q2 : List ByteArray) (q3 : Int) (w : World) (hC : Kd.C (Kd.int .u8) w Af fn body) (hc : fn ≤ cf) (hB : Bytes body) (hcr : 0 ≤ c ∧ c < 256) (h : ofS c body = ((q0, q1, q2), q3)) :
    Calls Try.prog 41 #[.agg #[.int .u8 c, .slice Af fn cf]] w fun e w' => ∃ v1 v2 : Value, e = .returned (.tuple #[.agg #[.int .i64 q0, v1, v2], .int .i64 q3]) ∧ Kd.R (Kd.int .u64) 23 w' w.heap.size (fun _ => True) v1 q1 ∧ Kd.R Kd.string 9 w' w.heap.size (fun _ => True) v2 q2 ∧ Below w.heap.size w w' := by
  have HB := Aside0.mk (Below.refl w.heap.size w)
  have HT0 := Aside0.mk (TB.of_C hC hfn hc)
  have HFN := Aside0.mk hfn
  have HBY := Aside0.mk hB
  have hcw : wrap64 c = c := by unfold wrap64; omega
  have hu97 := Try.underlying97
  have hu67 := Try.underlying67
  have hu38 := Try.underlying38
  have hu9 := Try.underlying9
  have hmf : ∀ (fn : Fn) (first cap : Array Value) (w : World), (Instr.makeFunc fn first cap).run Try.prog w = .ok (.func fn first cap) w := fun _ _ _ _ => rfl
  unfold ofS at h
  clear hC hc hB hcr
  cases hs : szS c with
  | none =>
    rw [hs] at h
    injection h with h h3
    injection h with h0 h
    injection h with h1 h2
    subst h0 h1 h2 h3
    have HSZ := Aside0.mk hs
    clear hs
    go_enter Try.func41, Try.ntmps41
    go_wp2_with (first | ((with_reducible refine gate_dst (N := 1) rfl ?_); go_loud (refine box_event ?hg (N := 1) ?hd (cs := #[.int .u8 c, .slice Af fn cf]) (t := 38) ?hr ?_; (case hd => rfl); (case hg => rfl); (case hr => first | (go_simp; done) | (go_simp; rfl)); intro g1 hgb wa hbox hb; have HBX1 := Aside0.mk hbox; have HB_ := Aside0.mk hb; clear HB hgb hbox hb; have HB := HB_; clear HB_; have hg1_0 : wa.cell? ⟨g1, 0, none⟩ = some (.int .u8 c) := (blk_cell HBX1.out 0).trans rfl; have hg1_1 : wa.cell? ⟨g1, 1, none⟩ = some (.slice Af fn cf) := (blk_cell HBX1.out 1).trans rfl)) | ((with_reducible refine gate_dst (N := 2) rfl ?_); go_loud (refine box_event ?hg (N := 2) ?hd (cs := #[.int .i64 0, .slice none 0 0, .slice none 0 0]) (t := 67) ?hr ?_; (case hd => rfl); (case hg => rfl); (case hr => first | (go_simp; done) | (go_simp; rfl)); intro g2 hgb wb hbox hb; have HBX2 := Aside0.mk hbox; have HGE2 := Aside0.mk (show w.heap.size ≤ g2 by rw [hgb]; exact HB.out.size); have HBX1_ := Aside0.mk ((hb.block g1 (blk_lt HBX1.out)).trans HBX1.out); have HB_ := Aside0.mk (below_step HB.out hb); clear HBX1 HB; have HBX1 := HBX1_; have HB := HB_; clear HBX1_ HB_; clear hgb hbox hb; have hg1_0 : wb.cell? ⟨g1, 0, none⟩ = some (.int .u8 c) := (blk_cell HBX1.out 0).trans rfl; have hg1_1 : wb.cell? ⟨g1, 1, none⟩ = some (.slice Af fn cf) := (blk_cell HBX1.out 1).trans rfl)) | (go_at_call 56; go_loud (with_reducible refine (shaped_none c _ HSZ.out).mono ?_; rintro e wc ⟨rfl, hb⟩; have HB_ := Aside0.mk (below_step HB.out hb); have HBX1_ := Aside0.mk ((hb.block g1 (blk_lt HBX1.out)).trans HBX1.out); have HBX2_ := Aside0.mk ((hb.block g2 (blk_lt HBX2.out)).trans HBX2.out); clear HB HBX1 HBX2; have HB := HB_; have HBX1 := HBX1_; have HBX2 := HBX2_; clear HB_ HBX1_ HBX2_; clear hb)) | ((with_reducible refine gate_dst (N := 4) rfl ?_); go_loud (refine box_event ?hg (N := 4) ?hd (cs := #[.string ⟨#[]⟩, .int .i64 0]) (t := 97) ?hr ?_; (case hd => rfl); (case hg => rfl); (case hr => first | (go_simp; done) | (go_simp; rfl)); intro g4 hgb wd hbox hb; have HBX4 := Aside0.mk hbox; have HGE4 := Aside0.mk (show w.heap.size ≤ g4 by rw [hgb]; exact HB.out.size); have HN14 := Aside0.mk (show g1 ≠ g4 by have := blk_lt HBX1.out; omega); have HN24 := Aside0.mk (show g2 ≠ g4 by have := blk_lt HBX2.out; omega); have HBX1_ := Aside0.mk ((hb.block g1 (blk_lt HBX1.out)).trans HBX1.out); have HBX2_ := Aside0.mk ((hb.block g2 (blk_lt HBX2.out)).trans HBX2.out); have HB_ := Aside0.mk (below_step HB.out hb); clear HBX1 HBX2 HB; have HBX1 := HBX1_; have HBX2 := HBX2_; have HB := HB_; clear HBX1_ HBX2_ HB_; clear hgb hbox hb)) | ((with_reducible refine gate_ (.store 97 (.tmp 4) (.tmp 22)) rfl ?_); go_loud (refine store_event 97 (.tmp 4) (.tmp 22) rfl rfl rfl (g := g4) #[.string ⟨#[]⟩, .int .i64 0] #[.string ⟨#[]⟩, .int .i64 0] [.string ⟨#[]⟩, .int .i64 0] rfl rfl rfl size97 HBX4.out (by simp) (by rfl) rfl ?_; intro we hbox hs; have HBX1_ := Aside0.mk (hs.blk HBX1.out HN14.out); have HBX2_ := Aside0.mk (hs.blk HBX2.out HN24.out); have HB_ := Aside0.mk (hs.below HB.out HGE4.out); clear HBX1 HBX2 HB; have HBX1 := HBX1_; have HBX2 := HBX2_; have HB := HB_; clear HBX1_ HBX2_ HB_; have HBX4_ := Aside0.mk hbox; clear HBX4 hbox hs; have HBX4 := HBX4_; clear HBX4_; have hg1_0 : we.cell? ⟨g1, 0, none⟩ = some (.int .u8 c) := (blk_cell HBX1.out 0).trans rfl; have hg1_1 : we.cell? ⟨g1, 1, none⟩ = some (.slice Af fn cf) := (blk_cell HBX1.out 1).trans rfl)) | ((with_reducible refine gate_ (.store 67 (.tmp 2) (.tmp 32)) rfl ?_); go_loud (refine store_event 67 (.tmp 2) (.tmp 32) rfl rfl rfl (g := g2) #[.int .i64 0, .slice none 0 0, .slice none 0 0] #[.int .i64 0, .slice none 0 0, .slice none 0 0] [.int .i64 0, .slice none 0 0, .slice none 0 0] rfl rfl rfl size67 HBX2.out (by simp) (by rfl) rfl ?_; intro wz hbox hs; have HB_ := Aside0.mk (hs.below HB.out HGE2.out); clear HB; have HB := HB_; clear HB_; have hz0 : wz.cell? ⟨g2, 0, none⟩ = some (.int .i64 0) := (blk_cell hbox 0).trans rfl; have hz1 : wz.cell? ⟨g2, 1, none⟩ = some (.slice none 0 0) := (blk_cell hbox 1).trans rfl; have hz2 : wz.cell? ⟨g2, 2, none⟩ = some (.slice none 0 0) := (blk_cell hbox 2).trans rfl; clear hbox hs)))
    (try simp only [Exit.inBlock, Exit.then])
    refine bodyPost_ret (v := .tuple #[.agg #[.int .i64 0, .slice none 0 0, .slice none 0 0], .int .i64 2]) ?_ rfl ⟨_, _, rfl, Kd.R_nil _ _ _ _ _, Kd.R_nil _ _ _ _ _, HB.out⟩
    rw [results_cell_tmp rfl]
    go_simp
  | some p =>
    obtain ⟨z, tx⟩ := p
    rw [hs] at h
    simp only at h
    have HSZ := Aside0.mk hs
    obtain ⟨sb, hsb⟩ : ∃ s, digB z = s := ⟨_, rfl⟩
    have HSB := Aside0.mk hsb
    by_cases c300 : fn > 300
    · rw [if_pos (by omega)] at h
      injection h with h h3
      injection h with h0 h
      injection h with h1 h2
      subst h0 h1 h2 h3
      have b0 : decide (300 < (fn : Int)) = true := decide_eq_true (by omega)
      clear hs c300 hsb
      go_enter Try.func41, Try.ntmps41
      go_wp2_with (first | ((with_reducible refine gate_dst (N := 1) rfl ?_); go_loud (refine box_event ?hg (N := 1) ?hd (cs := #[.int .u8 c, .slice Af fn cf]) (t := 38) ?hr ?_; (case hd => rfl); (case hg => rfl); (case hr => first | (go_simp; done) | (go_simp; rfl)); intro g1 hgb wa hbox hb; have HBX1 := Aside0.mk hbox; have HB_ := Aside0.mk hb; clear HB hgb hbox hb; have HB := HB_; clear HB_; have hg1_0 : wa.cell? ⟨g1, 0, none⟩ = some (.int .u8 c) := (blk_cell HBX1.out 0).trans rfl; have hg1_1 : wa.cell? ⟨g1, 1, none⟩ = some (.slice Af fn cf) := (blk_cell HBX1.out 1).trans rfl)) | ((with_reducible refine gate_dst (N := 2) rfl ?_); go_loud (refine box_event ?hg (N := 2) ?hd (cs := #[.int .i64 0, .slice none 0 0, .slice none 0 0]) (t := 67) ?hr ?_; (case hd => rfl); (case hg => rfl); (case hr => first | (go_simp; done) | (go_simp; rfl)); intro g2 hgb wb hbox hb; have HBX2 := Aside0.mk hbox; have HGE2 := Aside0.mk (show w.heap.size ≤ g2 by rw [hgb]; exact HB.out.size); have HBX1_ := Aside0.mk ((hb.block g1 (blk_lt HBX1.out)).trans HBX1.out); have HB_ := Aside0.mk (below_step HB.out hb); clear HBX1 HB; have HBX1 := HBX1_; have HB := HB_; clear HBX1_ HB_; clear hgb hbox hb; have hg1_0 : wb.cell? ⟨g1, 0, none⟩ = some (.int .u8 c) := (blk_cell HBX1.out 0).trans rfl; have hg1_1 : wb.cell? ⟨g1, 1, none⟩ = some (.slice Af fn cf) := (blk_cell HBX1.out 1).trans rfl)) | (go_at_call 56; go_loud (with_reducible refine (shaped_calls c z tx _ HSZ.out).mono ?_; rw [HSB.out]; rintro e wc ⟨rfl, hb⟩; have HB_ := Aside0.mk (below_step HB.out hb); have HBX1_ := Aside0.mk ((hb.block g1 (blk_lt HBX1.out)).trans HBX1.out); have HBX2_ := Aside0.mk ((hb.block g2 (blk_lt HBX2.out)).trans HBX2.out); clear HB HBX1 HBX2; have HB := HB_; have HBX1 := HBX1_; have HBX2 := HBX2_; clear HB_ HBX1_ HBX2_; clear hb)) | ((with_reducible refine gate_dst (N := 4) rfl ?_); go_loud (refine box_event ?hg (N := 4) ?hd (cs := #[.string ⟨#[]⟩, .int .i64 0]) (t := 97) ?hr ?_; (case hd => rfl); (case hg => rfl); (case hr => first | (go_simp; done) | (go_simp; rfl)); intro g4 hgb wd hbox hb; have HBX4 := Aside0.mk hbox; have HGE4 := Aside0.mk (show w.heap.size ≤ g4 by rw [hgb]; exact HB.out.size); have HN14 := Aside0.mk (show g1 ≠ g4 by have := blk_lt HBX1.out; omega); have HN24 := Aside0.mk (show g2 ≠ g4 by have := blk_lt HBX2.out; omega); have HBX1_ := Aside0.mk ((hb.block g1 (blk_lt HBX1.out)).trans HBX1.out); have HBX2_ := Aside0.mk ((hb.block g2 (blk_lt HBX2.out)).trans HBX2.out); have HB_ := Aside0.mk (below_step HB.out hb); clear HBX1 HBX2 HB; have HBX1 := HBX1_; have HBX2 := HBX2_; have HB := HB_; clear HBX1_ HBX2_ HB_; clear hgb hbox hb)) | ((with_reducible refine gate_ (.store 97 (.tmp 4) (.tmp 22)) rfl ?_); go_loud (refine store_event 97 (.tmp 4) (.tmp 22) rfl rfl rfl (g := g4) #[.string ⟨#[]⟩, .int .i64 0] #[.string sb, .int .i64 tx] [.string sb, .int .i64 tx] rfl rfl rfl size97 HBX4.out (by simp) (by rfl) rfl ?_; intro we hbox hs; have HBX1_ := Aside0.mk (hs.blk HBX1.out HN14.out); have HBX2_ := Aside0.mk (hs.blk HBX2.out HN24.out); have HB_ := Aside0.mk (hs.below HB.out HGE4.out); clear HBX1 HBX2 HB; have HBX1 := HBX1_; have HBX2 := HBX2_; have HB := HB_; clear HBX1_ HBX2_ HB_; have HBX4_ := Aside0.mk hbox; clear HBX4 hbox hs; have HBX4 := HBX4_; clear HBX4_; have hg1_0 : we.cell? ⟨g1, 0, none⟩ = some (.int .u8 c) := (blk_cell HBX1.out 0).trans rfl; have hg1_1 : we.cell? ⟨g1, 1, none⟩ = some (.slice Af fn cf) := (blk_cell HBX1.out 1).trans rfl)) | ((with_reducible refine gate_ (.store 67 (.tmp 2) (.tmp 32)) rfl ?_); go_loud (refine store_event 67 (.tmp 2) (.tmp 32) rfl rfl rfl (g := g2) #[.int .i64 0, .slice none 0 0, .slice none 0 0] #[.int .i64 0, .slice none 0 0, .slice none 0 0] [.int .i64 0, .slice none 0 0, .slice none 0 0] rfl rfl rfl size67 HBX2.out (by simp) (by rfl) rfl ?_; intro wz hbox hs; have HB_ := Aside0.mk (hs.below HB.out HGE2.out); clear HB; have HB := HB_; clear HB_; have hz0 : wz.cell? ⟨g2, 0, none⟩ = some (.int .i64 0) := (blk_cell hbox 0).trans rfl; have hz1 : wz.cell? ⟨g2, 1, none⟩ = some (.slice none 0 0) := (blk_cell hbox 1).trans rfl; have hz2 : wz.cell? ⟨g2, 2, none⟩ = some (.slice none 0 0) := (blk_cell hbox 2).trans rfl; clear hbox hs)))
      (try simp only [Exit.inBlock, Exit.then])
      refine bodyPost_ret (v := .tuple #[.agg #[.int .i64 0, .slice none 0 0, .slice none 0 0], .int .i64 2]) ?_ rfl ⟨_, _, rfl, Kd.R_nil _ _ _ _ _, Kd.R_nil _ _ _ _ _, HB.out⟩
      rw [results_cell_tmp rfl]
      go_simp
    · rw [if_neg (by omega)] at h
      have b0 : decide (300 < (fn : Int)) = false := decide_eq_false (by omega)
      have HH := Aside0.mk h
      obtain ⟨zl, hzl⟩ : ∃ n, z.length = n := ⟨_, rfl⟩
      have HZL := Aside0.mk hzl
      have HZS := Aside0.mk (szS_cases hs).2.2.1
      have HZ3 := Aside0.mk (show zl ≤ 3 by have := (szS_cases hs).2.1; omega)
      have HNI := Aside0.mk (NumInv.start z HBY.out (show body.length ≤ 300 by omega))
      have HSS := Aside0.mk (show sb.size = zl by rw [← hsb, digB_size, hzl])
      clear hs c300 hsb h hzl
      go_enter Try.func41, Try.ntmps41
      go_wp2_with (first | ((with_reducible refine gate_dst (N := 1) rfl ?_); go_loud (refine box_event ?hg (N := 1) ?hd (cs := #[.int .u8 c, .slice Af fn cf]) (t := 38) ?hr ?_; (case hd => rfl); (case hg => rfl); (case hr => first | (go_simp; done) | (go_simp; rfl)); intro g1 hgb wa hbox hb; have HBX1 := Aside0.mk hbox; have HB_ := Aside0.mk hb; clear HB hgb hbox hb; have HB := HB_; clear HB_; have hg1_0 : wa.cell? ⟨g1, 0, none⟩ = some (.int .u8 c) := (blk_cell HBX1.out 0).trans rfl; have hg1_1 : wa.cell? ⟨g1, 1, none⟩ = some (.slice Af fn cf) := (blk_cell HBX1.out 1).trans rfl)) | ((with_reducible refine gate_dst (N := 2) rfl ?_); go_loud (refine box_event ?hg (N := 2) ?hd (cs := #[.int .i64 0, .slice none 0 0, .slice none 0 0]) (t := 67) ?hr ?_; (case hd => rfl); (case hg => rfl); (case hr => first | (go_simp; done) | (go_simp; rfl)); intro g2 hgb wb hbox hb; have HBX2 := Aside0.mk hbox; have HGE2 := Aside0.mk (show w.heap.size ≤ g2 by rw [hgb]; exact HB.out.size); have HBX1_ := Aside0.mk ((hb.block g1 (blk_lt HBX1.out)).trans HBX1.out); have HB_ := Aside0.mk (below_step HB.out hb); clear HBX1 HB; have HBX1 := HBX1_; have HB := HB_; clear HBX1_ HB_; clear hgb hbox hb; have hg1_0 : wb.cell? ⟨g1, 0, none⟩ = some (.int .u8 c) := (blk_cell HBX1.out 0).trans rfl; have hg1_1 : wb.cell? ⟨g1, 1, none⟩ = some (.slice Af fn cf) := (blk_cell HBX1.out 1).trans rfl)) | (go_at_call 56; go_loud (with_reducible refine (shaped_calls c z tx _ HSZ.out).mono ?_; rw [HSB.out]; rintro e wc ⟨rfl, hb⟩; have HB_ := Aside0.mk (below_step HB.out hb); have HBX1_ := Aside0.mk ((hb.block g1 (blk_lt HBX1.out)).trans HBX1.out); have HBX2_ := Aside0.mk ((hb.block g2 (blk_lt HBX2.out)).trans HBX2.out); clear HB HBX1 HBX2; have HB := HB_; have HBX1 := HBX1_; have HBX2 := HBX2_; clear HB_ HBX1_ HBX2_; clear hb)) | ((with_reducible refine gate_dst (N := 4) rfl ?_); go_loud (refine box_event ?hg (N := 4) ?hd (cs := #[.string ⟨#[]⟩, .int .i64 0]) (t := 97) ?hr ?_; (case hd => rfl); (case hg => rfl); (case hr => first | (go_simp; done) | (go_simp; rfl)); intro g4 hgb wd hbox hb; have HBX4 := Aside0.mk hbox; have HGE4 := Aside0.mk (show w.heap.size ≤ g4 by rw [hgb]; exact HB.out.size); have HN14 := Aside0.mk (show g1 ≠ g4 by have := blk_lt HBX1.out; omega); have HN24 := Aside0.mk (show g2 ≠ g4 by have := blk_lt HBX2.out; omega); have HBX1_ := Aside0.mk ((hb.block g1 (blk_lt HBX1.out)).trans HBX1.out); have HBX2_ := Aside0.mk ((hb.block g2 (blk_lt HBX2.out)).trans HBX2.out); have HB_ := Aside0.mk (below_step HB.out hb); clear HBX1 HBX2 HB; have HBX1 := HBX1_; have HBX2 := HBX2_; have HB := HB_; clear HBX1_ HBX2_ HB_; clear hgb hbox hb)) | ((with_reducible refine gate_ (.store 97 (.tmp 4) (.tmp 22)) rfl ?_); go_loud (refine store_event 97 (.tmp 4) (.tmp 22) rfl rfl rfl (g := g4) #[.string ⟨#[]⟩, .int .i64 0] #[.string sb, .int .i64 tx] [.string sb, .int .i64 tx] rfl rfl rfl size97 HBX4.out (by simp) (by rfl) rfl ?_; intro we hbox hs; have HBX1_ := Aside0.mk (hs.blk HBX1.out HN14.out); have HBX2_ := Aside0.mk (hs.blk HBX2.out HN24.out); have HB_ := Aside0.mk (hs.below HB.out HGE4.out); clear HBX1 HBX2 HB; have HBX1 := HBX1_; have HBX2 := HBX2_; have HB := HB_; clear HBX1_ HBX2_ HB_; have HBX4_ := Aside0.mk hbox; clear HBX4 hbox hs; have HBX4 := HBX4_; clear HBX4_; have hg1_0 : we.cell? ⟨g1, 0, none⟩ = some (.int .u8 c) := (blk_cell HBX1.out 0).trans rfl; have hg1_1 : we.cell? ⟨g1, 1, none⟩ = some (.slice Af fn cf) := (blk_cell HBX1.out 1).trans rfl)) | ((with_reducible refine gate_dst (N := 6) rfl ?_); go_loud (refine box_event ?hg (N := 6) ?hd (cs := #[.slice none 0 0]) (t := 22) ?hr ?_; (case hd => rfl); (case hg => rfl); (case hr => first | (go_simp; done) | (go_simp; rfl)); intro g6 hgb wf hbox hb; have HBX6 := Aside0.mk hbox; have HGE6 := Aside0.mk (show w.heap.size ≤ g6 by rw [hgb]; exact HB.out.size); have HBX1_ := Aside0.mk ((hb.block g1 (blk_lt HBX1.out)).trans HBX1.out); have HBX2_ := Aside0.mk ((hb.block g2 (blk_lt HBX2.out)).trans HBX2.out); have HBX4_ := Aside0.mk ((hb.block g4 (blk_lt HBX4.out)).trans HBX4.out); have HB_ := Aside0.mk (below_step HB.out hb); clear HBX1 HBX2 HBX4 HB; have HBX1 := HBX1_; have HBX2 := HBX2_; have HBX4 := HBX4_; have HB := HB_; clear HBX1_ HBX2_ HBX4_ HB_; clear hgb hbox hb)) | ((with_reducible refine gate_dst (N := 7) rfl ?_); go_loud (refine box_event ?hg (N := 7) ?hd (cs := #[.bool false]) (t := 4) ?hr ?_; (case hd => rfl); (case hg => rfl); (case hr => first | (go_simp; done) | (go_simp; rfl)); intro g7 hgb wg hbox hb; have HBX7 := Aside0.mk hbox; have HGE7 := Aside0.mk (show w.heap.size ≤ g7 by rw [hgb]; exact HB.out.size); have HBX1_ := Aside0.mk ((hb.block g1 (blk_lt HBX1.out)).trans HBX1.out); have HBX2_ := Aside0.mk ((hb.block g2 (blk_lt HBX2.out)).trans HBX2.out); have HBX4_ := Aside0.mk ((hb.block g4 (blk_lt HBX4.out)).trans HBX4.out); have HBX6_ := Aside0.mk ((hb.block g6 (blk_lt HBX6.out)).trans HBX6.out); have HB_ := Aside0.mk (below_step HB.out hb); clear HBX1 HBX2 HBX4 HBX6 HB; have HBX1 := HBX1_; have HBX2 := HBX2_; have HBX4 := HBX4_; have HBX6 := HBX6_; have HB := HB_; clear HBX1_ HBX2_ HBX4_ HBX6_ HB_; clear hgb hbox hb)) | ((with_reducible refine gate_ (.store 22 (.tmp 6) (.tmp 34)) rfl ?_); go_loud (refine store_event 22 (.tmp 6) (.tmp 34) rfl rfl rfl (g := g6) #[.slice none 0 0] #[.slice Af fn cf] [.slice Af fn cf] rfl rfl rfl size22 HBX6.out (by simp) (by rfl) rfl ?_; intro wh hbox hs; have HBX1_ := Aside0.mk (hs.blk HBX1.out (ne_tp HBX6.out HBX1.out (by decide))); have HBX2_ := Aside0.mk (hs.blk HBX2.out (ne_tp HBX6.out HBX2.out (by decide))); have HBX4_ := Aside0.mk (hs.blk HBX4.out (ne_tp HBX6.out HBX4.out (by decide))); have HBX7_ := Aside0.mk (hs.blk HBX7.out (ne_tp HBX6.out HBX7.out (by decide))); have HB_ := Aside0.mk (hs.below HB.out HGE6.out); clear HBX1 HBX2 HBX4 HBX7 HB; have HBX1 := HBX1_; have HBX2 := HBX2_; have HBX4 := HBX4_; have HBX7 := HBX7_; have HB := HB_; clear HBX1_ HBX2_ HBX4_ HBX7_ HB_; have HBX6_ := Aside0.mk hbox; clear HBX6 hbox hs; have HBX6 := HBX6_; clear HBX6_)) | ((with_reducible refine gate_ (.store 4 (.tmp 7) (.const (.bool false))) rfl ?_); go_loud (refine store_event 4 (.tmp 7) (.const (.bool false)) rfl rfl rfl (g := g7) #[.bool false] #[.bool false] [.bool false] rfl rfl rfl size4 HBX7.out (by simp) (by rfl) rfl ?_; intro wi hbox hs; have HBX1_ := Aside0.mk (hs.blk HBX1.out (ne_tp HBX7.out HBX1.out (by decide))); have HBX2_ := Aside0.mk (hs.blk HBX2.out (ne_tp HBX7.out HBX2.out (by decide))); have HBX4_ := Aside0.mk (hs.blk HBX4.out (ne_tp HBX7.out HBX4.out (by decide))); have HBX6_ := Aside0.mk (hs.blk HBX6.out (ne_tp HBX7.out HBX6.out (by decide))); have HB_ := Aside0.mk (hs.below HB.out HGE7.out); clear HBX1 HBX2 HBX4 HBX6 HB; have HBX1 := HBX1_; have HBX2 := HBX2_; have HBX4 := HBX4_; have HBX6 := HBX6_; have HB := HB_; clear HBX1_ HBX2_ HBX4_ HBX6_ HB_; have HBX7_ := Aside0.mk hbox; clear HBX7 hbox hs; have HBX7 := HBX7_; clear HBX7_; have hg1_0 : wi.cell? ⟨g1, 0, none⟩ = some (.int .u8 c) := (blk_cell HBX1.out 0).trans rfl; have hg1_1 : wi.cell? ⟨g1, 1, none⟩ = some (.slice Af fn cf) := (blk_cell HBX1.out 1).trans rfl)) | ((with_reducible refine gate_dst (N := 9) rfl ?_); go_loud (refine box_event ?hg (N := 9) ?hd (cs := #[.int .i64 0, .slice none 0 0, .slice none 0 0]) (t := 67) ?hr ?_; (case hd => rfl); (case hg => rfl); (case hr => first | (go_simp; done) | (go_simp; rfl)); intro g9 hgb wj hbox hb; have HBX9 := Aside0.mk hbox; have HGE9 := Aside0.mk (show w.heap.size ≤ g9 by rw [hgb]; exact HB.out.size); have HN29 := Aside0.mk (show g2 ≠ g9 by have := blk_lt HBX2.out; omega); have HBX1_ := Aside0.mk ((hb.block g1 (blk_lt HBX1.out)).trans HBX1.out); have HBX2_ := Aside0.mk ((hb.block g2 (blk_lt HBX2.out)).trans HBX2.out); have HBX4_ := Aside0.mk ((hb.block g4 (blk_lt HBX4.out)).trans HBX4.out); have HBX6_ := Aside0.mk ((hb.block g6 (blk_lt HBX6.out)).trans HBX6.out); have HBX7_ := Aside0.mk ((hb.block g7 (blk_lt HBX7.out)).trans HBX7.out); have HB_ := Aside0.mk (below_step HB.out hb); clear HBX1 HBX2 HBX4 HBX6 HBX7 HB; have HBX1 := HBX1_; have HBX2 := HBX2_; have HBX4 := HBX4_; have HBX6 := HBX6_; have HBX7 := HBX7_; have HB := HB_; clear HBX1_ HBX2_ HBX4_ HBX6_ HBX7_ HB_; clear hgb hbox hb)) | ((with_reducible refine gate_ (.store 67 (.tmp 9) (.tmp 39)) rfl ?_); go_loud (refine store_event 67 (.tmp 9) (.tmp 39) rfl rfl rfl (g := g9) #[.int .i64 0, .slice none 0 0, .slice none 0 0] #[.int .i64 c, .slice none 0 0, .slice none 0 0] [.int .i64 c, .slice none 0 0, .slice none 0 0] rfl rfl rfl size67 HBX9.out (by simp) (by rfl) rfl ?_; intro wk hbox hs; have HBX1_ := Aside0.mk (hs.blk HBX1.out (ne_tp HBX9.out HBX1.out (by decide))); have HBX4_ := Aside0.mk (hs.blk HBX4.out (ne_tp HBX9.out HBX4.out (by decide))); have HBX6_ := Aside0.mk (hs.blk HBX6.out (ne_tp HBX9.out HBX6.out (by decide))); have HBX7_ := Aside0.mk (hs.blk HBX7.out (ne_tp HBX9.out HBX7.out (by decide))); have HBX2_ := Aside0.mk (hs.blk HBX2.out HN29.out); have HB_ := Aside0.mk (hs.below HB.out HGE9.out); clear HBX1 HBX4 HBX6 HBX7 HBX2 HB; have HBX1 := HBX1_; have HBX4 := HBX4_; have HBX6 := HBX6_; have HBX7 := HBX7_; have HBX2 := HBX2_; have HB := HB_; clear HBX1_ HBX4_ HBX6_ HBX7_ HBX2_ HB_; have HBX9_ := Aside0.mk hbox; clear HBX9 hbox hs; have HBX9 := HBX9_; clear HBX9_; have hg4_0 : wk.cell? ⟨g4, 0, none⟩ = some (.string sb) := (blk_cell HBX4.out 0).trans rfl; have hg4_1 : wk.cell? ⟨g4, 1, none⟩ = some (.int .i64 tx) := (blk_cell HBX4.out 1).trans rfl)) | ((with_reducible refine gate_dst (N := 42) rfl ?_); go_loud (refine iter_event ?hg (N := 42) ?hd (s := sb) ?hr ?_; (case hd => rfl); (case hg => rfl); (case hr => first | (go_simp; done) | (go_simp; rfl)); intro gi hgb wl hbox hb; have HIT := Aside0.mk hbox; have HGI := Aside0.mk (show w.heap.size ≤ gi by rw [hgb]; exact HB.out.size); have HBX1_ := Aside0.mk ((hb.block g1 (blk_lt HBX1.out)).trans HBX1.out); have HBX2_ := Aside0.mk ((hb.block g2 (blk_lt HBX2.out)).trans HBX2.out); have HBX4_ := Aside0.mk ((hb.block g4 (blk_lt HBX4.out)).trans HBX4.out); have HBX6_ := Aside0.mk ((hb.block g6 (blk_lt HBX6.out)).trans HBX6.out); have HBX7_ := Aside0.mk ((hb.block g7 (blk_lt HBX7.out)).trans HBX7.out); have HBX9_ := Aside0.mk ((hb.block g9 (blk_lt HBX9.out)).trans HBX9.out); have HB_ := Aside0.mk (below_step HB.out hb); clear HBX1 HBX2 HBX4 HBX6 HBX7 HBX9 HB; have HBX1 := HBX1_; have HBX2 := HBX2_; have HBX4 := HBX4_; have HBX6 := HBX6_; have HBX7 := HBX7_; have HBX9 := HBX9_; have HB := HB_; clear HBX1_ HBX2_ HBX4_ HBX6_ HBX7_ HBX9_ HB_; clear hgb hbox hb)))
      have HO := Aside0.mk (show OfI w wl g1 g2 g4 g6 g7 g9 c (.slice Af fn cf) sb tx false (.slice none 0 0) (.slice none 0 0) body [] [] from ⟨HBX1.out, HBX2.out, HBX4.out, ⟨Af, cf, by rw [HFN.out]; exact HBX6.out, by rw [HFN.out]; exact HT0.out.below (Nat.le_refl _) HB.out⟩, HBX7.out, HBX9.out, Kd.R_nil _ _ _ _ _, Kd.R_nil _ _ _ _ _, HB.out, ⟨HGE2.out, HGE6.out, HGE7.out, HGE9.out⟩, HN29.out⟩)
      clear HBX1 HBX2 HBX4 HBX6 HBX7 HBX9 HB HGE2 HGE4 HGE6 HGE7 HGE9 HN29 HN14 HN24
      (try simp only [Act.put, List.setIfInBounds_toArray, List.set_cons_zero, List.set_cons_succ])
      go_loopg [10] (zl + 1) (fun kq v10 w' => ∃ (i : Nat) (bad : Bool) (v1 : Value) (rest ns : List Int), Aside0 (kq + i = zl + 1) ∧ Aside0 (i ≤ zl) ∧ Aside0 (OfI w w' g1 g2 g4 g6 g7 g9 c (.slice Af fn cf) sb tx bad v1 (.slice none 0 0) rest ns []) ∧ Aside0 (w'.heap[gi]? = some (.stringIter sb i)) ∧ Aside0 (NumInv z body i bad rest ns))
      case atStart => exact ⟨0, false, _, body, [], ⟨by omega⟩, ⟨by omega⟩, HO, HIT, HNI⟩
      case round =>
        clear HO HIT HNI
        obtain ⟨i, bad, v1, rest, ns, HKQ, HI, HO, HIT, HNI⟩ := hrel
        obtain ⟨gk, rfl⟩ : ∃ gk', gk = gk' + 1 := ⟨gk - 1, by have := HKQ.out; have := HI.out; omega⟩
        by_cases ci : i < zl
        · have hiz : i < z.length := by rw [HZL.out]; exact ci
          have hse := size_eq HSZ.out i hiz
          rw [HSB.out] at hse
          obtain ⟨hd1, hd2⟩ := digB_at hiz HZS.out
          have hs4 := HZS.out z[i] (List.getElem_mem hiz)
          obtain ⟨s, hs⟩ : ∃ s, z[i] = s := ⟨_, rfl⟩
          rw [hs] at hse hs4
          obtain ⟨⟨r1, r2, r3⟩, hr⟩ : ∃ r, num1S s rest = r := ⟨_, rfl⟩
          have HNI2 := Aside0.mk (HNI.out.step hiz hs (by omega) hr)
          have HSE := Aside0.mk hse
          have HNR := Aside0.mk hr
          have HS18 := Aside0.mk (show 1 ≤ s ∧ s ≤ 8 by omega)
          have HRB := Aside0.mk (show Bytes rest from HNI.out.bytes)
          have HNL := Aside0.mk (show ns.length ≤ 3 by have := HNI.out.len; have := HZ3.out; omega)
          obtain ⟨r2n, hr2⟩ : ∃ n, r2.length = n := ⟨_, rfl⟩
          have HR2N := Aside0.mk hr2
          have hnx := Lib.run_next_ascii_at (P := Try.prog) wr gi sb i
          generalize hch : (digB z)[i]'hd1 = ch at hd2
          have hnx : ∀ ty, (Instr.next (.pointer (some ⟨gi, 0, none⟩)) true ty).run Try.prog wr = .ok (.tuple #[.bool true, .int .i64 i, .int .i32 ch.toNat]) (wr.iterAt gi sb (i + 1)) := by
            intro ty
            have hz := HSB.out
            subst hz
            rw [← hch] at hd2 ⊢
            exact hnx ty HIT.out hd1 hd2
          clear hs hr hse hs4 hd1 hd2 hch hr2 hiz
          go_upto_region 10 with (fail)
          generalize hit : wr.iterAt gi sb (i + 1) = wm
          have HIT_ := Aside0.mk (hit ▸ Lib.iterAt_heap wr gi sb i (i + 1) HIT.out)
          have HO_ := Aside0.mk (hit ▸ HO.out.iter HIT.out HGI.out (i + 1))
          clear HIT HO hit hnx
          have HIT := HIT_
          have HO := HO_
          clear HIT_ HO_
          obtain ⟨Ar, cr, h6, hT8⟩ := HO.out.x6
          obtain ⟨rn, hrn⟩ : ∃ n, rest.length = n := ⟨_, rfl⟩
          rw [hrn] at h6 hT8
          have HRN := Aside0.mk hrn
          have HX6 := Aside0.mk h6
          have HT8 := Aside0.mk hT8
          have HRL := Aside0.mk (show rn ≤ 1000000 by have := HNI.out.short; omega)
          clear h6 hT8 hrn
          have hb := below_drew1 (Below.refl wm.heap.size wm)
          have HX6_ := Aside0.mk ((hb.block g6 (blk_lt HX6.out)).trans HX6.out)
          have HT8_ := Aside0.mk (HT8.out.below HO.out.bel.size hb)
          have HO_ := Aside0.mk (HO.out.below hb)
          have HIT_ := Aside0.mk (it_below HIT.out hb)
          clear HX6 HT8 HO HIT
          have HX6 := HX6_
          have HT8 := HT8_
          have HO := HO_
          have HIT := HIT_
          clear HX6_ HT8_ HO_ HIT_
          clear hb
          refine start_ (n := 12) (S := fun w' => w'.cell? ⟨g6, 0, none⟩ = some (.slice Ar rn cr) ∧ w'.cell? ⟨g4, 0, none⟩ = some (.string sb) ∧ w'.cell? ⟨g4, 1, none⟩ = some (.int .i64 tx)) (ds := []) #[false, false, false, false, false, false, false, false, false, false, false, false] (by kernel_rfl) rfl rfl ⟨(blk_cell HX6.out 0).trans rfl, (blk_cell HO.out.x4 0).trans rfl, (blk_cell HO.out.x4 1).trans rfl⟩ (fun hHeld => ?_)
          generalize World.drew wm = wn at HO HIT HX6 HT8 hHeld ⊢
          refine pure_ (i := 2) (N := some 49) (v := ?_) (a' := ?_) #[false, false, true, false, false, false, false, false, false, false, false, false] rfl rfl (by kernel_rfl) (fun _ _ _ h => h) (Or.inl ⟨by rfl, ?_⟩) ?_ ?_
          rotate_left
          · intro w'
            go_simp
            with_reducible rfl
          rotate_left
          · simp only [Act.put, List.setIfInBounds_toArray, List.set_cons_zero, List.set_cons_succ, i64_w, i32_w]
            rfl
          refine take_ (i := 0) (N := some 47) (v := ?_) (a' := ?_) #[true, false, true, false, false, false, false, false, false, false, false, false] rfl rfl (by kernel_rfl) (fun _ _ _ h => h) (Or.inl ⟨by rfl, ?_⟩) hHeld ?_ ?_
          rotate_left
          · rintro w' ⟨s0, s1, s2⟩
            go_simp
            with_reducible rfl
          rotate_left
          · simp only [Act.put, List.setIfInBounds_toArray, List.set_cons_zero, List.set_cons_succ, i64_w, i32_w]
            rfl
          refine take_ (i := 1) (N := some 48) (v := ?_) (a' := ?_) #[true, true, true, false, false, false, false, false, false, false, false, false] rfl rfl (by kernel_rfl) (fun _ _ _ h => h) (Or.inl ⟨by rfl, ?_⟩) hHeld ?_ ?_
          rotate_left
          · rintro w' ⟨s0, s1, s2⟩
            go_simp
            with_reducible rfl
          rotate_left
          · simp only [Act.put, List.setIfInBounds_toArray, List.set_cons_zero, List.set_cons_succ, i64_w, i32_w]
            rfl
          refine one_ (i := 3) (N := some 50) #[true, true, true, true, false, false, false, false, false, false, false, false] rfl rfl (by kernel_rfl) (by decide) (fun K hK => ?_)
          refine goes_ Try.func57 (by kernel_rfl) rfl #[.agg #[.string sb, .int .i64 tx], .int .i64 (i : Int)] (by rfl) rfl rfl (by simp only [List.map_toArray, List.map_cons, List.map_nil]; rfl) ?_
          with_reducible refine (msg_shape_size.calls sb tx (i : Int) (s : Int) _ HSE.out).mono ?_
          rintro e ws ⟨rfl, hb⟩
          refine ⟨_, rfl, ?_⟩
          have HX6_ := Aside0.mk ((hb.block g6 (blk_lt HX6.out)).trans HX6.out)
          have HT8_ := Aside0.mk (HT8.out.below HO.out.bel.size hb)
          have HO_ := Aside0.mk (HO.out.below hb)
          have HIT_ := Aside0.mk (it_below HIT.out hb)
          clear HX6 HT8 HO HIT
          have HX6 := HX6_
          have HT8 := HT8_
          have HO := HO_
          have HIT := HIT_
          clear HX6_ HT8_ HO_ HIT_
          clear hb
          refine hK.out _ _ ⟨(blk_cell HX6.out 0).trans rfl, (blk_cell HO.out.x4 0).trans rfl, (blk_cell HO.out.x4 1).trans rfl⟩ (fun hHeld => ?_)
          clear hK K
          refine norm_ (a' := ?_) ?_ ?_
          rotate_left
          · show Act.put _ (some 50) _ = _
            simp only [Act.put, List.setIfInBounds_toArray, List.set_cons_zero, List.set_cons_succ, i64_w, i32_w]
            rfl
          refine one_ (i := 4) (N := some 51) #[true, true, true, true, true, false, false, false, false, false, false, false] rfl rfl (by kernel_rfl) (by decide) (fun K hK => ?_)
          refine goes_ Try.func17 (by kernel_rfl) rfl #[.slice Ar rn cr, .int .i64 (s : Int)] (by rfl) rfl rfl (by simp only [List.map_toArray, List.map_cons, List.map_nil]; rfl) ?_
          with_reducible refine (Take_calls Ar rn cr rest HRN.out s HS18.out r1 r2 r3 _ HT8.out.at_.2.2 HT8.out.at_.2.1 HRB.out HRL.out HNR.out).mono ?_
          rintro e wt ⟨v, rfl, hT, hb⟩
          refine ⟨_, rfl, ?_⟩
          obtain ⟨At, ct, rfl⟩ := hT.slice
          rw [HR2N.out] at hT ⊢
          have HTK := Aside0.mk (TB.of_T8 (w := w) hT)
          have HO_ := Aside0.mk (HO.out.below hb)
          have HIT_ := Aside0.mk (it_below HIT.out hb)
          have HX6_ := Aside0.mk ((hb.block g6 (blk_lt HX6.out)).trans HX6.out)
          clear HO HIT HX6
          have HO := HO_
          have HIT := HIT_
          have HX6 := HX6_
          clear HO_ HIT_ HX6_
          clear hb hT HT8
          refine hK.out _ _ ⟨(blk_cell HX6.out 0).trans rfl, (blk_cell HO.out.x4 0).trans rfl, (blk_cell HO.out.x4 1).trans rfl⟩ (fun hHeld => ?_)
          clear hK K
          refine norm_ (a' := ?_) ?_ ?_
          rotate_left
          · show Act.put _ (some 51) _ = _
            simp only [Act.put, List.setIfInBounds_toArray, List.set_cons_zero, List.set_cons_succ, i64_w, i32_w]
            rfl
          refine pure_ (i := 5) (N := some 46) (v := ?_) (a' := ?_) #[true, true, true, true, true, true, false, false, false, false, false, false] rfl rfl (by kernel_rfl) (fun _ _ _ h => h) (Or.inl ⟨by rfl, ?_⟩) ?_ ?_
          rotate_left
          · intro w'
            go_simp
            with_reducible rfl
          rotate_left
          · simp only [Act.put, List.setIfInBounds_toArray, List.set_cons_zero, List.set_cons_succ, i64_w, i32_w]
            rfl
          refine pure_ (i := 6) (N := some 52) (v := ?_) (a' := ?_) #[true, true, true, true, true, true, true, false, false, false, false, false] rfl rfl (by kernel_rfl) (fun _ _ _ h => h) (Or.inl ⟨by rfl, ?_⟩) ?_ ?_
          rotate_left
          · intro w'
            go_simp
            with_reducible rfl
          rotate_left
          · simp only [Act.put, List.setIfInBounds_toArray, List.set_cons_zero, List.set_cons_succ, i64_w, i32_w]
            rfl
          refine pure_ (i := 7) (N := some 53) (v := ?_) (a' := ?_) #[true, true, true, true, true, true, true, true, false, false, false, false] rfl rfl (by kernel_rfl) (fun _ _ _ h => h) (Or.inl ⟨by rfl, ?_⟩) ?_ ?_
          rotate_left
          · intro w'
            go_simp
            with_reducible rfl
          rotate_left
          · simp only [Act.put, List.setIfInBounds_toArray, List.set_cons_zero, List.set_cons_succ, i64_w, i32_w]
            rfl
          refine pure_ (i := 8) (N := some 54) (v := ?_) (a' := ?_) #[true, true, true, true, true, true, true, true, true, false, false, false] rfl rfl (by kernel_rfl) (fun _ _ _ h => h) (Or.inl ⟨by rfl, ?_⟩) ?_ ?_
          rotate_left
          · intro w'
            go_simp
            with_reducible rfl
          rotate_left
          · simp only [Act.put, List.setIfInBounds_toArray, List.set_cons_zero, List.set_cons_succ, i64_w, i32_w]
            rfl
          refine pure_ (i := 9) (N := some 11) (v := ?_) (a' := ?_) #[true, true, true, true, true, true, true, true, true, true, false, false] rfl rfl (by kernel_rfl) (fun _ _ _ h => h) (Or.inl ⟨by rfl, ?_⟩) ?_ ?_
          rotate_left
          · intro w'
            go_simp
            with_reducible rfl
          rotate_left
          · simp only [Act.put, List.setIfInBounds_toArray, List.set_cons_zero, List.set_cons_succ, i64_w, i32_w]
            rfl
          refine pure_ (i := 10) (N := some 12) (v := ?_) (a' := ?_) #[true, true, true, true, true, true, true, true, true, true, true, false] rfl rfl (by kernel_rfl) (fun _ _ _ h => h) (Or.inl ⟨by rfl, ?_⟩) ?_ ?_
          rotate_left
          · intro w'
            go_simp
            with_reducible rfl
          rotate_left
          · simp only [Act.put, List.setIfInBounds_toArray, List.set_cons_zero, List.set_cons_succ, i64_w, i32_w]
            rfl
          refine pure_ (i := 11) (N := some 13) (v := ?_) (a' := ?_) #[true, true, true, true, true, true, true, true, true, true, true, true] rfl rfl (by kernel_rfl) (fun _ _ _ h => h) (Or.inl ⟨by rfl, ?_⟩) ?_ ?_
          rotate_left
          · intro w'
            go_simp
            with_reducible rfl
          rotate_left
          · simp only [Act.put, List.setIfInBounds_toArray, List.set_cons_zero, List.set_cons_succ, i64_w, i32_w]
            rfl
          refine done_ (by kernel_rfl) ?_

          have hq : wt.cell? ⟨g9, 1, none⟩ = some v1 := (blk_cell HO.out.x9 1).trans rfl
          go_wp2_with (first | ((with_reducible refine gate_builtin (b := .append) (xs := #[.tmp 56, .tmp 58]) rfl ?_); go_loud (at_builtin; refine Kd.R_append (Kd.int .u64) (w0 := w) w.heap.size rfl (.tmp 56) (.tmp 58) 64 23 (.int .u64 0) 8 rfl Try.underlying64 info23 rfl (by decide) (by omega) v1 ns r1 [.int .u64 r1] (fun _ => True) (fun _ => False) rfl rfl rfl (fun _ hk => hk.elim) (fun _ _ => trivial) HO.out.r1 HO.out.bel (Below.size HO.out.bel) (by have := HNL.out; omega) ?_; intro v3 wu ho hb_ hg hat; clear hb_ hat; have HRW := Aside0.mk ho; have HGR := Aside0.mk hg; clear ho hg; have HX9 := Aside0.mk (HO.out.number_x9 HGR.out))) | ((with_reducible refine gate_ (.store 64 (.tmp 60) (.tmp 59)) rfl ?_); go_loud (refine store_event 64 (.tmp 60) (.tmp 59) rfl rfl rfl (g := g9) (off := 1) #[.int .i64 c, v1, .slice none 0 0] #[.int .i64 c, v3, .slice none 0 0] [v3] rfl rfl (Kd.R_val HRW.out).1 size64 HX9.out (by simp) (by simp [(Kd.R_val HRW.out).2]) rfl ?_; intro wv hbox hs; have HTK_ := Aside0.mk (HO.out.number_t8 HGR.out hs HTK.out); have HIT_ := Aside0.mk (HO.out.number_it HGR.out hs HIT.out); have HO_ := Aside0.mk (HO.out.number (Below.refl _ _) HRW.out HGR.out hbox hs); clear HTK HIT HO; have HTK := HTK_; have HIT := HIT_; have HO := HO_; clear HTK_ HIT_ HO_; clear hbox hs HRW HGR HX9)) | (go_at_call 60; go_loud (obtain ⟨A6_, c6_, h6_, _⟩ := HO.out.x6; with_reducible refine (keepm_calls At r2n ct r3 g6 g7 _ bad _ h6_ HO.out.x7 (ne_tp h6_ HO.out.x7 (by decide))).mono ?_; clear h6_; rintro e ww ⟨rfl, k6, k7, wy, s1, s2⟩; rw [← HR2N.out] at k6; have HIT_ := Aside0.mk (HO.out.kept_it s1 s2 HIT.out); have HO_ := Aside0.mk (HO.out.kept (HR2N.out ▸ HTK.out) k6 k7 s1 s2); clear HIT HO; have HIT := HIT_; have HO := HO_; clear HIT_ HO_; clear k6 k7 s1 s2)))
          go_roundg gk
          case measure => omega
          case rel => exact ⟨i + 1, _, v3, r2, ns ++ [r1], ⟨by have := HKQ.out; omega⟩, ⟨by omega⟩, HO, HIT, HNI2⟩
        · have hiz : i = z.length := by have := HI.out; have := HZL.out; omega
          subst hiz
          have hnx : ∀ ty, (Instr.next (.pointer (some ⟨gi, 0, none⟩)) true ty).run Try.prog wr = .ok (.tuple #[.bool false]) wr := by
            intro ty
            exact Lib.run_next_end_at (P := Try.prog) wr gi sb z.length ty HIT.out (by rw [HSS.out, HZL.out]; omega)
          have hst := HNI.out.stop
          have HNS := Aside0.mk hst
          have HRB0 := Aside0.mk HNI.out.bytes
          have HRS0 := Aside0.mk HNI.out.short
          have HTI := Aside0.mk (TxtInv.start (R0 := rest) (G := ((0 : Int), ([] : List Int), ([] : List ByteArray), (2 : Int)) = (q0, q1, q2, q3)) (bad := bad) HRB0.out HRS0.out (fun e => by
            have h := HH.out
            rw [hst.1 e] at h
            simp only at h
            injection h with h h3
            injection h with h0 h
            injection h with h1 h2
            subst h0 h1 h2 h3
            rfl))
          clear hst
          go_wp2
          clear hnx
          go_loopg [14] (rest.length + 2) (fun kq v14 w' => ∃ (bad2 : Bool) (v2 : Value) (rest2 : List Int) (ts : List ByteArray), Aside0 (rest2.length + 1 ≤ kq) ∧ Aside0 (OfI w w' g1 g2 g4 g6 g7 g9 c (.slice Af fn cf) sb tx bad2 v1 v2 rest2 ns ts) ∧ Aside0 (bad2 = false → bad = false) ∧ Aside0 (TxtInv rest (((0 : Int), ([] : List Int), ([] : List ByteArray), (2 : Int)) = (q0, q1, q2, q3)) bad2 rest2 ts))
          case atStart => exact ⟨bad, _, rest, [], ⟨by omega⟩, HO, ⟨fun e => e⟩, HTI⟩
          case round =>
            clear HO HTI HIT HNI HKQ HI
            obtain ⟨bad2, v2, rest2, ts, HKQ, HO, HBD, HTI⟩ := hrel
            obtain ⟨gk, rfl⟩ : ∃ gk', gk = gk' + 1 := ⟨gk - 1, by have := HKQ.out; omega⟩
            have HBX2 := Aside0.mk HO.out.x2
            have HB := Aside0.mk HO.out.bel
            have HGE2 := Aside0.mk HO.out.ge.1
            cases bad2 with
            | true =>
              have hz7 : wr.cell? ⟨g7, 0, none⟩ = some (.bool true) := (blk_cell HO.out.x7 0).trans rfl
              have hg := HTI.out.g
              injection hg with e0 hg
              injection hg with e1 hg
              injection hg with e2 e3
              subst e0 e1 e2 e3
              go_wp2_with (first | ((with_reducible refine gate_ (.store 67 (.tmp 2) (.tmp 94)) rfl ?_); go_loud (refine store_event 67 (.tmp 2) (.tmp 94) rfl rfl rfl (g := g2) #[.int .i64 0, .slice none 0 0, .slice none 0 0] #[.int .i64 0, .slice none 0 0, .slice none 0 0] [.int .i64 0, .slice none 0 0, .slice none 0 0] rfl rfl rfl size67 HBX2.out (by simp) (by rfl) rfl ?_; intro wz hbox hs; have HB_ := Aside0.mk (hs.below HB.out HGE2.out); clear HB; have HB := HB_; clear HB_; have hz0 : wz.cell? ⟨g2, 0, none⟩ = some (.int .i64 0) := (blk_cell hbox 0).trans rfl; have hz1 : wz.cell? ⟨g2, 1, none⟩ = some (.slice none 0 0) := (blk_cell hbox 1).trans rfl; have hz2 : wz.cell? ⟨g2, 2, none⟩ = some (.slice none 0 0) := (blk_cell hbox 2).trans rfl; clear hbox hs)))
              (try simp only [Exit.inBlock, Exit.then])
              refine bodyPost_ret (v := .tuple #[.agg #[.int .i64 0, .slice none 0 0, .slice none 0 0], .int .i64 2]) ?_ rfl ⟨_, _, rfl, Kd.R_nil _ _ _ _ _, Kd.R_nil _ _ _ _ _, HB.out⟩
              rw [results_cell_tmp rfl]
              go_simp
            | false =>
              have hz7 : wr.cell? ⟨g7, 0, none⟩ = some (.bool false) := (blk_cell HO.out.x7 0).trans rfl
              obtain ⟨Ar, cr, h6, hT8⟩ := HO.out.x6
              obtain ⟨rn, hrn⟩ : ∃ n, rest2.length = n := ⟨_, rfl⟩
              rw [hrn] at h6 hT8
              have hz6 : wr.cell? ⟨g6, 0, none⟩ = some (.slice Ar rn cr) := (blk_cell h6 0).trans rfl
              have hbad := HBD.out rfl
              subst hbad
              by_cases cr0 : rest2 = []
              · subst cr0
                have hrn0 : rn = 0 := by rw [← hrn]; rfl
                subst hrn0
                have hst := HTI.out.stop
                have hns := HNS.out.2 rfl
                have hh := HH.out
                rw [hns.1] at hh
                simp only at hh
                rw [hst] at hh
                simp only at hh
                have HWF := Aside0.mk hns.2
                obtain ⟨A1, c1, e1⟩ := Kd.R_slice HO.out.r1
                obtain ⟨A2, c2, e2⟩ := Kd.R_slice HO.out.r2
                subst e1 e2
                obtain ⟨n1, hn1⟩ : ∃ n, ns.length = n := ⟨_, rfl⟩
                obtain ⟨n2, hn2⟩ : ∃ n, ts.length = n := ⟨_, rfl⟩
                rw [hn1, hn2] at HO
                have HN1 := Aside0.mk hn1
                have HN2 := Aside0.mk hn2
                have hq0 : wr.cell? ⟨g9, 0, none⟩ = some (.int .i64 c) := (blk_cell HO.out.x9 0).trans rfl
                have hq1 : wr.cell? ⟨g9, 1, none⟩ = some (.slice A1 n1 c1) := (blk_cell HO.out.x9 1).trans rfl
                have hq2 : wr.cell? ⟨g9, 2, none⟩ = some (.slice A2 n2 c2) := (blk_cell HO.out.x9 2).trans rfl
                obtain ⟨rr, hrr⟩ : ∃ r, rightS c ns ts = r := ⟨_, rfl⟩
                have HRR := Aside0.mk hrr
                clear hst hns hT8 h6 hn1 hn2 hrn
                cases rr with
                | true =>
                  rw [hrr, if_pos rfl] at hh
                  injection hh with hh e3
                  injection hh with e0 hh
                  injection hh with e1 e2
                  subst e0 e1 e2 e3
                  clear hrr
                  go_wp2_with (first | (go_at_call 40; go_loud (with_reducible refine (Right_calls c A1 n1 c1 ns HN1.out A2 n2 c2 ts HN2.out true _ (R_at HO.out.r1) (Kd.R_reads' HO.out.r1).2.1 (R_at HO.out.r2) (Kd.R_reads' HO.out.r2).2.1 HWF.out HRR.out).mono ?_; rintro e wp ⟨rfl, hb⟩; have HO_ := Aside0.mk (HO.out.below hb); clear HO; have HO := HO_; clear HO_; clear hb; have HBX2 := Aside0.mk HO.out.x2; have HB := Aside0.mk HO.out.bel; have hq0 : wp.cell? ⟨g9, 0, none⟩ = some (.int .i64 c) := (blk_cell HO.out.x9 0).trans rfl; have hq1 : wp.cell? ⟨g9, 1, none⟩ = some (.slice A1 n1 c1) := (blk_cell HO.out.x9 1).trans rfl; have hq2 : wp.cell? ⟨g9, 2, none⟩ = some (.slice A2 n2 c2) := (blk_cell HO.out.x9 2).trans rfl)) | ((with_reducible refine gate_ (.store 67 (.tmp 2) (.tmp 95)) rfl ?_); go_loud (refine store_event 67 (.tmp 2) (.tmp 95) rfl rfl rfl (g := g2) #[.int .i64 0, .slice none 0 0, .slice none 0 0] #[.int .i64 c, .slice A1 n1 c1, .slice A2 n2 c2] [.int .i64 c, .slice A1 n1 c1, .slice A2 n2 c2] rfl rfl rfl size67 HBX2.out (by simp) (by rfl) rfl ?_; intro wz hbox hs; have HB_ := Aside0.mk (hs.below HB.out HGE2.out); clear HB; have HB := HB_; clear HB_; have HQ1 := Aside0.mk (Kd.R_mono (hs.R (Kd.R_types HO.out.r1 HBX2.out (by decide)) (fun k hk => hk.2)) (fun _ _ => trivial)); have HQ2 := Aside0.mk (Kd.R_mono (hs.R (Kd.R_types HO.out.r2 HBX2.out (by decide)) (fun k hk => hk.2)) (fun _ _ => trivial)); have hz0 : wz.cell? ⟨g2, 0, none⟩ = some (.int .i64 c) := (blk_cell hbox 0).trans rfl; have hz1 : wz.cell? ⟨g2, 1, none⟩ = some (.slice A1 n1 c1) := (blk_cell hbox 1).trans rfl; have hz2 : wz.cell? ⟨g2, 2, none⟩ = some (.slice A2 n2 c2) := (blk_cell hbox 2).trans rfl; clear hbox hs)))
                  (try simp only [Exit.inBlock, Exit.then])
                  refine bodyPost_ret (v := .tuple #[.agg #[.int .i64 c, .slice A1 n1 c1, .slice A2 n2 c2], .int .i64 0]) ?_ rfl ⟨_, _, rfl, HQ1.out, HQ2.out, HB.out⟩
                  rw [results_cell_tmp rfl]
                  go_simp
                | false =>
                  rw [hrr, if_neg (by simp)] at hh
                  injection hh with hh e3
                  injection hh with e0 hh
                  injection hh with e1 e2
                  subst e0 e1 e2 e3
                  clear hrr
                  go_wp2_with (first | (go_at_call 40; go_loud (with_reducible refine (Right_calls c A1 n1 c1 ns HN1.out A2 n2 c2 ts HN2.out false _ (R_at HO.out.r1) (Kd.R_reads' HO.out.r1).2.1 (R_at HO.out.r2) (Kd.R_reads' HO.out.r2).2.1 HWF.out HRR.out).mono ?_; rintro e wp ⟨rfl, hb⟩; have HO_ := Aside0.mk (HO.out.below hb); clear HO; have HO := HO_; clear HO_; clear hb; have HBX2 := Aside0.mk HO.out.x2; have HB := Aside0.mk HO.out.bel; have hq0 : wp.cell? ⟨g9, 0, none⟩ = some (.int .i64 c) := (blk_cell HO.out.x9 0).trans rfl; have hq1 : wp.cell? ⟨g9, 1, none⟩ = some (.slice A1 n1 c1) := (blk_cell HO.out.x9 1).trans rfl; have hq2 : wp.cell? ⟨g9, 2, none⟩ = some (.slice A2 n2 c2) := (blk_cell HO.out.x9 2).trans rfl)) | ((with_reducible refine gate_ (.store 67 (.tmp 2) (.tmp 94)) rfl ?_); go_loud (refine store_event 67 (.tmp 2) (.tmp 94) rfl rfl rfl (g := g2) #[.int .i64 0, .slice none 0 0, .slice none 0 0] #[.int .i64 0, .slice none 0 0, .slice none 0 0] [.int .i64 0, .slice none 0 0, .slice none 0 0] rfl rfl rfl size67 HBX2.out (by simp) (by rfl) rfl ?_; intro wz hbox hs; have HB_ := Aside0.mk (hs.below HB.out HGE2.out); clear HB; have HB := HB_; clear HB_; have hz0 : wz.cell? ⟨g2, 0, none⟩ = some (.int .i64 0) := (blk_cell hbox 0).trans rfl; have hz1 : wz.cell? ⟨g2, 1, none⟩ = some (.slice none 0 0) := (blk_cell hbox 1).trans rfl; have hz2 : wz.cell? ⟨g2, 2, none⟩ = some (.slice none 0 0) := (blk_cell hbox 2).trans rfl; clear hbox hs)))
                  (try simp only [Exit.inBlock, Exit.then])
                  refine bodyPost_ret (v := .tuple #[.agg #[.int .i64 0, .slice none 0 0, .slice none 0 0], .int .i64 2]) ?_ rfl ⟨_, _, rfl, Kd.R_nil _ _ _ _ _, Kd.R_nil _ _ _ _ _, HB.out⟩
                  rw [results_cell_tmp rfl]
                  go_simp
              · have b0 : decide (0 < (rn : Int)) = true := decide_eq_true (by have := List.length_pos_iff.2 cr0; omega)
                have b0' : decide (0 < rn) = true := decide_eq_true (by have := List.length_pos_iff.2 cr0; omega)
                have b0n : 0 < rn := by have := List.length_pos_iff.2 cr0; omega
                obtain ⟨⟨t, r2, r3⟩, htx⟩ : ∃ r, text1S rest2 = r := ⟨_, rfl⟩
                have hstep := HTI.out.step (fun e => by
                  have hns := HNS.out.2 rfl
                  have hh := HH.out
                  rw [hns.1] at hh
                  simp only at hh
                  rw [e] at hh
                  simp only at hh
                  injection hh with hh e3
                  injection hh with e0 hh
                  injection hh with e1 e2
                  subst e0 e1 e2 e3
                  rfl) cr0 htx
                have HTI2 := Aside0.mk hstep.1
                have HLT := Aside0.mk hstep.2
                have HTX := Aside0.mk htx
                have HT8 := Aside0.mk hT8
                have HRN := Aside0.mk hrn
                have HRB := Aside0.mk HTI.out.bytes
                have HRL := Aside0.mk (show rn ≤ 1000000 by have := HTI.out.short; omega)
                have HTL := Aside0.mk (show ts.length ≤ 301 by have := HTI.out.sum; omega)
                obtain ⟨r2n, hr2⟩ : ∃ n, r2.length = n := ⟨_, rfl⟩
                have HR2N := Aside0.mk hr2
                clear hstep htx hrn h6 hT8 hr2 cr0 HB HBX2
                go_wp2_with (first | (go_at_call 21; go_loud (with_reducible refine (TakeText_calls Ar rn cr rest2 HRN.out t r2 r3 _ (HT8.out).at_.2.2 (HT8.out).at_.2.1 HRB.out HRL.out HTX.out).mono ?_; rintro e wt ⟨v, rfl, hT, hb⟩; obtain ⟨At, ct, rfl⟩ := hT.slice; rw [HR2N.out] at hT ⊢; have HTK := Aside0.mk (TB.of_T8 (w := w) hT); have HO_ := Aside0.mk (HO.out.below hb); clear HO; have HO := HO_; clear HO_; clear hb hT HT8; have hq : wt.cell? ⟨g9, 2, none⟩ = some v2 := (blk_cell HO.out.x9 2).trans rfl)) | ((with_reducible refine gate_builtin (b := .append) (xs := #[.tmp 79, .tmp 81]) rfl ?_); go_loud (at_builtin; refine Kd.R_append Kd.string (w0 := w) w.heap.size rfl (.tmp 79) (.tmp 81) 65 9 (.string ByteArray.empty) 16 rfl Try.underlying65 info9 rfl (by decide) (by omega) v2 ts t [.string t] (fun _ => True) (fun _ => False) rfl rfl rfl (fun _ hk => hk.elim) (fun _ _ => trivial) HO.out.r2 HO.out.bel (Below.size HO.out.bel) (by have := HTL.out; omega) ?_; intro v3 wu ho hb_ hg hat; clear hb_ hat; have HRW := Aside0.mk ho; have HGR := Aside0.mk hg; clear ho hg; have HX9 := Aside0.mk (HO.out.text_x9 HGR.out))) | ((with_reducible refine gate_ (.store 65 (.tmp 83) (.tmp 82)) rfl ?_); go_loud (refine store_event 65 (.tmp 83) (.tmp 82) rfl rfl rfl (g := g9) (off := 2) #[.int .i64 c, v1, v2] #[.int .i64 c, v1, v3] [v3] rfl rfl (Kd.R_val HRW.out).1 size65 HX9.out (by simp) (by simp [(Kd.R_val HRW.out).2]) rfl ?_; intro wv hbox hs; have HTK_ := Aside0.mk (HO.out.text_t8 HGR.out hs HTK.out); have HO_ := Aside0.mk (HO.out.text (Below.refl _ _) HRW.out HGR.out hbox hs); clear HTK HO; have HTK := HTK_; have HO := HO_; clear HTK_ HO_; clear hbox hs HRW HGR HX9)) | (go_at_call 60; go_loud (obtain ⟨A6_, c6_, h6_, _⟩ := HO.out.x6; with_reducible refine (keepm_calls At r2n ct r3 g6 g7 _ false _ h6_ HO.out.x7 (ne_tp h6_ HO.out.x7 (by decide))).mono ?_; clear h6_; rintro e ww ⟨rfl, k6, k7, wy, s1, s2⟩; rw [← HR2N.out] at k6; have HO_ := Aside0.mk (HO.out.kept (HR2N.out ▸ HTK.out) k6 k7 s1 s2); clear HO; have HO := HO_; clear HO_; clear k6 k7 s1 s2)))
                go_roundg gk
                case measure => omega
                case rel => exact ⟨_, v3, r2, ts ++ [t], ⟨by have := HKQ.out; have := HLT.out; omega⟩, HO, ⟨fun _ => by trivial⟩, HTI2⟩
end Go.Proofs.Ytagmefjpnmjcjab.Mh
