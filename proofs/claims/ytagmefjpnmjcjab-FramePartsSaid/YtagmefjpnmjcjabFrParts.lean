/- FrameParts, walked by hand. -/
import Derived.Test.YtagmefjpnmjcjabFrRows
namespace Go.Proofs.Ytagmefjpnmjcjab.Fh
open Go.RowKit Go.Proofs.YtagmefjpnmjcjabW.PrintWords Go.Proofs.YtagmefjpnmjcjabW.PrintLast Go.Proofs.YtagmefjpnmjcjabW.PrintMore
open Go.Proofs.Ytagmefjpnmjcjab.Fr
open Go.Proofs.Ytagmefjpnmjcjab.FrNum (readS read_eq Bytes)
attribute [local go_sem] max2_int min2_int max_two min_two
set_option linter.unusedVariables false
set_option linter.unusedSimpArgs false
attribute [local irreducible] IsD T8 Near TV TN

set_option maxHeartbeats 8000000 in
set_option maxRecDepth 100000 in
theorem FrameParts_calls (A0 : Option Addr) (c0 : Nat) (b : List Int) (A1 : Option Addr) (c1 : Nat) (cuts : List Int) (w : World) (hr0 : Kd.C (Kd.int .u8) w A0 b.length b) (hc0 : b.length ≤ c0) (hr1 : Kd.C (Kd.int .i64) w A1 cuts.length cuts) (hc1 : cuts.length ≤ c1) (hwf0 : ∀ x ∈ b, (Lit.int .u8 x).wf = true) (hwf1 : ∀ x ∈ cuts, (Lit.int .i64 x).wf = true) :
    Calls Try.prog 9 #[.slice A0 b.length c0, .slice A1 cuts.length c1] w fun e w' => e = .returned (.bool true) ∧ Below w.heap.size w w' := by
  have HB := Aside0.mk (Below.refl w.heap.size w)
  obtain ⟨n0, hn0⟩ : ∃ n, b.length = n := ⟨_, rfl⟩
  obtain ⟨n1, hn1⟩ : ∃ n, cuts.length = n := ⟨_, rfl⟩
  rw [hn0] at hr0 hc0 ⊢
  rw [hn1] at hr1 hc1 ⊢
  have HN0 := Aside0.mk hn0
  have HL1 := Aside0.mk hn1
  have HX := Aside0.mk hr0
  have HXC := Aside0.mk hc0
  have HU := Aside0.mk hr1
  have HBY := Aside0.mk (bytes_of_wf hwf0)
  have HXB := Aside0.mk (show Bytes ([] ++ b) from bytes_of_wf hwf0)
  clear hr0 hc0 hr1 hc1 hwf0 hwf1 hn0
  by_cases cl : n0 > 2000
  · have b0 : decide (2000 < (n0 : Int)) = true := decide_eq_true (by omega)
    go_enter Try.func9, Try.ntmps9
    go_wp2_with (first | (go_at_call 25; with_reducible refine (awake_calls _).mono ?_; rintro e w' ⟨rfl, hb⟩; have HB_ := Aside0.mk (below_step HB.out hb); clear HB; have HB := HB_; clear HB_; clear hb))
    go_ret
    exact ⟨rfl, HB.out⟩
  have b0 : decide (2000 < (n0 : Int)) = false := decide_eq_false (by omega)
  by_cases cm : n1 > 40
  · have b1 : decide (40 < (n1 : Int)) = true := decide_eq_true (by omega)
    go_enter Try.func9, Try.ntmps9
    go_wp2_with (first | (go_at_call 25; with_reducible refine (awake_calls _).mono ?_; rintro e w' ⟨rfl, hb⟩; have HB_ := Aside0.mk (below_step HB.out hb); clear HB; have HB := HB_; clear HB_; clear hb))
    go_ret
    exact ⟨rfl, HB.out⟩
  have b1 : decide (40 < (n1 : Int)) = false := decide_eq_false (by omega)
  have HM0 := Aside0.mk (show n0 ≤ 2000 by omega)
  have HN1 := Aside0.mk (show n1 ≤ 40 by omega)
  have HXL := Aside0.mk (show ([] : List Int).length + n0 ≤ 1000000 by simp; omega)
  obtain ⟨⟨o, b2, e2⟩, hfs⟩ : ∃ r, framesS ([] ++ b) = r := ⟨_, rfl⟩
  have HFS := Aside0.mk hfs
  have hfl := frames_len HXB.out hfs
  obtain ⟨on, hon⟩ : ∃ n, o.length = n := ⟨_, rfl⟩
  have HON := Aside0.mk hon
  have HOL2 := Aside0.mk (show on ≤ 1000000 by have := HN0.out; have := HM0.out; simp only [List.nil_append] at hfl; omega)
  have HBD := Aside0.mk (show ∀ f ∈ o.map to41, f.f1.length ≤ 1000000 from fun f hf => by obtain ⟨q, hq, rfl⟩ := List.mem_map.1 hf; have := (hfl.2.2.2 q hq).2; show q.f1.length ≤ _; omega)
  clear hfs hfl hon cl cm
  go_enter Try.func9, Try.ntmps9
  go_wp2_with (first | (go_at_call 25; with_reducible refine (awake_calls _).mono ?_; rintro e w' ⟨rfl, hb⟩; have HB_ := Aside0.mk (below_step HB.out hb); clear HB; have HB := HB_; clear HB_; clear hb) | (go_at_call 33; with_reducible refine (New_calls _).mono ?_; rintro e wc ⟨gc, rfl, hI, hg, hb⟩; have HGG := Aside0.mk (show gd < gc from Nat.lt_of_lt_of_le HD.out.lt hg); have HGC := Aside0.mk (Nat.le_trans HB.out.size hg); have HC := Aside0.mk hI; have HD_ := Aside0.mk (HD.out.below hb); have HB_ := Aside0.mk (below_step HB.out hb); clear HD HB; have HD := HD_; have HB := HB_; clear HD_ HB_; clear hI hg hb) | (go_at_call 33; with_reducible refine (New_calls _).mono ?_; rintro e wd ⟨gd, rfl, hI, hg, hb⟩; have HD := Aside0.mk hI; have HGD := Aside0.mk (Nat.le_trans HB.out.size hg); have HB_ := Aside0.mk (below_step HB.out hb); clear HB; have HB := HB_; clear HB_; clear hI hg hb) | (go_at_call 34; with_reducible refine (Feed_calls gd [] b A0 n0 c0 HN0.out o b2 e2 _ HD.out (Kd.C_below HX.out HB.out) HXC.out HXB.out HXL.out HFS.out).mono ?_; rintro e w1 ⟨vo, rfl, ho, hI, hn⟩; obtain ⟨Aa, ca, rfl⟩ := Kd.R_slice ho; rw [HON.out]; have HT := Aside0.mk (HON.out ▸ TV.of_R ho HC.out.lt); have HC_ := Aside0.mk (HC.out.near (Nat.ne_of_gt HGG.out) HD.out.typed hn); have HB_ := Aside0.mk (hn.bel HGD.out HB.out); have HD_ := Aside0.mk (hI); clear HC HB HD; have HC := HC_; have HB := HB_; have HD := HD_; clear HC_ HB_ HD_; clear ho hI hn) | ((with_reducible refine gate_dst (N := 35) rfl ?_); refine Kd.R_lit (Kd.int .i64) _ 3 ?hg (N := 35) ?hd (xs := ([] : List Int)) (inner := []) (ok := fun _ => True) (okp := fun _ => True) ?hr ?hp (fun _ hk => hk) trivial (Below.refl _ _) (Nat.le_refl _) (by simp) ?_; (case hd => rfl); (case hg => rfl); (case hr => first | (go_simp; done) | (go_simp; rfl)); (case hp => exact (Reps.none _ _)); intro vz wz ho hb hg_ hnew_; clear hg_ hnew_; have HR := Aside0.mk ho; have HBZ := Aside0.mk hb; clear ho hb) | ((with_reducible refine gate_builtin (b := .append) (xs := #[.tmp 35, .tmp 36]) rfl ?_); at_builtin; refine Kd.R_append_row (Value.int .i64) 0 _ rfl (.tmp 35) (.tmp 36) 61 3 (.int .i64 0) 8 rfl Try.underlying61 info3i rfl (by omega) vz [] cuts A1 n1 c1 (fun _ => True) rfl rfl (fun _ _ => trivial) HR.out (Kd.C_below (Kd.C_below HU.out HB.out) HBZ.out) HBZ.out HBZ.out.size (by have := HN1.out; simp only [List.length_nil]; omega) ?_; intro vy wy ho hb hg hat; clear HR HBZ hg hat; have HR := Aside0.mk ho; have HBZ := Aside0.mk hb; clear ho hb; rw [List.nil_append] at HR) | ((with_reducible refine gate_builtin (b := .append) (xs := #[.tmp 37, .tmp 40]) rfl ?_); at_builtin; refine Kd.R_append (Kd.int .i64) _ rfl (.tmp 37) (.tmp 40) 61 3 (.int .i64 0) 8 rfl Try.underlying61 info3i rfl (by decide) (by omega) vy cuts (n0 : Int) [.int .i64 (n0 : Int)] (fun _ => True) (fun _ => False) rfl rfl rfl (fun _ hk => hk.elim) (fun _ _ => trivial) HR.out HBZ.out HBZ.out.size (by have := HN1.out; have := HL1.out; omega) ?_; intro vx wx ho hb hg hat; clear HR HBZ hg hat; have HR := Aside0.mk ho; have HBZ := Aside0.mk hb; clear ho hb; obtain ⟨Ac, cc, rfl⟩ := Kd.R_slice HR.out; have HCU := Aside0.mk (TV.of_R HR.out (HC.out.lt)); have HC_ := Aside0.mk (HC.out.below HBZ.out); have HD_ := Aside0.mk (HD.out.below HBZ.out); have HT_ := Aside0.mk ((HT.out.below HBZ.out).wide HBZ.out.size); have HB_ := Aside0.mk (below_step HB.out HBZ.out); clear HC HD HT HB; have HC := HC_; have HD := HD_; have HT := HT_; have HB := HB_; clear HC_ HD_ HT_ HB_; clear HR HBZ))
  have HWN := Aside0.mk HB.out.size
  have HNW := Aside0.mk (Nat.le_refl wx.heap.size)
  have HGN := Aside0.mk HC.out.lt
  have HO := Aside0.mk (TN.nil gc wx.heap.size wx)
  obtain ⟨N1, hN1⟩ : ∃ n, wx.heap.size = n := ⟨_, rfl⟩
  simp only [List.length_append, List.length_singleton, HL1.out] at HCU
  rw [hN1] at HWN HNW HGN HO HT HCU
  have HNW_ := Aside0.mk (show N1 ≤ wx.heap.size by rw [hN1]; exact Nat.le_refl _)
  clear HNW hN1
  have HNW := HNW_
  clear HNW_
  have HL3 := Aside0.mk (show (cuts ++ [(n0 : Int)]).length = n1 + 1 by simp [HL1.out])
  have HFS0 := Aside0.mk (show framesS (b.take n0) = (o, b2, e2) by have h := HFS.out; rw [List.nil_append] at h; rw [List.take_of_length_le (by rw [HN0.out]; exact Nat.le_refl _)]; exact h)
  go_loopg [9, 10, 11, 43] (n1 + 2) (fun kq v9 v10 v11 v43 w' => ∃ (i m : Nat) (fe : Int) (kp : List Int) (oo : List S38), v10 = .int .i64 fe ∧ v11 = .int .i64 (m : Int) ∧ v43 = .int .i64 (i : Int) ∧ Aside0 (kq + i = n1 + 2) ∧ Aside0 (i ≤ n1 + 1) ∧ Aside0 (m ≤ n0) ∧ Aside0 (i = n1 + 1 → m = n0) ∧ Aside0 (framesS (b.take m) = (oo, kp, fe)) ∧ Aside0 (TN gc N1 w' v9 oo) ∧ Aside0 (TV k38 gc N1 w' (.slice Aa on ca) o) ∧ Aside0 (TV (Kd.int .i64) gc N1 w' (.slice Ac (n1 + 1) cc) (cuts ++ [(n0 : Int)])) ∧ Aside0 (IsD w' gd b2 e2) ∧ Aside0 (IsD w' gc kp fe) ∧ Aside0 (N1 ≤ w'.heap.size) ∧ Aside0 (Below w.heap.size w w'))
  case atStart => exact ⟨0, 0, 0, [], [], rfl, rfl, rfl, ⟨by omega⟩, ⟨by omega⟩, ⟨by omega⟩, ⟨by omega⟩, ⟨rfl⟩, HO, HT, HCU, HD, HC, HNW, HB⟩
  case round =>
    clear HO HT HCU HD HC HNW HB
    obtain ⟨i, m, fe, kp, oo, rfl, rfl, rfl, HKQ, HI, HM, HE, HFM, HO, HT, HCU, HD, HC, HNW, HB⟩ := hrel
    obtain ⟨gk, rfl⟩ : ∃ gk', gk = gk' + 1 := ⟨gk - 1, by have := HKQ.out; have := HI.out; omega⟩
    by_cases ci : i < n1 + 1
    · have cb : decide ((i : Int) < ((n1 + 1 : Nat) : Int)) = true := decide_eq_true (by omega)
      have cb2 : decide ((i : Int) < (n1 : Int) + 1) = true := decide_eq_true (by omega)
      have p1 : 0 ≤ (i : Int) := by omega
      have p2 : (i : Int) < ((n1 + 1 : Nat) : Int) := by omega
      have p3 : (i : Int) < (n1 : Int) + 1 := by omega
      have hwi : wrap64 ((i : Int) + 1) = ((i + 1 : Nat) : Int) := by have := HN1.out; unfold wrap64; omega
      obtain ⟨ad, e7, hy⟩ := Kd.at_int (HCU.out.at_) (i : Int) p1 p2
      cases e7
      simp only [Int.toNat_natCast] at hy
      obtain ⟨q, hq⟩ : ∃ q, rd (cuts ++ [(n0 : Int)]) (i : Int) = q := ⟨_, rfl⟩
      rw [hq] at hy
      have HQL := Aside0.mk (show i = n1 → q = n0 from fun e => by subst e; rw [← hq]; unfold rd; rw [Int.toNat_natCast, List.getD_eq_getElem?_getD, List.getElem?_append_right (by rw [HL1.out]; exact Nat.le_refl _), HL1.out]; simp)
      clear hq
      obtain ⟨M, hM⟩ : ∃ M, (if q < (m : Int) then (m : Int) else q) = M := ⟨_, rfl⟩
      have hM1 : (m : Int) ≤ M ∧ q ≤ M ∧ (M = m ∨ M = q) := by rw [← hM]; split <;> omega
      obtain ⟨T, hT⟩ : ∃ T, (if (n0 : Int) < M then (n0 : Int) else M) = T := ⟨_, rfl⟩
      have hT1 : (m : Int) ≤ T ∧ T ≤ n0 ∧ (T = n0 ∨ T = M) := by have := HM.out; rw [← hT]; split <;> omega
      obtain ⟨t, rfl⟩ := Int.eq_ofNat_of_zero_le (show 0 ≤ T by omega)
      have HMT := Aside0.mk (show m ≤ t ∧ t ≤ n0 by omega)
      have HTE := Aside0.mk (show i + 1 = n1 + 1 → t = n0 from fun e => by have := HQL.out (by omega); have := HM.out; omega)
      clear hM1 hT1
      have hm0 : (0 : Int) ≤ (m : Int) := by omega
      have hmt : (m : Int) ≤ (t : Int) := by have := HMT.out; omega
      have htn : (t : Int) ≤ (n0 : Int) := by have := HMT.out; omega
      obtain ⟨i0, hi0, _, hsz0, _⟩ := info_parts info5
      have hcut := cut_mid (P := Try.prog) 22 5 .i64 .i64 Try.underlying22 hi0 1 hsz0 A0 n0 c0 (m : Int) (t : Int) hm0 hmt htn HXC.out
      have HX5 := Kd.C_below (C_cut HX.out HN0.out HXC.out HMT.out.1 HMT.out.2) HB.out
      simp only [Int.toNat_natCast] at hcut
      obtain ⟨A5, hA5⟩ : ∃ A5, A5 = (if c0 = m then A0 else A0.map (·.add (m * 1))) := ⟨_, rfl⟩
      rw [← hA5] at hcut HX5
      have HX5 := Aside0.mk HX5
      clear hA5 hi0 hsz0
      obtain ⟨x, hx⟩ : ∃ x, (b.take t).drop m = x := ⟨_, rfl⟩
      have hsp : b.take t = b.take m ++ x := by
        have h := List.take_append_drop m (b.take t)
        rw [List.take_take, Nat.min_eq_left HMT.out.1, hx] at h
        exact h.symm
      have HXN := Aside0.mk (show x.length = t - m by rw [← hx, List.length_drop, List.length_take]; have := HMT.out; have := HN0.out; omega)
      rw [hx] at HX5
      have HXC5 := Aside0.mk (show t - m ≤ c0 - m by have := HXC.out; have := HMT.out; omega)
      have hbt : Bytes (b.take m) := bt_take HBY.out m
      have hbt2 : Bytes (b.take m ++ x) := by rw [← hsp]; exact bt_take HBY.out t
      have hkp := frames_len hbt HFM.out
      have HXB5 := Aside0.mk (show Bytes (kp ++ x) from bt_append hkp.2.2.1 (bt_right hbt2))
      have HXL5 := Aside0.mk (show kp.length + (t - m) ≤ 1000000 by have h := hkp.2.1; rw [List.length_take] at h; have := HM0.out; have := HM.out; have := HMT.out; omega)
      have hmore := framesS_more hbt2
      rw [← hsp, HFM.out] at hmore
      have HOL := Aside0.mk (show oo.length ≤ 2000 by have h := hkp.1; rw [List.length_take] at h; have := HM0.out; have := HM.out; omega)
      by_cases ce : fe = 0
      · subst ce
        obtain ⟨⟨o3, b3, e3⟩, hfs3⟩ : ∃ r, framesS (kp ++ x) = r := ⟨_, rfl⟩
        rw [if_pos rfl, hfs3] at hmore
        have HFS3 := Aside0.mk hfs3
        have HMO := Aside0.mk hmore
        obtain ⟨on3, ho3⟩ : ∃ n, o3.length = n := ⟨_, rfl⟩
        have HO3 := Aside0.mk ho3
        have HO4 := Aside0.mk (show on3 ≤ 4000 by have h := (frames_len HXB5.out hfs3).1; rw [List.length_append, HXN.out] at h; have h2 := hkp.2.1; rw [List.length_take] at h2; have := HM0.out; have := HMT.out; omega)
        clear hfs3 hmore ho3 hkp hbt hbt2 hsp hx
        go_wp2_with (first | (go_at_call 34; with_reducible refine (Feed_calls gc kp x A5 (t - m) (c0 - m) HXN.out o3 b3 e3 _ HC.out HX5.out HXC5.out HXB5.out HXL5.out HFS3.out).mono ?_; rintro e wf ⟨vo, rfl, ho, hI, hn⟩; obtain ⟨Ao, co, rfl⟩ := Kd.R_slice ho; rw [HO3.out]; have HL3 := Aside0.mk (HO3.out ▸ TN.fresh ho HO.out HC.out.lt); have HO_ := Aside0.mk (HO.out.near hn); have HT_ := Aside0.mk (HT.out.near hn); have HCU_ := Aside0.mk (HCU.out.near hn); have HNW_ := Aside0.mk (Nat.le_trans HNW.out hn.size_); have HD_ := Aside0.mk (HD.out.near (Nat.ne_of_lt HGG.out) HC.out.typed hn); have HB_ := Aside0.mk (hn.bel HGC.out HB.out); have HC_ := Aside0.mk (hI); clear HO HT HCU HNW HD HB HC; have HO := HO_; have HT := HT_; have HCU := HCU_; have HNW := HNW_; have HD := HD_; have HB := HB_; have HC := HC_; clear HO_ HT_ HCU_ HNW_ HD_ HB_ HC_; clear ho hI hn) | ((with_reducible refine gate_builtin (b := .append) (xs := #[.tmp 74, .tmp 75]) rfl ?_); at_builtin; refine TN.append_rows rfl (.tmp 74) (.tmp 75) rfl rfl rfl HO.out (HL3.out) HNW.out HGN.out (by have := HOL.out; have := HO4.out; omega) ?_; intro v9 w9 ho hg hr; have HT_ := Aside0.mk (HT.out.grown hg hr); have HCU_ := Aside0.mk (HCU.out.grown hg hr); have HD_ := Aside0.mk (HD.out.grown hg (HO.out.typed) (by decide) (by decide)); have HC_ := Aside0.mk (HC.out.grown hg (HO.out.typed) (by decide) (by decide)); have HNW_ := Aside0.mk (Nat.le_trans HNW.out hg.size); have HB_ := Aside0.mk (HB.out.grown hg HB.out.size (fun k hk => Nat.le_trans HWN.out (hr k hk))); clear HT HCU HD HC HNW HB; have HT := HT_; have HCU := HCU_; have HD := HD_; have HC := HC_; have HNW := HNW_; have HB := HB_; clear HT_ HCU_ HD_ HC_ HNW_ HB_; clear hg hr; have HO_ := Aside0.mk ho; clear ho HO; have HO := HO_; clear HO_))
        go_roundg gk
        case measure => omega
        case rel => exact ⟨i + 1, t, e3, b3, oo ++ o3, rfl, rfl, congrArg (Value.int .i64) (by omega), ⟨by have := HKQ.out; omega⟩, ⟨by omega⟩, ⟨HMT.out.2⟩, HTE, HMO, HO, HT, HCU, HD, HC, HNW, HB⟩
      · rw [if_neg ce] at hmore
        have HMO := Aside0.mk hmore
        have hz0 : (fe != 0) = true := bne_iff_ne.mpr ce
        have hz1 : (fe != fe) = false := by simp
        have HEN := Aside0.mk ce
        have HO4 := Aside0.mk (Nat.zero_le 4000)
        clear hmore hkp hbt hbt2 hsp hx ce
        go_wp2_with (first | (go_at_call 34; with_reducible refine (Feed_ended gc kp fe A5 (t - m) (c0 - m) _ HC.out HEN.out).mono ?_; rintro e wf ⟨rfl, hb⟩; have HO_ := Aside0.mk (HO.out.below hb); have HT_ := Aside0.mk (HT.out.below hb); have HCU_ := Aside0.mk (HCU.out.below hb); have HD_ := Aside0.mk (HD.out.below hb); have HC_ := Aside0.mk (HC.out.below hb); have HNW_ := Aside0.mk (Nat.le_trans HNW.out hb.size); have HB_ := Aside0.mk (below_step HB.out hb); clear HO HT HCU HD HC HNW HB; have HO := HO_; have HT := HT_; have HCU := HCU_; have HD := HD_; have HC := HC_; have HNW := HNW_; have HB := HB_; clear HO_ HT_ HCU_ HD_ HC_ HNW_ HB_; clear hb) | ((with_reducible refine gate_builtin (b := .append) (xs := #[.tmp 74, .tmp 75]) rfl ?_); at_builtin; refine TN.append_rows rfl (.tmp 74) (.tmp 75) rfl rfl rfl HO.out (TN.none _ _ _) HNW.out HGN.out (by have := HOL.out; have := HO4.out; omega) ?_; intro v9 w9 ho hg hr; have HT_ := Aside0.mk (HT.out.grown hg hr); have HCU_ := Aside0.mk (HCU.out.grown hg hr); have HD_ := Aside0.mk (HD.out.grown hg (HO.out.typed) (by decide) (by decide)); have HC_ := Aside0.mk (HC.out.grown hg (HO.out.typed) (by decide) (by decide)); have HNW_ := Aside0.mk (Nat.le_trans HNW.out hg.size); have HB_ := Aside0.mk (HB.out.grown hg HB.out.size (fun k hk => Nat.le_trans HWN.out (hr k hk))); clear HT HCU HD HC HNW HB; have HT := HT_; have HCU := HCU_; have HD := HD_; have HC := HC_; have HNW := HNW_; have HB := HB_; clear HT_ HCU_ HD_ HC_ HNW_ HB_; clear hg hr; have HO_ := Aside0.mk ho; clear ho HO; have HO := HO_; clear HO_))
        go_roundg gk
        case measure => omega
        case rel => exact ⟨i + 1, t, fe, kp, oo, rfl, rfl, congrArg (Value.int .i64) (by omega), ⟨by have := HKQ.out; omega⟩, ⟨by omega⟩, ⟨HMT.out.2⟩, HTE, HMO, ⟨List.append_nil oo ▸ HO.out⟩, HT, HCU, HD, HC, HNW, HB⟩
    · have cb : decide ((i : Int) < ((n1 + 1 : Nat) : Int)) = false := decide_eq_false (by omega)
      have cb2 : decide ((i : Int) < (n1 : Int) + 1) = false := decide_eq_false (by omega)
      have hmn : m = n0 := HE.out (by have := HI.out; omega)
      subst hmn
      have hf := HFM.out
      rw [HFS0.out] at hf
      injection hf with hf1 hf2
      injection hf2 with hf2 hf3
      subst hf1 hf2 hf3
      have hz1 : (e2 == e2) = true := by simp
      have hz2 : ((b2.length : Int) == (b2.length : Int)) = true := by simp
      obtain ⟨Az, cz, ez⟩ := HO.out.slice
      subst ez
      rw [HON.out] at HO ⊢
      go_wp2_with (first | (go_at_call 31; go_loud (with_reducible refine (Frames_calls _ Az on cz o HON.out _ HO.out.vv HOL2.out).mono ?_; rintro e w' ⟨Ap, cp, rfl, hcp, hp, hb⟩; have HP := Aside0.mk hp; have HPC := Aside0.mk hcp; have HD_ := Aside0.mk (HD.out.below hb); have HC_ := Aside0.mk (HC.out.below hb); have HB_ := Aside0.mk (below_step HB.out hb); have HT_ := Aside0.mk (HT.out.below hb); clear HD HC HB HT; have HD := HD_; have HC := HC_; have HB := HB_; have HT := HT_; clear HD_ HC_ HB_ HT_; clear hp hcp hb)) | (go_at_call 31; with_reducible refine (Frames_calls _ Aa on ca o HON.out _ HT.out.vv HOL2.out).mono ?_; rintro e w' ⟨Aq, cq, rfl, hcp, hp, hb⟩; have HQ := Aside0.mk hp; have HQC := Aside0.mk hcp; have HD_ := Aside0.mk (HD.out.below hb); have HC_ := Aside0.mk (HC.out.below hb); have HB_ := Aside0.mk (below_step HB.out hb); have HP_ := Aside0.mk (Kd.C_below HP.out hb); clear HD HC HB HP; have HD := HD_; have HC := HC_; have HB := HB_; have HP := HP_; clear HD_ HC_ HB_ HP_; clear hp hcp hb) | (go_at_call 30; with_reducible refine (Same41_calls Ap on cp (o.map to41) (by rw [List.length_map]; exact HON.out) Aq on cq (o.map to41) (by rw [List.length_map]; exact HON.out) true _ HP.out HPC.out HQ.out HQC.out HOL2.out HBD.out (decide_eq_true rfl)).mono ?_; rintro e w' ⟨rfl, hb⟩; have HD_ := Aside0.mk (HD.out.below hb); have HC_ := Aside0.mk (HC.out.below hb); have HB_ := Aside0.mk (below_step HB.out hb); clear HD HC HB; have HD := HD_; have HC := HC_; have HB := HB_; clear HD_ HC_ HB_; clear hb HP HQ) | (go_at_call 36; with_reducible refine (Pending_calls gc b2 e2 b2.length rfl _ HC.out).mono ?_; rintro e w' ⟨rfl, rfl⟩) | (go_at_call 36; with_reducible refine (Pending_calls gd b2 e2 b2.length rfl _ HD.out).mono ?_; rintro e w' ⟨rfl, rfl⟩))
      go_ret
      exact ⟨rfl, HB.out⟩
end Go.Proofs.Ytagmefjpnmjcjab.Fh
