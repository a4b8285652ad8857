/- FrameFeeds, walked by hand. -/
import Derived.Test.YtagmefjpnmjcjabFrLaw0
namespace Go.Proofs.Ytagmefjpnmjcjab.Fh
open Go.RowKit Go.Proofs.YtagmefjpnmjcjabW.PrintWords Go.Proofs.YtagmefjpnmjcjabW.PrintLast Go.Proofs.YtagmefjpnmjcjabW.PrintMore
open Go.Proofs.Ytagmefjpnmjcjab.Fr
open Go.Proofs.Ytagmefjpnmjcjab.FrNum (readS read_eq Bytes)
attribute [local go_sem] max2_int min2_int max_two min_two
set_option linter.unusedVariables false
set_option linter.unusedSimpArgs false
theorem bytes_of_wf {l : List Int} (h : ∀ x ∈ l, (Lit.int .u8 x).wf = true) : Bytes l := fun x hx => by
  have := h x hx
  simp [Lit.wf, IntKind.min, IntKind.max, IntKind.signed, IntKind.bits] at this
  omega
theorem L1_eq (l : List (List Int)) (i : Nat) (h : i < l.length) : rd_L1 l (i : Int) = l[i] := by
  unfold rd_L1
  rw [Int.toNat_natCast, List.getD_eq_getElem?_getD, List.getElem?_eq_getElem h]
  rfl
theorem T8.v {W : World} {v : Value} {l : List Int} (h : T8 W v l) : ∃ ok, Kd.V (Kd.int .u8) 5 W 0 ok v l := by
  obtain ⟨ok, _, hv⟩ := h
  exact ⟨ok, hv⟩
theorem T38.v {W : World} {N : Nat} {v : Value} {l : List S38} (h : T38 W N v l) : Kd.V k38 38 W 0 (fun k => N ≤ k) v l := h
theorem dec_self {α : Type} [DecidableEq α] (a : α) : decide (a = a) = true := decide_eq_true rfl
theorem C_zero {α : Type} (d : Kd α) (W : World) (A : Option Addr) : Kd.C d W A 0 [] := ⟨rfl, by omega, fun h => absurd h (Nat.lt_irrefl 0)⟩
attribute [local irreducible] IsD T8 Near T38

set_option maxHeartbeats 8000000 in
set_option maxRecDepth 100000 in
theorem FrameFeeds_calls (A0 : Option Addr) (c0 : Nat) (l : List (List Int)) (w : World) (hr : Kd.C (Kd.slice 5 (Kd.int .u8)) w A0 l.length l) (hc : l.length ≤ c0) (hwf : ∀ x ∈ l, x.length ≤ reachBytes ∧ ∀ y ∈ x, (Lit.int .u8 y).wf = true) :
    Calls Try.prog 8 #[.slice A0 l.length c0] w fun e w' => e = .returned (.bool true) ∧ Below w.heap.size w w' := by
  have HB := Aside0.mk (Below.refl w.heap.size w)
  have HA := Aside0.mk hr
  have HCC := Aside0.mk hc
  have HW := Aside0.mk (show ∀ i : Nat, i < l.length → (rd_L1 l i).length ≤ reachBytes ∧ Bytes (rd_L1 l i) from fun i hi => by
    rw [L1_eq l i hi]
    have := hwf _ (List.getElem_mem hi)
    exact ⟨this.1, bytes_of_wf this.2⟩)
  clear hr hc hwf
  by_cases cl : l.length > 40
  · have b0 : decide (40 < (l.length : Int)) = true := decide_eq_true (by omega)
    go_enter Try.func8, Try.ntmps8
    go_wp2_with (first | (go_at_call 25; with_reducible refine (awake_calls _).mono ?_; rintro e w' ⟨rfl, hb⟩; have HB_ := Aside0.mk (below_step HB.out hb); clear HB; have HB := HB_; clear HB_; clear hb) | (go_at_call 33; with_reducible refine (New_calls _).mono ?_; rintro e w' ⟨g, rfl, hI, hg, hb⟩; have HD := Aside0.mk hI; have HG := Aside0.mk (Nat.le_trans HB.out.size hg); have HB_ := Aside0.mk (below_step HB.out hb); clear HB; have HB := HB_; clear HB_; clear hI hg hb))
    go_ret
    exact ⟨rfl, HB.out⟩
  · have b0 : decide (40 < (l.length : Int)) = false := decide_eq_false (by omega)
    have HL := Aside0.mk cl
    clear cl
    go_enter Try.func8, Try.ntmps8
    go_wp2_with (first | (go_at_call 25; with_reducible refine (awake_calls _).mono ?_; rintro e w' ⟨rfl, hb⟩; have HB_ := Aside0.mk (below_step HB.out hb); clear HB; have HB := HB_; clear HB_; clear hb) | (go_at_call 33; with_reducible refine (New_calls _).mono ?_; rintro e w' ⟨g, rfl, hI, hg, hb⟩; have HD := Aside0.mk hI; have HG := Aside0.mk (Nat.le_trans HB.out.size hg); have HB_ := Aside0.mk (below_step HB.out hb); clear HB; have HB := HB_; clear HB_; clear hI hg hb))
    have HL := HL.out
    go_loopg [4, 5, 6, 20] (l.length + 1) (fun kq v4 v5 v6 v20 w' => ∃ (i : Nat) (k : List Int) (al : Nat) (en : Int) (Ak : Option Addr) (ck : Nat), v4 = .slice Ak k.length ck ∧ v5 = .int .i64 en ∧ v6 = .int .i64 (al : Int) ∧ v20 = .int .i64 (i : Int) ∧ Aside0 (kq + i = l.length + 1) ∧ Aside0 (i ≤ l.length) ∧ Aside0 (T8 w' (.slice Ak k.length ck) k) ∧ Aside0 (IsD w' g k en) ∧ Aside0 (Bytes k) ∧ Aside0 (k.length ≤ al ∧ al ≤ 2000) ∧ Aside0 (Below w.heap.size w w'))
    case atStart => exact ⟨0, [], 0, 0, none, 0, rfl, rfl, rfl, rfl, ⟨by omega⟩, ⟨by omega⟩, ⟨T8.nil _⟩, HD, ⟨fun x hx => by cases hx⟩, ⟨by simp⟩, HB⟩
    case round =>
      clear HD HB
      obtain ⟨i, k, al, en, Ak, ck, rfl, rfl, rfl, rfl, HKQ, HI, HK, HD, HKB, HKL, HB⟩ := hrel
      obtain ⟨gk, rfl⟩ : ∃ gk', gk = gk' + 1 := ⟨gk - 1, by have := HKQ.out; have := HI.out; omega⟩
      by_cases ci : i < l.length
      · have cb : decide ((i : Int) < (l.length : Int)) = true := decide_eq_true (by omega)
        have p1 : 0 ≤ (i : Int) := by omega
        have p2 : (i : Int) < (l.length : Int) := by omega
        have hwi : wrap64 ((i : Int) + 1) = ((i + 1 : Nat) : Int) := by unfold wrap64; omega
        obtain ⟨ad, Ax, cx, e7, hx0, hxc, hx1⟩ := at_L1 HA.out i p1 p2
        cases e7
        replace hx0 := (HB.out.cell (World.block_lt_of_cell? w _ hx0)).trans hx0
        simp only [Int.toNat_natCast] at hx0
        obtain ⟨hlx, hbx⟩ := HW.out i ci
        obtain ⟨x, hx⟩ : ∃ x, rd_L1 l i = x := ⟨_, rfl⟩
        rw [hx] at hx0 hx1 hxc hlx hbx
        obtain ⟨nx, hxn⟩ : ∃ n, x.length = n := ⟨_, rfl⟩
        rw [hxn] at hx0 hx1 hxc hlx
        have hre : reachBytes = 140737488351232 := rfl
        have HX := Aside0.mk hx1
        have HXC := Aside0.mk hxc
        have hwa : wrap64 ((al : Int) + (nx : Int)) = (al : Int) + (nx : Int) := by have := HKL.out; unfold wrap64; omega
        by_cases ca : al + nx > 2000
        · have cc : decide (2000 < (al : Int) + (nx : Int)) = true := decide_eq_true (by omega)
          clear hx hx1 hxc
          go_wp2
          go_ret
          exact ⟨rfl, HB.out⟩
        · have cc : decide (2000 < (al : Int) + (nx : Int)) = false := decide_eq_false (by omega)
          have HXB := Aside0.mk (show Bytes (k ++ x) from bt_append HKB.out hbx)
          have HXL := Aside0.mk (show k.length + nx ≤ 1000000 by have := HKL.out; omega)
          have HXL2 := Aside0.mk (show (k ++ x).length ≤ 1000000 by have := HKL.out; rw [List.length_append, hxn]; omega)
          have HXN := Aside0.mk hxn
          have HAN := Aside0.mk (show al + nx ≤ 2000 by omega)
          clear hx hx1 hxc hbx hlx ca
          by_cases ce : en = 0
          · subst ce
            obtain ⟨⟨o, b2, e2⟩, hfs⟩ : ∃ r, framesS (k ++ x) = r := ⟨_, rfl⟩
            have HFS := Aside0.mk hfs
            have hfl := frames_len HXB.out hfs
            obtain ⟨on, hon⟩ : ∃ n, o.length = n := ⟨_, rfl⟩
            have HON := Aside0.mk hon
            have HOL := Aside0.mk (show on ≤ 1000000 by have := HXL2.out; omega)
            have HBD := Aside0.mk (show ∀ f ∈ o.map to41, f.f1.length ≤ 1000000 from fun f hf => by obtain ⟨q, hq, rfl⟩ := List.mem_map.1 hf; have := (hfl.2.2.2 q hq).2; show q.f1.length ≤ _; omega)
            have HB2 := Aside0.mk hfl.2.2.1
            have HL2 := Aside0.mk (show b2.length ≤ al + nx by have := hfl.2.1; have := HKL.out; have := HXN.out; rw [List.length_append] at *; omega)
            have hz1 : (e2 != e2) = false := by simp
            have hz2 : ((b2.length : Int) != (b2.length : Int)) = false := by simp
            clear hfs hfl hon
            go_wp2_with (first | (go_at_call 34; with_reducible refine (Feed_calls g k x Ax nx cx HXN.out o b2 e2 _ HD.out (Kd.C_below HX.out HB.out) HXC.out HXB.out HXL.out HFS.out).mono ?_; rintro e wf ⟨vo, rfl, ho, hI, hn⟩; obtain ⟨Ao, co, rfl⟩ := Kd.R_slice ho; rw [HON.out]; have HT := Aside0.mk (HON.out ▸ T38.of_R ho (Nat.succ_le_of_lt HD.out.lt)); have HK_ := Aside0.mk (HK.out.near HD.out.typed hn); have HB_ := Aside0.mk (hn.bel HG.out HB.out); have HD_ := Aside0.mk (hI); clear HK HB HD; have HK := HK_; have HB := HB_; have HD := HD_; clear HK_ HB_ HD_; clear ho hI hn) | ((with_reducible refine gate_dst (N := 40) rfl ?_); refine Kd.R_lit (Kd.int .u8) _ 5 ?hg (N := 40) ?hd (xs := ([] : List Int)) (inner := []) (ok := fun _ => True) (okp := fun _ => True) ?hr ?hp (fun _ hk => hk) trivial (Below.refl _ _) (Nat.le_refl _) (by simp) ?_; (case hd => rfl); (case hg => rfl); (case hr => first | (go_simp; done) | (go_simp; rfl)); (case hp => exact (Reps.none _ _)); intro vz wz ho hb hg_ hnew_; clear hg_ hnew_; have HR := Aside0.mk ho; have HBZ := Aside0.mk hb; clear ho hb) | ((with_reducible refine gate_builtin (b := .append) (xs := #[.tmp 40, .tmp 41]) rfl ?_); at_builtin; refine Kd.R_append_row (Value.int .u8) 0 _ rfl (.tmp 40) (.tmp 41) 22 5 (.int .u8 0) 1 rfl Try.underlying22 info5 rfl (by omega) vz [] k Ak k.length ck (fun _ => True) rfl rfl (fun _ _ => trivial) HR.out (Kd.C_below (Kd.C_alloc HK.out.at_.2.2 _) HBZ.out) HBZ.out HBZ.out.size (by have := HKL.out; simp only [List.length_nil]; omega) ?_; intro vy wy ho hb hg hat; clear HR HBZ hg hat; have HR := Aside0.mk ho; have HBZ := Aside0.mk hb; clear ho hb; rw [List.nil_append] at HR) | ((with_reducible refine gate_builtin (b := .append) (xs := #[.tmp 42, .tmp 43]) rfl ?_); at_builtin; refine Kd.R_append_row (Value.int .u8) 0 _ rfl (.tmp 42) (.tmp 43) 22 5 (.int .u8 0) 1 rfl Try.underlying22 info5 rfl (by omega) vy k x Ax nx cx (fun _ => True) rfl rfl (fun _ _ => trivial) HR.out (Kd.C_below (Kd.C_alloc (Kd.C_below HX.out HB.out) _) HBZ.out) HBZ.out HBZ.out.size (by have := HKL.out; have := HAN.out; omega) ?_; intro vx wx ho hb hg hat; clear HR HBZ hg hat; have HR := Aside0.mk ho; have HBZ := Aside0.mk hb; clear ho hb; obtain ⟨Az, cz, rfl⟩ := Kd.R_slice HR.out; have HZ := Aside0.mk (T8.of_R HR.out); have HK_ := Aside0.mk ((HK.out.alloc _).below HBZ.out); have HD_ := Aside0.mk ((HD.out.alloc _).below HBZ.out); have HT_ := Aside0.mk ((HT.out.alloc _).below HBZ.out); have HB_ := Aside0.mk (below_step (below_alloc HB.out _) HBZ.out); clear HK HD HT HB; have HK := HK_; have HD := HD_; have HT := HT_; have HB := HB_; clear HK_ HD_ HT_ HB_; clear HR HBZ) | (go_at_call 35; obtain ⟨okz, hvz⟩ := HZ.out.v; rw [show (k ++ x).length = k.length + nx by rw [List.length_append, HXN.out]] at hvz; with_reducible refine (All_calls okz Az (k.length + nx) cz (k ++ x) (by rw [List.length_append, HXN.out]) o b2 e2 _ hvz HXB.out HXL.out HFS.out).mono ?_; clear hvz; rintro e w' ⟨Aq, cq, vk, rfl, hcq, hq, hk, hb⟩; obtain ⟨Ak2, ck2, rfl⟩ := hk.slice; rw [HON.out] at hcq hq; rw [HON.out]; have HQ := Aside0.mk hq; have HQC := Aside0.mk hcq; have HK2 := Aside0.mk hk; have HD_ := Aside0.mk (HD.out.below hb); have HB_ := Aside0.mk (below_step HB.out hb); have HT_ := Aside0.mk (HT.out.below hb); clear HD HB HT; have HD := HD_; have HB := HB_; have HT := HT_; clear HD_ HB_ HT_; clear hq hcq hk hb HZ HK) | (go_at_call 31; with_reducible refine (Frames_calls _ Ao on co o HON.out _ HT.out.v HOL.out).mono ?_; rintro e w' ⟨Ap, cp, rfl, hcp, hp, hb⟩; have HP := Aside0.mk hp; have HPC := Aside0.mk hcp; have HD_ := Aside0.mk (HD.out.below hb); have HB_ := Aside0.mk (below_step HB.out hb); have HQ_ := Aside0.mk (Kd.C_below HQ.out hb); have HK2_ := Aside0.mk (HK2.out.below hb); clear HD HB HQ HK2; have HD := HD_; have HB := HB_; have HQ := HQ_; have HK2 := HK2_; clear HD_ HB_ HQ_ HK2_; clear hp hcp hb HT) | (go_at_call 30; with_reducible refine (Same41_calls Ap on cp (o.map to41) (by rw [List.length_map]; exact HON.out) Aq on cq (o.map to41) (by rw [List.length_map]; exact HON.out) true _ HP.out HPC.out HQ.out HQC.out HOL.out HBD.out (decide_eq_true rfl)).mono ?_; rintro e w' ⟨rfl, hb⟩; have HD_ := Aside0.mk (HD.out.below hb); have HB_ := Aside0.mk (below_step HB.out hb); have HK2_ := Aside0.mk (HK2.out.below hb); clear HD HB HK2; have HD := HD_; have HB := HB_; have HK2 := HK2_; clear HD_ HB_ HK2_; clear hb HP HQ) | (go_at_call 36; with_reducible refine (Pending_calls g b2 e2 b2.length rfl _ HD.out).mono ?_; rintro e w' ⟨rfl, rfl⟩))
            go_roundg gk
            case measure => omega
            case rel => exact ⟨i + 1, b2, al + nx, e2, Ak2, ck2, rfl, rfl, congrArg (Value.int .i64) (by first | omega | (rw [hwa]; omega)), congrArg (Value.int .i64) (by omega), ⟨by have := HKQ.out; omega⟩, ⟨by omega⟩, HK2, HD, HB2, ⟨HL2.out, HAN.out⟩, HB⟩
          · have hz0 : (en == 0) = false := beq_eq_false_iff_ne.mpr ce
            have hz1 : (en != en) = false := by simp
            have hz2 : ((k.length : Int) != (k.length : Int)) = false := by simp
            have HE := Aside0.mk ce
            clear ce
            go_wp2_with (first | (go_at_call 34; with_reducible refine (Feed_ended g k en Ax nx cx _ HD.out HE.out).mono ?_; rintro e wf ⟨rfl, hb⟩; have HD_ := Aside0.mk (HD.out.below hb); have HB_ := Aside0.mk (below_step HB.out hb); have HK_ := Aside0.mk (HK.out.below hb); clear HD HB HK; have HD := HD_; have HB := HB_; have HK := HK_; clear HD_ HB_ HK_; clear hb) | (go_at_call 31; with_reducible refine (Frames_calls (fun _ => False) none 0 0 [] List.length_nil _ (Kd.V_nil _ _ _ _ _) (by omega)).mono ?_; rintro e w' ⟨Ap, cp, rfl, hcp, hp, hb⟩; rw [List.map_nil] at hp; have HD_ := Aside0.mk ((HD.out.alloc _).below hb); have HB_ := Aside0.mk (below_step (below_alloc HB.out _) hb); have HK_ := Aside0.mk ((HK.out.alloc _).below hb); clear HD HB HK; have HD := HD_; have HB := HB_; have HK := HK_; clear HD_ HB_ HK_; have HP := Aside0.mk hp; have HPC := Aside0.mk hcp; clear hp hcp hb) | (go_at_call 30; go_loud (with_reducible refine (Same41_calls Ap 0 cp [] List.length_nil (some ⟨wf.heap.size, 0, none⟩) 0 0 [] List.length_nil true _ HP.out HPC.out (C_zero _ _ _) (Nat.le_refl _) (by omega) (fun x hx => absurd hx List.not_mem_nil) (dec_self _)).mono ?_; rintro e w' ⟨rfl, hb⟩; have HD_ := Aside0.mk (HD.out.below hb); have HB_ := Aside0.mk (below_step HB.out hb); have HK_ := Aside0.mk (HK.out.below hb); clear HD HB HK; have HD := HD_; have HB := HB_; have HK := HK_; clear HD_ HB_ HK_; clear hb HP)) | (go_at_call 36; with_reducible refine (Pending_calls g k en k.length rfl _ HD.out).mono ?_; rintro e w' ⟨rfl, rfl⟩))
            go_roundg gk
            case measure => omega
            case rel => exact ⟨i + 1, k, al + nx, en, Ak, ck, rfl, rfl, congrArg (Value.int .i64) (by first | omega | (rw [hwa]; omega)), congrArg (Value.int .i64) (by omega), ⟨by have := HKQ.out; omega⟩, ⟨by omega⟩, HK, HD, HKB, ⟨by have := HKL.out; omega, HAN.out⟩, HB⟩
      · have cb : decide ((i : Int) < (l.length : Int)) = false := decide_eq_false (by omega)
        go_wp2
        go_ret
        exact ⟨rfl, HB.out⟩
end Go.Proofs.Ytagmefjpnmjcjab.Fh
