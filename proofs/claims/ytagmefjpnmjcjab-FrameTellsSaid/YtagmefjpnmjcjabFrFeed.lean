/- Feed of a decoder of frames, by hand. -/
import Derived.Test.YtagmefjpnmjcjabFrAll
import Derived.WalkMore
namespace Go.Proofs.Ytagmefjpnmjcjab.Fh
open Go.RowKit Go.Proofs.YtagmefjpnmjcjabW.PrintWords Go.Proofs.YtagmefjpnmjcjabW.PrintLast Go.Proofs.YtagmefjpnmjcjabW.PrintMore
open Go.Proofs.Ytagmefjpnmjcjab.Fr (info5 info38 info41 S38 k38 k38_mkM k38_openM S41 k41 frame_Read.f frame_Read.calls)
open Go.Proofs.Ytagmefjpnmjcjab.FrNum (readS read_eq Bytes)
attribute [local go_sem] max2_int min2_int max_two min_two
set_option linter.unusedVariables false
set_option linter.unusedSimpArgs false
theorem M38 {W : World} {base gb : Nat} {v vb : Value} {out : List S38} {c : Int} {body : List Int} {cs : Array Value} (hb : Kd.R (Kd.int .u8) 5 W base (fun _ => True) vb body) (hg : W.heap[gb]? = some (.cells cs 38 (0, 0))) (ho : Kd.R k38 38 W base (fun k => k ≠ gb) v out) :
    k38.M W base (fun k => k ≠ gb ∧ some k ≠ v.ownBlock) ⟨c, body⟩ [.int .u8 c, vb] := k38_mkM _ _ _ ⟨c, body⟩ (Kd.R_mono (Kd.R_apart' (Kd.R_types hb hg (by decide)) (Kd.R_typed ho) (by decide)) (fun k hk => ⟨hk.1.2, hk.2⟩))
theorem Near.trans {w w1 w2 : World} {g : Nat} (h : Near w w1 g) (h2 : Near w1 w2 g) : Near w w2 g := by
  unfold Near at h h2 ⊢
  exact ⟨h.1.trans h2.1 (.inl rfl), fun w0 hg hB => h2.2 w0 hg (h.2 w0 hg hB)⟩
theorem R38.near {w w' : World} {base g : Nat} {v : Value} {out : List S38} (h : Kd.R k38 38 w base (fun _ => True) v out) (ht : ∃ cells, w.heap[g]? = some (.cells cells 93 (0, 0))) (hn : Near w w' g) : Kd.R k38 38 w' base (fun _ => True) v out := by
  obtain ⟨cells, hc⟩ := ht
  exact Kd.R_mono (Kd.R_keep (Kd.R_types h hc (by decide)) hn.keep (fun _ hk => hk.2)) (fun _ hk => hk.1)
theorem IsD.far {W : World} {g gb t : Nat} {b : List Int} {e : Int} {cs : Array Value} (h : IsD W g b e) (hc : W.heap[gb]? = some (.cells cs t (0, 0))) (h1 : t ≠ 93) (h2 : t ≠ 5) (j : Nat) (u : Value) : IsD (W.setCell ⟨gb, j, none⟩ u) g b e := by
  unfold IsD at h ⊢
  obtain ⟨v, hb, hv⟩ := h
  exact ⟨v, (Below.heap_setCell W ⟨gb, j, none⟩ u g (ne_typed hc hb h1)).trans hb, hv.far hc h2 j u⟩
theorem T8.apart {w : World} {gb : Nat} {v : Value} {l : List Int} {cs : Array Value} (h : T8 w v l) (hc : w.heap[gb]? = some (.cells cs 38 (0, 0))) (j : Nat) (u : Value) : T8 (w.setCell ⟨gb, j, none⟩ u) v l := h.far hc (by decide) j u
attribute [local irreducible] IsD T8 Near
set_option maxHeartbeats 8000000 in
set_option maxRecDepth 100000 in
theorem Read_calls (A : Option Addr) (n c : Nat) (l : List Int) (hn : l.length = n) (r1 : Int) (r2 : List Int) (r3 r4 : Int) (w : World) (hC : Kd.C (Kd.int .u8) w A n l) (hc : n ≤ c) (hl : n ≤ 1000000) (hB : Bytes l) (h : readS l = (r1, r2, r3, r4)) :
    Calls Try.prog 28 #[.slice A n c] w fun e w' => ∃ v1_ : Value, e = .returned (.tuple #[.agg #[.int .u8 r1, v1_], .int .i64 r3, .int .i64 r4]) ∧ Kd.R (Kd.int .u8) 5 w' w.heap.size (fun _ => True) v1_ r2 ∧ Below w.heap.size w w' := by
  subst hn
  exact frame_Read.calls 11 A c l r1 r2 r3 r4 w hC hc (by rw [read_eq 11 l hB hl (Nat.le_refl _), h])

set_option maxHeartbeats 8000000 in
set_option maxRecDepth 100000 in
theorem Feed_ended (g : Nat) (b : List Int) (e : Int) (A : Option Addr) (n c : Nat) (w : World) (hI : IsD w g b e) (he : e ≠ 0) :
    Calls Try.prog 34 #[.pointer (some ⟨g, 0, none⟩), .slice A n c] w fun en w' => en = .returned (.tuple #[.slice none 0 0, .int .i64 e]) ∧ Below w.heap.size w w' := by
  have b0 : (e != 0) = true := bne_iff_ne.mpr he
  have HD := Aside0.mk hI
  have HB := Aside0.mk (Below.refl w.heap.size w)
  have hz1 := hI.c1
  clear he hI
  go_enter Try.func34, Try.ntmps34
  go_wp2
  go_step3
  go_wp2
  go_quiet (fail)
  go_wp2
  (try rw [Exit.noGoto_ret])
  go_ret2
  exact ⟨rfl, by repeat (first | exact HB.out | apply pw_below_drewN | apply below_drew1)⟩
set_option maxHeartbeats 8000000 in
set_option maxRecDepth 100000 in
theorem Feed_calls (g : Nat) (b l0 : List Int) (A0 : Option Addr) (n0 c0 : Nat) (hn0 : l0.length = n0) (o : List S38) (b2 : List Int) (e2 : Int) (w : World) (hI : IsD w g b 0) (hC0 : Kd.C (Kd.int .u8) w A0 n0 l0) (hc0 : n0 ≤ c0) (hB : Bytes (b ++ l0)) (hl : b.length + n0 ≤ 1000000) (hS : framesS (b ++ l0) = (o, b2, e2)) :
    Calls Try.prog 34 #[.pointer (some ⟨g, 0, none⟩), .slice A0 n0 c0] w fun en w' => ∃ v, en = .returned (.tuple #[v, .int .i64 e2]) ∧ Kd.R k38 38 w' w.heap.size (fun _ => True) v o ∧ IsD w' g b2 e2 ∧ Near w w' g := by
  have HD := Aside0.mk hI
  have HB := Aside0.mk (Below.refl w.heap.size w)
  have HG := Aside0.mk hI.lt
  have hz1 := hI.c1
  obtain ⟨Ab, cb, hz0, htb⟩ := hI.c0
  have HTB := Aside0.mk htb.at_.2.2
  have HC := Aside0.mk hC0
  have HBY0 := Aside0.mk hB
  have HL0 := Aside0.mk hl
  have HLL := Aside0.mk (show (b ++ l0).length ≤ 1000000 by rw [List.length_append]; omega)
  have HS := Aside0.mk hS
  have hmf : ∀ (fn : Fn) (first cap : Array Value) (w : World), (Instr.makeFunc fn first cap).run Try.prog w = .ok (.func fn first cap) w := fun _ _ _ _ => rfl
  clear hI hC0 hc0 hB hS htb
  go_enter Try.func34, Try.ntmps34
  go_wp2
  go_step3
  go_wp2_with (first | (go_at_call 54; go_loud (with_reducible refine (Concat_calls w.heap.size Ab A0 b.length n0 cb c0 b l0 _ (heap_alloc_new w _) (Kd.C_alloc HTB.out _) (Kd.C_alloc HC.out _) HL0.out).mono ?_; rintro e3 w1 ⟨v1, rfl, ho, hb⟩; obtain ⟨A1, c1, rfl⟩ := Kd.R_slice ho; have HT := Aside0.mk (T8.of_R ho); have HD_ := Aside0.mk ((HD.out.alloc _).below hb); have HB_ := Aside0.mk (below_step (below_alloc (Below.refl _ _) _) hb); clear HD HB; have HD := HD_; have HB := HB_; clear HD_ HB_; clear hb ho hz1 hz0 hn0 HTB HC)))
  go_step3
  go_wp2
  go_loopg [6, 8] 1000002 (fun kq v6 v8 w' => ∃ (k : Nat) (l : List Int) (out o2 : List S38) (A : Option Addr) (n c : Nat), v6 = .slice A n c ∧ Aside0 (l.length = n) ∧ Aside0 (T8 w' (.slice A n c) l) ∧ Aside0 (Kd.R k38 38 w' w.heap.size (fun _ => True) v8 out) ∧ Aside0 (IsD w' g b 0) ∧ Aside0 (Below w.heap.size w w') ∧ Aside0 (Bytes l) ∧ Aside0 (n < k ∧ k ≤ kq ∧ n ≤ 1000000) ∧ Aside0 (allS k l = (o2, b2, e2)) ∧ Aside0 (out ++ o2 = o) ∧ Aside0 (out.length + n ≤ 1000000))
  case atStart => exact ⟨(b ++ l0).length + 1, b ++ l0, [], o, A1, (b ++ l0).length, c1, by rw [List.length_append], ⟨rfl⟩, HT, ⟨Kd.R_nil _ _ _ _ _⟩, HD, HB, HBY0, ⟨Nat.lt_succ_self _, by have := HLL.out; omega, HLL.out⟩, HS, ⟨rfl⟩, ⟨by have := HLL.out; simp only [List.length_nil]; omega⟩⟩
  case round =>
    clear HT HD HB HBY0 HS HLL HL0
    obtain ⟨k, l, out, o2, A, n, c, rfl, HLN, HT, HO, HD, HB, HBY, HK, HS, HOO, HOL⟩ := hrel
    obtain ⟨gk, rfl⟩ : ∃ gk', gk = gk' + 1 := ⟨gk - 1, by have := HK.out; omega⟩
    obtain ⟨k, rfl⟩ : ∃ k', k = k' + 1 := ⟨k - 1, by have := HK.out; omega⟩
    obtain ⟨⟨r1, r2, r3, r4⟩, hrd⟩ : ∃ r, readS l = r := ⟨_, rfl⟩
    have HNC := Aside0.mk HT.out.at_.2.1
    have HN6 := Aside0.mk HK.out.2.2
    have hS := HS.out
    rw [allS, hrd] at hS
    simp only at hS
    have HRD := Aside0.mk hrd
    by_cases ck : r4 = 0
    · subst ck
      rw [if_pos rfl] at hS
      have hn := readS_n HBY.out (by rw [hrd])
      rw [hrd] at hn
      simp only at hn
      obtain ⟨m, rfl⟩ := Int.eq_ofNat_of_zero_le (show 0 ≤ r3 by omega)
      rw [Int.toNat_natCast] at hS
      injection hS with hS1 hS2
      have HM := Aside0.mk (show 3 ≤ m ∧ m ≤ n by have := HLN.out; omega)
      have HS1 := Aside0.mk hS1
      have HS2 := Aside0.mk hS2
      clear hS1 hS2 hn hrd
      go_upto_region 7 with (first | (go_at_call 28; go_loud (with_reducible refine (Read_calls A n c l HLN.out r1 r2 (m : Int) 0 _ HT.out.at_.2.2 HNC.out HN6.out HBY.out HRD.out).mono ?_; rintro e4 w2 ⟨v2, rfl, ho, hb⟩; obtain ⟨A2, c2, rfl⟩ := Kd.R_slice ho; have HO2 := Aside0.mk (Kd.R_lower ho HB.out.size); have HT_ := Aside0.mk (HT.out.below hb); have HO_ := Aside0.mk (Kd.R_below HO.out hb); have HD_ := Aside0.mk (HD.out.below hb); have HB_ := Aside0.mk (below_step HB.out hb); clear HT HO HD HB; have HT := HT_; have HO := HO_; have HD := HD_; have HB := HB_; clear HT_ HO_ HD_ HB_; clear hb ho)) | ((with_reducible refine gate_dst (N := 9) rfl ?_); refine box_event ?hg (N := 9) ?hd (cs := #[.int .u8 0, .slice none 0 0]) (t := 38) ?hr ?_; (case hd => rfl); (case hg => rfl); (case hr => first | (go_simp; done) | (go_simp; rfl)); intro gb hg w3 hbox hb; have HBX := Aside0.mk hbox; have HGE := Aside0.mk (show w.heap.size ≤ gb by rw [hg]; exact HB.out.size); have HT_ := Aside0.mk (HT.out.below hb); have HO_ := Aside0.mk ((Kd.R_mono (Kd.R_below (Kd.R_bound HO.out) hb) (fun k hk => by have := hk.2.2.1; omega) : Kd.R k38 38 _ w.heap.size (fun k => k ≠ gb) u8 out)); have HO2_ := Aside0.mk (Kd.R_below HO2.out hb); have HD_ := Aside0.mk (HD.out.below hb); have HB_ := Aside0.mk (below_step HB.out hb); clear HT HO HO2 HD HB; have HT := HT_; have HO := HO_; have HO2 := HO2_; have HD := HD_; have HB := HB_; clear HT_ HO_ HO2_ HD_ HB_; clear hg hbox hb; have hx0 := blk_cell HBX.out 0; have hx1 := blk_cell HBX.out 1; have hfx0 := blk_frozen HBX.out 0; have hfx1 := blk_frozen HBX.out 1; replace hx0 := hx0.trans rfl; replace hx1 := hx1.trans rfl))
      (try simp only [Act.put, List.setIfInBounds_toArray, List.set_cons_zero, List.set_cons_succ])
      generalize hst : World.setCell (World.setCell w3 ⟨gb, 0, none⟩ (.int .u8 r1)) ⟨gb, 1, none⟩ (.slice A2 r2.length c2) = w4
      have HBX0 := Aside0.mk ((blk_set HBX.out 0 (.int .u8 r1)).trans rfl)
      have HT_ := Aside0.mk (hst ▸ (HT.out.apart HBX.out 0 _).apart HBX0.out 1 _)
      have HO_ := Aside0.mk ((hst ▸ Kd.R_far (p := ⟨gb, 1, none⟩) (Kd.R_far (p := ⟨gb, 0, none⟩) HO.out (fun _ h => h) _) (fun _ h => h) _ : Kd.R k38 38 w4 w.heap.size (fun k => k ≠ gb) u8 out))
      have HO2_ := Aside0.mk (hst ▸ Kd.R_set (Kd.R_set HO2.out HBX.out (by decide) 0 _) HBX0.out (by decide) 1 _)
      have HD_ := Aside0.mk (hst ▸ (HD.out.far HBX.out (by decide) (by decide) 0 _).far HBX0.out (by decide) (by decide) 1 _)
      have HB_ := Aside0.mk (hst ▸ below_set (below_set HB.out HGE.out) HGE.out)
      have HBX_ := Aside0.mk ((hst ▸ (blk_set HBX0.out 1 (.slice A2 r2.length c2)).trans rfl : w4.heap[gb]? = some (.cells #[.int .u8 r1, .slice A2 r2.length c2] 38 (0, 0))))
      clear HT HO HO2 HD HB HBX
      have HT := HT_
      have HO := HO_
      have HO2 := HO2_
      have HD := HD_
      have HB := HB_
      have HBX := HBX_
      clear HT_ HO_ HO2_ HD_ HB_ HBX_
      clear hst hx0 hx1 hfx0 hfx1 HBX0
      go_wp2
      have hu38 := Try.underlying38
      have hm0 : (0 : Int) ≤ (m : Int) := by omega
      have hmn : (m : Int) ≤ (n : Int) := by have := HM.out; omega
      obtain ⟨i0, hi0, _, hsz0, _⟩ := info_parts info5
      have hcut := cut_from (P := Try.prog) 22 5 .i64 Try.underlying22 hi0 1 hsz0 A n c (m : Int) hm0 hmn
      have HTC := HT.out.cut m (by have := HM.out; omega)
      simp only [Int.toNat_natCast] at hcut
      obtain ⟨A5, hA5⟩ : ∃ A5, A5 = (if c = m then A else A.map (·.add (m * 1))) := ⟨_, rfl⟩
      rw [← hA5] at hcut HTC
      have HTC := Aside0.mk HTC
      clear hA5 hi0 hsz0
      have HTC_ := Aside0.mk (HTC.out.drew)
      have HO_ := Aside0.mk (Kd.R_drew HO.out)
      have HO2_ := Aside0.mk (Kd.R_drew HO2.out)
      have HD_ := Aside0.mk (HD.out.drew)
      have HB_ := Aside0.mk (below_drew1 HB.out)
      have HBX_ := Aside0.mk (blk_drew HBX.out)
      clear HTC HO HO2 HD HB HBX
      have HTC := HTC_
      have HO := HO_
      have HO2 := HO2_
      have HD := HD_
      have HB := HB_
      have HBX := HBX_
      clear HTC_ HO_ HO2_ HD_ HB_ HBX_
      refine start_ (n := 9) (S := fun w' => w'.cell? ⟨gb, 0, none⟩ = some (.int .u8 r1) ∧ w'.cell? ⟨gb, 1, none⟩ = some (.slice A2 r2.length c2)) (ds := []) #[false, false, false, false, false, false, false, false, false] (by kernel_rfl) rfl rfl ⟨(blk_cell HBX.out 0).trans rfl, (blk_cell HBX.out 1).trans rfl⟩ (fun hHeld => ?_)
      generalize World.drew w4 = w5 at HTC HO HO2 HD HB HBX hHeld ⊢
      refine pure_ (i := 0) (N := some 45) (v := ?_) (a' := ?_) #[true, false, false, false, false, false, false, false, false] rfl rfl (by kernel_rfl) (fun _ _ _ h => h) (Or.inl ⟨by rfl, ?_⟩) ?_ ?_
      rotate_left
      · intro w'
        go_simp
        with_reducible rfl
      rotate_left
      · simp only [Act.put, List.setIfInBounds_toArray, List.set_cons_zero, List.set_cons_succ, i64_w, i32_w]
        rfl
      refine pure_ (i := 4) (N := some 49) (v := ?_) (a' := ?_) #[true, false, false, false, true, false, false, false, false] rfl rfl (by kernel_rfl) (fun _ _ _ h => h) (Or.inl ⟨by rfl, ?_⟩) ?_ ?_
      rotate_left
      · intro w'
        go_simp
        with_reducible rfl
      rotate_left
      · simp only [Act.put, List.setIfInBounds_toArray, List.set_cons_zero, List.set_cons_succ, i64_w, i32_w]
        rfl
      refine pure_ (i := 5) (N := some 50) (v := ?_) (a' := ?_) #[true, false, false, false, true, true, false, false, false] rfl rfl (by kernel_rfl) (fun _ _ _ h => h) (Or.inl ⟨by rfl, ?_⟩) ?_ ?_
      rotate_left
      · intro w'
        go_simp
        with_reducible rfl
      rotate_left
      · simp only [Act.put, List.setIfInBounds_toArray, List.set_cons_zero, List.set_cons_succ, i64_w, i32_w]
        rfl
      refine pure_ (i := 6) (N := some 51) (v := ?_) (a' := ?_) #[true, false, false, false, true, true, true, false, false] rfl rfl (by kernel_rfl) (fun _ _ _ h => h) (Or.inl ⟨by rfl, ?_⟩) ?_ ?_
      rotate_left
      · intro w'
        go_simp
        with_reducible rfl
      rotate_left
      · simp only [Act.put, List.setIfInBounds_toArray, List.set_cons_zero, List.set_cons_succ, i64_w, i32_w]
        rfl
      refine take_ (i := 1) (N := some 46) (v := ?_) (a' := ?_) #[true, true, false, false, true, true, true, false, false] rfl rfl (by kernel_rfl) (fun _ _ _ h => h) (Or.inl ⟨by rfl, ?_⟩) hHeld ?_ ?_
      rotate_left
      · rintro w' ⟨s0, s1⟩
        go_simp
        with_reducible rfl
      rotate_left
      · simp only [Act.put, List.setIfInBounds_toArray, List.set_cons_zero, List.set_cons_succ, i64_w, i32_w]
        rfl
      refine one_ (i := 2) (N := some 47) #[true, true, true, false, true, true, true, false, false] rfl rfl (by kernel_rfl) (by decide) (fun K hK => ?_)
      refine value_ (w1 := ?_) (v := ?_) (by rfl) rfl ?_ ?_
      rotate_left 2
      · go_simp
        constructor
        · rfl
        · rfl
      refine hK.out _ _ ⟨pw_cell_below (below_alloc (Below.refl _ _) _) ((blk_cell HBX.out 0).trans rfl), pw_cell_below (below_alloc (Below.refl _ _) _) ((blk_cell HBX.out 1).trans rfl)⟩ (fun hHeld => ?_)
      clear hK K
      refine norm_ (a' := ?_) ?_ ?_
      rotate_left
      · show Act.put _ (some 47) _ = _
        simp only [Act.put, List.setIfInBounds_toArray, List.set_cons_zero, List.set_cons_succ, i64_w, i32_w]
        rfl
      refine one_ (i := 3) (N := some 48) #[true, true, true, true, true, true, true, false, false] rfl rfl (by kernel_rfl) (by decide) (fun K hK => ?_)
      refine Kd.R_append_step k38 (w0 := w) w.heap.size (by rfl) (.tmp 45) (.tmp 47) 54 38 (.agg #[.int .u8 0, .slice none 0 0]) 32 rfl Try.underlying54 info38 rfl (by decide) (by omega) u8 out ⟨r1, r2⟩ [.int .u8 r1, .slice A2 r2.length c2] (fun k => k ≠ gb) (fun k => k ≠ gb ∧ some k ≠ u8.ownBlock) (by rfl) (by rfl) (M38 HO2.out HBX.out HO.out) (fun _ hk => hk) (fun k hk => by have := blk_lt HBX.out; omega) HO.out HB.out HB.out.size (by have := HOL.out; have := HM.out; omega) ?_
      intro v1 w6 ho hb hg hat
      have HTY := Aside0.mk (Kd.R_typed HO.out)
      have HBX_ := Aside0.mk ((hg.block gb (blk_lt HBX.out) (Kd.R_away HO.out (fun _ h => h))).trans HBX.out)
      have HTC_ := Aside0.mk (HTC.out.grown hg (fun k hk cells hc => by obtain ⟨c9, h9⟩ := HTY.out k hk; exact ne_typed h9 hc (by decide) rfl))
      have HD_ := Aside0.mk (HD.out.grown hg HTY.out (by decide) (by decide))
      have HO_ := Aside0.mk ((Kd.R_mono ho (fun _ _ => trivial) : Kd.R k38 38 w6 w.heap.size (fun _ => True) v1 (out ++ [⟨r1, r2⟩])))
      have HB_ := Aside0.mk (hb)
      clear HBX HTC HD HO HB
      have HBX := HBX_
      have HTC := HTC_
      have HD := HD_
      have HO := HO_
      have HB := HB_
      clear HBX_ HTC_ HD_ HO_ HB_
      clear ho hb hg hat HTY
      refine hK.out _ _ ⟨(blk_cell HBX.out 0).trans rfl, (blk_cell HBX.out 1).trans rfl⟩ (fun hHeld => ?_)
      clear hK K
      refine norm_ (a' := ?_) ?_ ?_
      rotate_left
      · show Act.put _ (some 48) _ = _
        simp only [Act.put, List.setIfInBounds_toArray, List.set_cons_zero, List.set_cons_succ, i64_w, i32_w]
        rfl
      refine pure_ (i := 7) (N := some 8) (v := ?_) (a' := ?_) #[true, true, true, true, true, true, true, true, false] rfl rfl (by kernel_rfl) (fun _ _ _ h => h) (Or.inl ⟨by rfl, ?_⟩) ?_ ?_
      rotate_left
      · intro w'
        go_simp
        with_reducible rfl
      rotate_left
      · simp only [Act.put, List.setIfInBounds_toArray, List.set_cons_zero, List.set_cons_succ, i64_w, i32_w]
        rfl
      refine pure_ (i := 8) (N := some 6) (v := ?_) (a' := ?_) #[true, true, true, true, true, true, true, true, true] rfl rfl (by kernel_rfl) (fun _ _ _ h => h) (Or.inl ⟨by rfl, ?_⟩) ?_ ?_
      rotate_left
      · intro w'
        go_simp
        with_reducible rfl
      rotate_left
      · simp only [Act.put, List.setIfInBounds_toArray, List.set_cons_zero, List.set_cons_succ, i64_w, i32_w]
        rfl
      refine done_ (by kernel_rfl) ?_

      go_wp2
      go_roundg gk
      case measure => omega
      case rel => exact ⟨k, l.drop m, out ++ [⟨r1, r2⟩], (allS k (l.drop m)).1, A5, n - m, c - m, rfl, ⟨by have := HLN.out; rw [List.length_drop]; omega⟩, HTC, HO, HD, HB, ⟨bt_drop HBY.out _⟩, ⟨by have := HK.out; have := HM.out; omega⟩, ⟨Prod.ext rfl HS2.out⟩, ⟨by rw [← HOO.out, ← HS1.out]; simp⟩, ⟨by have := HOL.out; have := HM.out; rw [List.length_append, List.length_singleton]; omega⟩⟩
    · rw [if_neg ck] at hS
      by_cases c3 : r4 = 3
      · subst c3
        rw [if_pos rfl] at hS
        injection hS with hS1 hS2
        injection hS2 with hS2 hS3
        subst hS1 hS2 hS3
        clear ck hrd
        go_upto_region 7 with (first | (go_at_call 28; go_loud (with_reducible refine (Read_calls A n c l HLN.out r1 r2 r3 3 _ HT.out.at_.2.2 HNC.out HN6.out HBY.out HRD.out).mono ?_; rintro e4 w2 ⟨v2, rfl, ho, hb⟩; obtain ⟨A2, c2, rfl⟩ := Kd.R_slice ho; have HO2 := Aside0.mk (Kd.R_lower ho HB.out.size); have HT_ := Aside0.mk (HT.out.below hb); have HO_ := Aside0.mk (Kd.R_below HO.out hb); have HD_ := Aside0.mk (HD.out.below hb); have HB_ := Aside0.mk (below_step HB.out hb); clear HT HO HD HB; have HT := HT_; have HO := HO_; have HD := HD_; have HB := HB_; clear HT_ HO_ HD_ HB_; clear hb ho)) | ((with_reducible refine gate_dst (N := 9) rfl ?_); refine box_event ?hg (N := 9) ?hd (cs := #[.int .u8 0, .slice none 0 0]) (t := 38) ?hr ?_; (case hd => rfl); (case hg => rfl); (case hr => first | (go_simp; done) | (go_simp; rfl)); intro gb hg w3 hbox hb; have HBX := Aside0.mk hbox; have HGE := Aside0.mk (show w.heap.size ≤ gb by rw [hg]; exact HB.out.size); have HT_ := Aside0.mk (HT.out.below hb); have HO_ := Aside0.mk ((Kd.R_mono (Kd.R_below (Kd.R_bound HO.out) hb) (fun k hk => by have := hk.2.2.1; omega) : Kd.R k38 38 _ w.heap.size (fun k => k ≠ gb) u8 out)); have HO2_ := Aside0.mk (Kd.R_below HO2.out hb); have HD_ := Aside0.mk (HD.out.below hb); have HB_ := Aside0.mk (below_step HB.out hb); clear HT HO HO2 HD HB; have HT := HT_; have HO := HO_; have HO2 := HO2_; have HD := HD_; have HB := HB_; clear HT_ HO_ HO2_ HD_ HB_; clear hg hbox hb; have hx0 := blk_cell HBX.out 0; have hx1 := blk_cell HBX.out 1; have hfx0 := blk_frozen HBX.out 0; have hfx1 := blk_frozen HBX.out 1; replace hx0 := hx0.trans rfl; replace hx1 := hx1.trans rfl))
        (try simp only [Act.put, List.setIfInBounds_toArray, List.set_cons_zero, List.set_cons_succ])
        generalize hst : World.setCell (World.setCell w3 ⟨gb, 0, none⟩ (.int .u8 r1)) ⟨gb, 1, none⟩ (.slice A2 r2.length c2) = w4
        have HBX0 := Aside0.mk ((blk_set HBX.out 0 (.int .u8 r1)).trans rfl)
        have HT_ := Aside0.mk (hst ▸ (HT.out.apart HBX.out 0 _).apart HBX0.out 1 _)
        have HO_ := Aside0.mk ((hst ▸ Kd.R_far (p := ⟨gb, 1, none⟩) (Kd.R_far (p := ⟨gb, 0, none⟩) HO.out (fun _ h => h) _) (fun _ h => h) _ : Kd.R k38 38 w4 w.heap.size (fun k => k ≠ gb) u8 out))
        have HO2_ := Aside0.mk (hst ▸ Kd.R_set (Kd.R_set HO2.out HBX.out (by decide) 0 _) HBX0.out (by decide) 1 _)
        have HD_ := Aside0.mk (hst ▸ (HD.out.far HBX.out (by decide) (by decide) 0 _).far HBX0.out (by decide) (by decide) 1 _)
        have HB_ := Aside0.mk (hst ▸ below_set (below_set HB.out HGE.out) HGE.out)
        have HBX_ := Aside0.mk ((hst ▸ (blk_set HBX0.out 1 (.slice A2 r2.length c2)).trans rfl : w4.heap[gb]? = some (.cells #[.int .u8 r1, .slice A2 r2.length c2] 38 (0, 0))))
        clear HT HO HO2 HD HB HBX
        have HT := HT_
        have HO := HO_
        have HO2 := HO2_
        have HD := HD_
        have HB := HB_
        have HBX := HBX_
        clear HT_ HO_ HO2_ HD_ HB_ HBX_
        clear hst hx0 hx1 hfx0 hfx1 HBX0
        go_wp2_with (first | (go_at_call 55; with_reducible refine (keep_calls g b l 0 A n c HLN.out _ HD.out HT.out.at_.2.2 HNC.out HN6.out).mono ?_; rintro e5 w6 ⟨rfl, hd, hn⟩; have HNR := Aside0.mk ((Near.of_below HB.out g).trans hn); have HO_ := Aside0.mk (R38.near (Kd.R_mono HO.out (fun _ _ => trivial)) HD.out.typed hn); clear HO HD HT HO2 HB HBX; have HO := HO_; clear HO_; have HD := Aside0.mk hd; have hz1 := hd.c1; clear hd hn))
        go_quiet (fail)
        go_wp2
        (try rw [Exit.noGoto_ret])
        go_ret2
        refine ⟨_, rfl, ?_, HD.out.drewN _, HNR.out.drewN _⟩
        have h9 := HOO.out
        rw [List.append_nil] at h9
        rw [← h9]
        exact Kd.R_drewN HO.out _
      · rw [if_neg c3] at hS
        injection hS with hS1 hS2
        injection hS2 with hS2 hS3
        subst hS1 hS2 hS3
        have b0 : (r4 == 0) = false := beq_eq_false_iff_ne.mpr ck
        have b3 : (r4 == 3) = false := beq_eq_false_iff_ne.mpr c3
        clear ck c3 hrd
        go_upto_region 7 with (first | (go_at_call 28; go_loud (with_reducible refine (Read_calls A n c l HLN.out r1 r2 r3 r4 _ HT.out.at_.2.2 HNC.out HN6.out HBY.out HRD.out).mono ?_; rintro e4 w2 ⟨v2, rfl, ho, hb⟩; obtain ⟨A2, c2, rfl⟩ := Kd.R_slice ho; have HO2 := Aside0.mk (Kd.R_lower ho HB.out.size); have HT_ := Aside0.mk (HT.out.below hb); have HO_ := Aside0.mk (Kd.R_below HO.out hb); have HD_ := Aside0.mk (HD.out.below hb); have HB_ := Aside0.mk (below_step HB.out hb); clear HT HO HD HB; have HT := HT_; have HO := HO_; have HD := HD_; have HB := HB_; clear HT_ HO_ HD_ HB_; clear hb ho)) | ((with_reducible refine gate_dst (N := 9) rfl ?_); refine box_event ?hg (N := 9) ?hd (cs := #[.int .u8 0, .slice none 0 0]) (t := 38) ?hr ?_; (case hd => rfl); (case hg => rfl); (case hr => first | (go_simp; done) | (go_simp; rfl)); intro gb hg w3 hbox hb; have HBX := Aside0.mk hbox; have HGE := Aside0.mk (show w.heap.size ≤ gb by rw [hg]; exact HB.out.size); have HT_ := Aside0.mk (HT.out.below hb); have HO_ := Aside0.mk ((Kd.R_mono (Kd.R_below (Kd.R_bound HO.out) hb) (fun k hk => by have := hk.2.2.1; omega) : Kd.R k38 38 _ w.heap.size (fun k => k ≠ gb) u8 out)); have HO2_ := Aside0.mk (Kd.R_below HO2.out hb); have HD_ := Aside0.mk (HD.out.below hb); have HB_ := Aside0.mk (below_step HB.out hb); clear HT HO HO2 HD HB; have HT := HT_; have HO := HO_; have HO2 := HO2_; have HD := HD_; have HB := HB_; clear HT_ HO_ HO2_ HD_ HB_; clear hg hbox hb; have hx0 := blk_cell HBX.out 0; have hx1 := blk_cell HBX.out 1; have hfx0 := blk_frozen HBX.out 0; have hfx1 := blk_frozen HBX.out 1; replace hx0 := hx0.trans rfl; replace hx1 := hx1.trans rfl))
        (try simp only [Act.put, List.setIfInBounds_toArray, List.set_cons_zero, List.set_cons_succ])
        generalize hst : World.setCell (World.setCell w3 ⟨gb, 0, none⟩ (.int .u8 r1)) ⟨gb, 1, none⟩ (.slice A2 r2.length c2) = w4
        have HBX0 := Aside0.mk ((blk_set HBX.out 0 (.int .u8 r1)).trans rfl)
        have HT_ := Aside0.mk (hst ▸ (HT.out.apart HBX.out 0 _).apart HBX0.out 1 _)
        have HO_ := Aside0.mk ((hst ▸ Kd.R_far (p := ⟨gb, 1, none⟩) (Kd.R_far (p := ⟨gb, 0, none⟩) HO.out (fun _ h => h) _) (fun _ h => h) _ : Kd.R k38 38 w4 w.heap.size (fun k => k ≠ gb) u8 out))
        have HO2_ := Aside0.mk (hst ▸ Kd.R_set (Kd.R_set HO2.out HBX.out (by decide) 0 _) HBX0.out (by decide) 1 _)
        have HD_ := Aside0.mk (hst ▸ (HD.out.far HBX.out (by decide) (by decide) 0 _).far HBX0.out (by decide) (by decide) 1 _)
        have HB_ := Aside0.mk (hst ▸ below_set (below_set HB.out HGE.out) HGE.out)
        have HBX_ := Aside0.mk ((hst ▸ (blk_set HBX0.out 1 (.slice A2 r2.length c2)).trans rfl : w4.heap[gb]? = some (.cells #[.int .u8 r1, .slice A2 r2.length c2] 38 (0, 0))))
        clear HT HO HO2 HD HB HBX
        have HT := HT_
        have HO := HO_
        have HO2 := HO2_
        have HD := HD_
        have HB := HB_
        have HBX := HBX_
        clear HT_ HO_ HO2_ HD_ HB_ HBX_
        clear hst hx0 hx1 hfx0 hfx1 HBX0
        go_wp2_with (first | (go_at_call 55; with_reducible refine (keep_calls g b [] 0 none 0 0 rfl _ HD.out (Kd.C_nil _ _) (Nat.le_refl _) (Nat.zero_le _)).mono ?_; rintro e5 w6 ⟨rfl, hd, hn⟩; have HNR := Aside0.mk ((Near.of_below HB.out g).trans hn); have HO_ := Aside0.mk (R38.near (Kd.R_mono HO.out (fun _ _ => trivial)) HD.out.typed hn); clear HO HD HT HO2 HB HBX; have HO := HO_; clear HO_; have HD := Aside0.mk hd; have hz1 := hd.c1; have hf1 := hd.fz 1; clear hd hn))
        have HO1 := Aside0.mk (R38.near HO.out HD.out.typed ((Near.refl _ g).set_ 1 (.int .i64 r4)))
        have HD1 := Aside0.mk (HD.out.setE r4)
        have HN1 := Aside0.mk (HNR.out.set_ 1 (.int .i64 r4))
        clear hz1 hf1 HO HD HNR
        (try simp only [Act.put, List.setIfInBounds_toArray, List.set_cons_zero, List.set_cons_succ])
        generalize World.setCell w6 ⟨g, 1, none⟩ (.int .i64 r4) = w7 at HO1 HD1 HN1 ⊢
        have hz2 := HD1.out.c1
        go_quiet (fail)
        go_wp2
        (try rw [Exit.noGoto_ret])
        go_ret2
        refine ⟨_, rfl, ?_, HD1.out.drewN _, HN1.out.drewN _⟩
        have h9 := HOO.out
        rw [List.append_nil] at h9
        rw [← h9]
        exact Kd.R_drewN HO1.out _
end Go.Proofs.Ytagmefjpnmjcjab.Fh
