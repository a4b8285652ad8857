/- Cut to what this claim names. -/
import Derived.Test.YtagmefjpnmjcjabQMsR
/- The document's Of, walked by hand. -/
namespace Go.Proofs.Ytagmefjpnmjcjab.Mh
open Go.RowKit Go.Proofs.YtagmefjpnmjcjabW.PrintWords Go.Proofs.YtagmefjpnmjcjabW.PrintLast Go.Proofs.YtagmefjpnmjcjabW.PrintMore
open Go.Proofs.Ytagmefjpnmjcjab.Fr (S41 k41)
open Go.Proofs.Ytagmefjpnmjcjab.FrNum (fits rd_drop be Bytes)
open Go.Proofs.Ytagmefjpnmjcjab.Fh (T8 T8.of_R Same41_calls)
attribute [local go_sem] max2_int min2_int max_two min_two
set_option linter.unusedVariables false
set_option linter.unusedSimpArgs false
theorem size69 : (Try.prog.info? 69).map (·.size) = some 3 := by kernel_rfl
theorem size41 : (Try.prog.info? 41).map (·.size) = some 2 := by kernel_rfl
theorem OfJ.fresh {w W W' : World} {g1 g2 g6 g : Nat} {c : Int} {vf : Value} {body : List Int} {v1 v2 vz vr : Value} {z rest ns : List Int} {ts : List ByteArray} (h : OfJ w W g1 g2 g6 c vf body v1 v2 vz vr z rest ns ts) {cs : Array Value} (hg : W.heap[g]? = some (.cells cs 41 (0, 0))) (hne : g1 ≠ g) (hge : w.heap.size ≤ g) (s : St W W' g) : OfJ w W' g1 g2 g6 c vf body v1 v2 vz vr z rest ns ts :=
  ⟨s.blk h.x1 hne, s.blk h.x2 (ne_tp hg h.x2 (by decide)), s.blk h.x6 (ne_tp hg h.x6 (by decide)), St_TB s h.tf hg (by decide) hge, Kd.R_mono (s.R (Kd.R_types h.rz hg (by decide)) (fun k hk => hk.2)) (fun _ _ => trivial), St_TB s h.tb hg (by decide) hge,
    Kd.R_mono (s.R (Kd.R_types h.r1 hg (by decide)) (fun k hk => hk.2)) (fun _ _ => trivial), Kd.R_mono (s.R (Kd.R_types h.r2 hg (by decide)) (fun k hk => hk.2)) (fun _ _ => trivial), s.below h.bel hge, h.ge, h.ne⟩
/-- Two frames side by side, just laid. -/
theorem Same41_lits (W : World) (a : Int) (A : Option Addr) (n cc : Nat) (l : List Int) (hn : l.length = n) (b : Int) (B : Option Addr) (m d : Nat) (k : List Int) (hm : k.length = m) (r : Bool) (hC : Kd.C (Kd.int .u8) W A n l) (hc : n ≤ cc) (hD : Kd.C (Kd.int .u8) W B m k) (hd : m ≤ d) (hl : n ≤ 1000000) (h : decide (a = b ∧ l = k) = r) :
    Calls Try.prog 30 #[.slice (some ⟨W.heap.size, 0, none⟩) 1 1, .slice (some ⟨W.heap.size + 1, 0, none⟩) 1 1] ((W.alloc (.cells #[.int .u8 a, .slice A n cc] 41 (0, 0))).alloc (.cells #[.int .u8 b, .slice B m d] 41 (0, 0))) fun e w' => e = .returned (.bool r) ∧ Below W.heap.size W w' := by
  have hsz : W.heap.size + 1 = (World.alloc W (.cells #[.int .u8 a, .slice A n cc] 41 (0, 0))).heap.size := by first | exact (Array.size_push (xs := W.heap) _).symm | go_simp | simp
  rw [hsz]
  clear hsz
  have b1 := below_alloc (Below.refl W.heap.size W) (.cells #[.int .u8 a, .slice A n cc] 41 (0, 0))
  have n1 := blk_new W (.cells #[.int .u8 a, .slice A n cc] 41 (0, 0))
  generalize World.alloc W (.cells #[.int .u8 a, .slice A n cc] 41 (0, 0)) = W1 at b1 n1 ⊢
  have b2 := below_alloc (Below.refl W1.heap.size W1) (.cells #[.int .u8 b, .slice B m d] 41 (0, 0))
  have n2 := blk_new W1 (.cells #[.int .u8 b, .slice B m d] 41 (0, 0))
  generalize World.alloc W1 (.cells #[.int .u8 b, .slice B m d] 41 (0, 0)) = W2 at b2 n2 ⊢
  have n3 := (b2.block W.heap.size (blk_lt n1)).trans n1
  have b3 := below_step b1 b2
  have h41 : ∀ (a b : Int) (l k : List Int), ([⟨a, l⟩] : List S41) = [⟨b, k⟩] ↔ (a = b ∧ l = k) := fun a b l k => by simp
  refine (Same41_calls (some ⟨W.heap.size, 0, none⟩) 1 1 [⟨a, l⟩] rfl (some ⟨W1.heap.size, 0, none⟩) 1 1 [⟨b, k⟩] rfl r W2 (C41_one hn hc (Kd.C_below hC b3) n3) (Nat.le_refl _) (C41_one hm hd (Kd.C_below hD b3) n2) (Nat.le_refl _) (by omega) (fun x hx => by rw [List.mem_singleton.1 hx]; show l.length ≤ 1000000; omega) (by rw [← h, decide_eq_decide]; exact h41 _ _ _ _)).mono ?_
  rintro e w' ⟨he, hb⟩
  exact ⟨he, below_step b3 hb⟩
attribute [local irreducible] T8 TB

set_option maxHeartbeats 2500000 in
set_option maxRecDepth 100000 in
theorem ROf_calls (c : Int) (Af : Option Addr) (fn cf : Nat) (body : List Int) (hfn : body.length = fn) (q0 : Int) (q1 : List Int) (q2 : List ByteArray) (q3 : Int) (w : World) (hC : Kd.C (Kd.int .u8) w Af fn body) (hc : fn ≤ cf) (hB : Bytes body) (hcr : 0 ≤ c ∧ c < 256) (hl : fn ≤ 2000) (h : ofS c body = ((q0, q1, q2), q3)) :
    Calls Try.prog 46 #[.agg #[.int .u8 c, .slice Af fn cf]] w fun e w' => ∃ v1 v2 : Value, e = .returned (.tuple #[.agg #[.int .i64 q0, v1, v2], .int .i64 q3]) ∧ Kd.R (Kd.int .u64) 23 w' w.heap.size (fun _ => True) v1 q1 ∧ Kd.R Kd.string 9 w' w.heap.size (fun _ => True) v2 q2 ∧ Below w.heap.size w w' := by
  have HB := Aside0.mk (Below.refl w.heap.size w)
  have HT0 := Aside0.mk (TB.of_C hC hfn hc)
  have HFN := Aside0.mk hfn
  have HBY := Aside0.mk hB
  have HFL := Aside0.mk (show fn ≤ 1000000 by omega)
  have HH := Aside0.mk h
  have hcw : wrap64 c = c := by unfold wrap64; omega
  have hu69 := Try.underlying69
  have hu41 := Try.underlying41
  have hu9 := Try.underlying9
  clear hC hc hB hcr h
  cases hs : szS c with
  | none =>
    have hz := HH.out
    unfold ofS at hz
    rw [hs] at hz
    injection hz with hz e3
    injection hz with e0 hz
    injection hz with e1 e2
    subst e0 e1 e2 e3
    obtain ⟨zi, hzi⟩ : ∃ x : List Int, [] = x := ⟨_, rfl⟩
    obtain ⟨zl, hzl⟩ : ∃ n, zi.length = n := ⟨_, rfl⟩
    have HZN := Aside0.mk hzl
    have HRS := Aside0.mk (show refSizes c = (zi, false) by unfold refSizes; rw [hs, hzi])
    clear hs hzi hzl hl
    go_enter Try.func46, Try.ntmps46
    go_wp2_with (first | ((with_reducible refine gate_dst (N := 1) rfl ?_); refine box_event ?hg (N := 1) ?hd (cs := #[.int .u8 c, .slice Af fn cf]) (t := 41) ?hr ?_; (case hd => rfl); (case hg => rfl); (case hr => first | (go_simp; done) | (go_simp; rfl)); intro g1 hgb wa hbox hb; have HBX1 := Aside0.mk hbox; have HB_ := Aside0.mk hb; clear HB hgb hbox hb; have HB := HB_; clear HB_) | ((with_reducible refine gate_dst (N := 2) rfl ?_); refine box_event ?hg (N := 2) ?hd (cs := #[.int .i64 0, .slice none 0 0, .slice none 0 0]) (t := 69) ?hr ?_; (case hd => rfl); (case hg => rfl); (case hr => first | (go_simp; done) | (go_simp; rfl)); intro g2 hgb wb hbox hb; have HBX2 := Aside0.mk hbox; have HGE2 := Aside0.mk (show w.heap.size ≤ g2 by rw [hgb]; exact HB.out.size); have HBX1_ := Aside0.mk ((hb.block g1 (blk_lt HBX1.out)).trans HBX1.out); have HB_ := Aside0.mk (below_step HB.out hb); clear HBX1 HB; have HBX1 := HBX1_; have HB := HB_; clear HBX1_ HB_; clear hgb hbox hb; have hg1_0 : wb.cell? ⟨g1, 0, none⟩ = some (.int .u8 c) := (blk_cell HBX1.out 0).trans rfl; have hg1_1 : wb.cell? ⟨g1, 1, none⟩ = some (.slice Af fn cf) := (blk_cell HBX1.out 1).trans rfl) | (go_at_call 63; with_reducible refine (RSizes_calls c zi false _ HRS.out).mono ?_; rintro e wc ⟨v, rfl, ho, hb⟩; obtain ⟨Az, cz, rfl⟩ := Kd.R_slice ho; rw [HZN.out] at ho ⊢; have HRZ := Aside0.mk (Kd.R_lower ho HB.out.size); have HB_ := Aside0.mk (below_step HB.out hb); have HBX1_ := Aside0.mk ((hb.block g1 (blk_lt HBX1.out)).trans HBX1.out); have HBX2_ := Aside0.mk ((hb.block g2 (blk_lt HBX2.out)).trans HBX2.out); clear HB HBX1 HBX2; have HB := HB_; have HBX1 := HBX1_; have HBX2 := HBX2_; clear HB_ HBX1_ HBX2_; clear ho hb; have hg1_0 : wc.cell? ⟨g1, 0, none⟩ = some (.int .u8 c) := (blk_cell HBX1.out 0).trans rfl; have hg1_1 : wc.cell? ⟨g1, 1, none⟩ = some (.slice Af fn cf) := (blk_cell HBX1.out 1).trans rfl) | ((with_reducible refine gate_ (.store 69 (.tmp 2) (.tmp 26)) rfl ?_); refine store_event 69 (.tmp 2) (.tmp 26) rfl rfl rfl (g := g2) #[.int .i64 0, .slice none 0 0, .slice none 0 0] #[.int .i64 0, .slice none 0 0, .slice none 0 0] [.int .i64 0, .slice none 0 0, .slice none 0 0] rfl rfl rfl size69 HBX2.out (by simp) (by rfl) rfl ?_; intro wz hbox hs; have HB_ := Aside0.mk (hs.below HB.out HGE2.out); clear HB; have HB := HB_; clear HB_; have hz0 : wz.cell? ⟨g2, 0, none⟩ = some (.int .i64 0) := (blk_cell hbox 0).trans rfl; have hz1 : wz.cell? ⟨g2, 1, none⟩ = some (.slice none 0 0) := (blk_cell hbox 1).trans rfl; have hz2 : wz.cell? ⟨g2, 2, none⟩ = some (.slice none 0 0) := (blk_cell hbox 2).trans rfl; clear hbox hs))
    (try simp only [Exit.inBlock, Exit.then])
    refine bodyPost_ret (v := .tuple #[.agg #[.int .i64 0, .slice none 0 0, .slice none 0 0], .int .i64 2]) ?_ rfl ⟨_, _, rfl, Kd.R_nil _ _ _ _ _, Kd.R_nil _ _ _ _ _, HB.out⟩
    rw [results_cell_tmp rfl]
    go_simp
  | some p =>
    obtain ⟨z, tx⟩ := p
    have HSZ := Aside0.mk hs
    obtain ⟨zi, hzi⟩ : ∃ x : List Int, zI z = x := ⟨_, rfl⟩
    obtain ⟨zl, hzl⟩ : ∃ n, zi.length = n := ⟨_, rfl⟩
    have HZN := Aside0.mk hzl
    have HZI := Aside0.mk hzi
    have HZL := Aside0.mk (show z.length = zl by rw [← hzl, ← hzi, zI_length])
    have HRS := Aside0.mk (show refSizes c = (zi, true) by unfold refSizes; rw [hs, ← hzi])
    have HZS := Aside0.mk (szS_cases hs).2.2.1
    have HZ3 := Aside0.mk (show zl ≤ 3 by have := (szS_cases hs).2.1; have := HZL.out; omega)
    have HNJ := Aside0.mk (NumJ.start z HBY.out (show body.length ≤ 2000 by omega))
    have HL2 := Aside0.mk hl
    clear hs hzi hzl hl
    go_enter Try.func46, Try.ntmps46
    go_wp2_with (first | ((with_reducible refine gate_dst (N := 1) rfl ?_); refine box_event ?hg (N := 1) ?hd (cs := #[.int .u8 c, .slice Af fn cf]) (t := 41) ?hr ?_; (case hd => rfl); (case hg => rfl); (case hr => first | (go_simp; done) | (go_simp; rfl)); intro g1 hgb wa hbox hb; have HBX1 := Aside0.mk hbox; have HB_ := Aside0.mk hb; clear HB hgb hbox hb; have HB := HB_; clear HB_) | ((with_reducible refine gate_dst (N := 2) rfl ?_); refine box_event ?hg (N := 2) ?hd (cs := #[.int .i64 0, .slice none 0 0, .slice none 0 0]) (t := 69) ?hr ?_; (case hd => rfl); (case hg => rfl); (case hr => first | (go_simp; done) | (go_simp; rfl)); intro g2 hgb wb hbox hb; have HBX2 := Aside0.mk hbox; have HGE2 := Aside0.mk (show w.heap.size ≤ g2 by rw [hgb]; exact HB.out.size); have HBX1_ := Aside0.mk ((hb.block g1 (blk_lt HBX1.out)).trans HBX1.out); have HB_ := Aside0.mk (below_step HB.out hb); clear HBX1 HB; have HBX1 := HBX1_; have HB := HB_; clear HBX1_ HB_; clear hgb hbox hb; have hg1_0 : wb.cell? ⟨g1, 0, none⟩ = some (.int .u8 c) := (blk_cell HBX1.out 0).trans rfl; have hg1_1 : wb.cell? ⟨g1, 1, none⟩ = some (.slice Af fn cf) := (blk_cell HBX1.out 1).trans rfl) | (go_at_call 63; with_reducible refine (RSizes_calls c zi true _ HRS.out).mono ?_; rintro e wc ⟨v, rfl, ho, hb⟩; obtain ⟨Az, cz, rfl⟩ := Kd.R_slice ho; rw [HZN.out] at ho ⊢; have HRZ := Aside0.mk (Kd.R_lower ho HB.out.size); have HB_ := Aside0.mk (below_step HB.out hb); have HBX1_ := Aside0.mk ((hb.block g1 (blk_lt HBX1.out)).trans HBX1.out); have HBX2_ := Aside0.mk ((hb.block g2 (blk_lt HBX2.out)).trans HBX2.out); clear HB HBX1 HBX2; have HB := HB_; have HBX1 := HBX1_; have HBX2 := HBX2_; clear HB_ HBX1_ HBX2_; clear ho hb; have hg1_0 : wc.cell? ⟨g1, 0, none⟩ = some (.int .u8 c) := (blk_cell HBX1.out 0).trans rfl; have hg1_1 : wc.cell? ⟨g1, 1, none⟩ = some (.slice Af fn cf) := (blk_cell HBX1.out 1).trans rfl) | ((with_reducible refine gate_dst (N := 6) rfl ?_); refine box_event ?hg (N := 6) ?hd (cs := #[.int .i64 0, .slice none 0 0, .slice none 0 0]) (t := 69) ?hr ?_; (case hd => rfl); (case hg => rfl); (case hr => first | (go_simp; done) | (go_simp; rfl)); intro g6 hgb wd hbox hb; have HBX6 := Aside0.mk hbox; have HGE6 := Aside0.mk (show w.heap.size ≤ g6 by rw [hgb]; exact HB.out.size); have HN26 := Aside0.mk (show g2 ≠ g6 by have := blk_lt HBX2.out; omega); have HBX1_ := Aside0.mk ((hb.block g1 (blk_lt HBX1.out)).trans HBX1.out); have HBX2_ := Aside0.mk ((hb.block g2 (blk_lt HBX2.out)).trans HBX2.out); have HRZ_ := Aside0.mk (Kd.R_below HRZ.out hb); have HB_ := Aside0.mk (below_step HB.out hb); clear HBX1 HBX2 HRZ HB; have HBX1 := HBX1_; have HBX2 := HBX2_; have HRZ := HRZ_; have HB := HB_; clear HBX1_ HBX2_ HRZ_ HB_; clear hgb hbox hb) | ((with_reducible refine gate_ (.store 69 (.tmp 6) (.tmp 30)) rfl ?_); refine store_event 69 (.tmp 6) (.tmp 30) rfl rfl rfl (g := g6) #[.int .i64 0, .slice none 0 0, .slice none 0 0] #[.int .i64 c, .slice none 0 0, .slice none 0 0] [.int .i64 c, .slice none 0 0, .slice none 0 0] rfl rfl rfl size69 HBX6.out (by simp) (by rfl) rfl ?_; intro wf hbox hs; have HBX1_ := Aside0.mk (hs.blk HBX1.out (ne_tp HBX6.out HBX1.out (by decide))); have HBX2_ := Aside0.mk (hs.blk HBX2.out HN26.out); have HRZ_ := Aside0.mk (Kd.R_mono (hs.R (Kd.R_types HRZ.out HBX6.out (by decide)) (fun k hk => hk.2)) (fun _ _ => trivial)); have HB_ := Aside0.mk (hs.below HB.out HGE6.out); clear HBX1 HBX2 HRZ HB; have HBX1 := HBX1_; have HBX2 := HBX2_; have HRZ := HRZ_; have HB := HB_; clear HBX1_ HBX2_ HRZ_ HB_; have HBX6_ := Aside0.mk hbox; clear HBX6 hbox hs; have HBX6 := HBX6_; clear HBX6_; have hg1_0 : wf.cell? ⟨g1, 0, none⟩ = some (.int .u8 c) := (blk_cell HBX1.out 0).trans rfl; have hg1_1 : wf.cell? ⟨g1, 1, none⟩ = some (.slice Af fn cf) := (blk_cell HBX1.out 1).trans rfl))
    have HO := Aside0.mk (show OfJ w wf g1 g2 g6 c (.slice Af fn cf) body (.slice none 0 0) (.slice none 0 0) (.slice Az zl cz) (.slice Af fn cf) zi body [] [] from ⟨HBX1.out, HBX2.out, HBX6.out, HT0.out.below (Nat.le_refl _) HB.out, HRZ.out, HT0.out.below (Nat.le_refl _) HB.out, Kd.R_nil _ _ _ _ _, Kd.R_nil _ _ _ _ _, HB.out, ⟨HGE2.out, HGE6.out⟩, HN26.out⟩)
    clear HBX1 HBX2 HBX6 HB HGE2 HGE6 HN26 HRZ
    (try simp only [Act.put, List.setIfInBounds_toArray, List.set_cons_zero, List.set_cons_succ])
    go_loopg [7, 8] (zl + 1) (fun kq v7 v8 w' => ∃ (i : Nat) (v1 : Value) (Ar : Option Addr) (rn cr : Nat) (rest ns : List Int), v7 = .slice Ar rn cr ∧ v8 = .int .i64 (i : Int) ∧ Aside0 (kq + i = zl + 1) ∧ Aside0 (i ≤ zl) ∧ Aside0 (rest.length = rn) ∧ Aside0 (OfJ w w' g1 g2 g6 c (.slice Af fn cf) body v1 (.slice none 0 0) (.slice Az zl cz) (.slice Ar rn cr) zi rest ns []) ∧ Aside0 (NumJ z body i rest ns))
    case atStart => exact ⟨0, _, Af, fn, cf, body, [], rfl, rfl, ⟨by omega⟩, ⟨by omega⟩, HFN, HO, HNJ⟩
    case round =>
      clear HO HNJ
      obtain ⟨i, v1, Ar, rn, cr, rest, ns, rfl, rfl, HKQ, HI, HRN, HO, HNJ⟩ := hrel
      obtain ⟨gk, rfl⟩ : ∃ gk', gk = gk' + 1 := ⟨gk - 1, by have := HKQ.out; have := HI.out; omega⟩
      by_cases ci : i < zl
      · have cb_ : decide ((i : Int) < (zl : Int)) = true := decide_eq_true (by omega)
        have p1 : 0 ≤ (i : Int) := by omega
        have p2 : (i : Int) < (zl : Int) := by omega
        have hwi : wrap64 ((i : Int) + 1) = ((i + 1 : Nat) : Int) := by have := HZ3.out; unfold wrap64; omega
        have hiz : i < z.length := by rw [HZL.out]; exact ci
        have hs4 := HZS.out z[i] (List.getElem_mem hiz)
        obtain ⟨s, hs⟩ : ∃ s, z[i] = s := ⟨_, rfl⟩
        rw [hs] at hs4
        have hrz : rd zi (i : Int) = (s : Int) := by rw [← HZI.out]; simp [rd, zI, List.getD, hiz, hs]
        obtain ⟨ad, e7, hv⟩ := Kd.at_int (R_at HO.out.rz) (i : Int) p1 p2
        cases e7
        simp only [Int.toNat_natCast] at hv
        rw [hrz] at hv
        obtain ⟨⟨r1, r2, r3⟩, hr⟩ : ∃ r, num1S s rest = r := ⟨_, rfl⟩
        have hstep := HNJ.out.step hiz hs (by omega) hr
        have HNR := Aside0.mk hr
        have HS18 := Aside0.mk (show 1 ≤ s ∧ s ≤ 8 by omega)
        have HRB := Aside0.mk (show Bytes rest from HNJ.out.bytes)
        have HRL := Aside0.mk (show rn ≤ 1000000 by have := HNJ.out.short; have := HRN.out; omega)
        have HNL := Aside0.mk (show ns.length ≤ 3 by have := HNJ.out.len; have := HZ3.out; omega)
        obtain ⟨r2n, hr2⟩ : ∃ n, r2.length = n := ⟨_, rfl⟩
        have HR2N := Aside0.mk hr2
        clear hs hr hs4 hr2 hiz hrz
        by_cases c3 : r3 = 0
        · have HNJ2 := Aside0.mk (hstep.1 c3)
          subst c3
          clear hstep
          go_wp2_with (first | (go_at_call 18; with_reducible refine (RTake_calls Ar rn cr rest HRN.out s HS18.out r1 r2 0 _ (HO.out.tb).at_.2.2 (HO.out.tb).at_.2.1 HRB.out HRL.out HNR.out).mono ?_; rintro e wt ⟨v, rfl, hT, hb⟩; obtain ⟨At, ct, rfl⟩ := hT.slice; rw [HR2N.out] at hT ⊢; have HTK := Aside0.mk (TB.of_T8 (w := w) hT); have HO_ := Aside0.mk (HO.out.below hb); clear HO; have HO := HO_; clear HO_; clear hb hT; have hq : wt.cell? ⟨g6, 1, none⟩ = some v1 := (blk_cell HO.out.x6 1).trans rfl; have HBX2 := Aside0.mk HO.out.x2; have HB := Aside0.mk HO.out.bel; have HGE2 := Aside0.mk HO.out.ge.1) | ((with_reducible refine gate_builtin (b := .append) (xs := #[.tmp 53, .tmp 55]) rfl ?_); at_builtin; refine Kd.R_append (Kd.int .u64) (w0 := w) w.heap.size rfl (.tmp 53) (.tmp 55) 64 23 (.int .u64 0) 8 rfl Try.underlying64 info23 rfl (by decide) (by omega) v1 ns r1 [.int .u64 r1] (fun _ => True) (fun _ => False) rfl rfl rfl (fun _ hk => hk.elim) (fun _ _ => trivial) HO.out.r1 HO.out.bel (Below.size HO.out.bel) (by have := HNL.out; omega) ?_; intro v3 wu ho hb_ hg hat; clear hb_ hat; have HRW := Aside0.mk ho; have HGR := Aside0.mk hg; clear ho hg; have HX6 := Aside0.mk (HO.out.number_x6 HGR.out)) | ((with_reducible refine gate_ (.store 64 (.tmp 57) (.tmp 56)) rfl ?_); refine store_event 64 (.tmp 57) (.tmp 56) rfl rfl rfl (g := g6) (off := 1) #[.int .i64 c, v1, .slice none 0 0] #[.int .i64 c, v3, .slice none 0 0] [v3] rfl rfl (Kd.R_val HRW.out).1 size64 HX6.out (by simp) (by simp [(Kd.R_val HRW.out).2]) rfl ?_; intro wv hbox hs; have HO_ := Aside0.mk ((HO.out.left HTK.out).number HRW.out HGR.out hbox hs); clear HO; have HO := HO_; clear HO_; clear hbox hs HRW HGR HX6 HTK))
          go_roundg gk
          case measure => omega
          case rel => exact ⟨i + 1, v3, At, r2n, ct, r2, ns ++ [r1], rfl, congrArg (Value.int .i64) (by omega), ⟨by have := HKQ.out; omega⟩, ⟨by omega⟩, HR2N, HO, HNJ2⟩
        · have hz := (of_noN HSZ.out (hstep.2 c3)).symm.trans HH.out
          injection hz with hz e3
          injection hz with e0 hz
          injection hz with e1 e2
          subst e0 e1 e2 e3
          have b0 : (r3 != 0) = true := bne_iff_ne.mpr c3
          clear hstep c3
          go_wp2_with (first | (go_at_call 18; with_reducible refine (RTake_calls Ar rn cr rest HRN.out s HS18.out r1 r2 r3 _ (HO.out.tb).at_.2.2 (HO.out.tb).at_.2.1 HRB.out HRL.out HNR.out).mono ?_; rintro e wt ⟨v, rfl, hT, hb⟩; obtain ⟨At, ct, rfl⟩ := hT.slice; rw [HR2N.out] at hT ⊢; have HTK := Aside0.mk (TB.of_T8 (w := w) hT); have HO_ := Aside0.mk (HO.out.below hb); clear HO; have HO := HO_; clear HO_; clear hb hT; have hq : wt.cell? ⟨g6, 1, none⟩ = some v1 := (blk_cell HO.out.x6 1).trans rfl; have HBX2 := Aside0.mk HO.out.x2; have HB := Aside0.mk HO.out.bel; have HGE2 := Aside0.mk HO.out.ge.1) | ((with_reducible refine gate_ (.store 69 (.tmp 2) (.tmp 51)) rfl ?_); refine store_event 69 (.tmp 2) (.tmp 51) rfl rfl rfl (g := g2) #[.int .i64 0, .slice none 0 0, .slice none 0 0] #[.int .i64 0, .slice none 0 0, .slice none 0 0] [.int .i64 0, .slice none 0 0, .slice none 0 0] rfl rfl rfl size69 HBX2.out (by simp) (by rfl) rfl ?_; intro wz hbox hs; have HB_ := Aside0.mk (hs.below HB.out HGE2.out); clear HB; have HB := HB_; clear HB_; have hz0 : wz.cell? ⟨g2, 0, none⟩ = some (.int .i64 0) := (blk_cell hbox 0).trans rfl; have hz1 : wz.cell? ⟨g2, 1, none⟩ = some (.slice none 0 0) := (blk_cell hbox 1).trans rfl; have hz2 : wz.cell? ⟨g2, 2, none⟩ = some (.slice none 0 0) := (blk_cell hbox 2).trans rfl; clear hbox hs))
          (try simp only [Exit.inBlock, Exit.then])
          refine bodyPost_ret (v := .tuple #[.agg #[.int .i64 0, .slice none 0 0, .slice none 0 0], .int .i64 2]) ?_ rfl ⟨_, _, rfl, Kd.R_nil _ _ _ _ _, Kd.R_nil _ _ _ _ _, HB.out⟩
          rw [results_cell_tmp rfl]
          go_simp
      · have cb_ : decide ((i : Int) < (zl : Int)) = false := decide_eq_false (by omega)
        have hiz : i = z.length := by have := HI.out; have := HZL.out; omega
        subst hiz
        have HNS := Aside0.mk HNJ.out.stop
        have HWF := Aside0.mk HNJ.out.wf
        have HTJ := Aside0.mk (TxtJ.start HNJ.out.bytes HNJ.out.short)
        go_wp2
        go_loopg [7] (rest.length + 2) (fun kq v7 w' => ∃ (v2 : Value) (Ar : Option Addr) (rn cr : Nat) (rest2 : List Int) (ts : List ByteArray), v7 = .slice Ar rn cr ∧ Aside0 (rest2.length + 1 ≤ kq) ∧ Aside0 (rest2.length = rn) ∧ Aside0 (OfJ w w' g1 g2 g6 c (.slice Af fn cf) body v1 v2 (.slice Az zl cz) (.slice Ar rn cr) zi rest2 ns ts) ∧ Aside0 (TxtJ rest rest2 ts))
        case atStart => exact ⟨_, Ar, rn, cr, rest, [], rfl, ⟨by omega⟩, HRN, HO, HTJ⟩
        case round =>
          clear HO HTJ HNJ HKQ HI HRN
          obtain ⟨v2, Ar, rn, cr, rest2, ts, rfl, HKQ, HRN, HO, HTJ⟩ := hrel
          obtain ⟨gk, rfl⟩ : ∃ gk', gk = gk' + 1 := ⟨gk - 1, by have := HKQ.out; omega⟩
          by_cases cr0 : rest2 = []
          · subst cr0
            have hrn0 : rn = 0 := by rw [← HRN.out]; rfl
            subst hrn0
            obtain ⟨A1, c1, e1⟩ := Kd.R_slice HO.out.r1
            obtain ⟨A2, c2, e2⟩ := Kd.R_slice HO.out.r2
            subst e1 e2
            obtain ⟨n1, hn1⟩ : ∃ n, ns.length = n := ⟨_, rfl⟩
            obtain ⟨n2, hn2⟩ : ∃ n, ts.length = n := ⟨_, rfl⟩
            rw [hn1, hn2] at HO
            have HN1 := Aside0.mk hn1
            have HN2 := Aside0.mk hn2
            have HTL := Aside0.mk (show n2 ≤ 1000000 by have := HTJ.out.sum; omega)
            obtain ⟨⟨f0, fb, fe⟩, hfr⟩ : ∃ r, frameS c ns ts = r := ⟨_, rfl⟩
            have hend := of_end HBY.out HSZ.out HNS.out HTJ.out.stop hfr
            have HFR := Aside0.mk hfr
            have hq0 : wr.cell? ⟨g6, 0, none⟩ = some (.int .i64 c) := (blk_cell HO.out.x6 0).trans rfl
            have hq1 : wr.cell? ⟨g6, 1, none⟩ = some (.slice A1 n1 c1) := (blk_cell HO.out.x6 1).trans rfl
            have hq2 : wr.cell? ⟨g6, 2, none⟩ = some (.slice A2 n2 c2) := (blk_cell HO.out.x6 2).trans rfl
            obtain ⟨bn, hbn⟩ : ∃ n, fb.length = n := ⟨_, rfl⟩
            have HBN := Aside0.mk hbn
            clear hn1 hn2 hfr hbn
            by_cases c3 : fe = 0
            · obtain ⟨e0, e1, hz⟩ := hend.1 c3
              replace e0 := e0.symm
              replace e1 := e1.symm
              subst c3 e0 e1
              replace hz := hz.symm.trans HH.out
              injection hz with hz e3
              injection hz with e0 hz
              injection hz with e1 e2
              subst e0 e1 e2 e3
              have hbf : fn = bn := HFN.out.symm.trans HBN.out
              subst hbf
              clear hend
              go_wp2_with (first | (go_at_call 44; with_reducible refine (RFrame_calls c A1 n1 c1 ns HN1.out A2 n2 c2 ts HN2.out c body 0 _ (R_at HO.out.r1) (Kd.R_reads' HO.out.r1).2.1 (R_at HO.out.r2) (Kd.R_reads' HO.out.r2).2.1 HTL.out HWF.out HFR.out).mono ?_; rintro e wp ⟨v, rfl, ho, hb⟩; obtain ⟨Ab, cb, rfl⟩ := Kd.R_slice ho; rw [HBN.out] at ho ⊢; have HFB := Aside0.mk (TB.of_T8 (w := w) (T8.of_R ho)); have HO_ := Aside0.mk (HO.out.below hb); clear HO; have HO := HO_; clear HO_; clear hb ho) | ((with_reducible refine gate_dst (N := 15) rfl ?_); refine box_event ?hg (N := 15) ?hd (cs := #[.int .u8 0, .slice none 0 0]) (t := 41) ?hr ?_; (case hd => rfl); (case hg => rfl); (case hr => first | (go_simp; done) | (go_simp; rfl)); intro g15 hgb wq hbox hb; have HBX15 := Aside0.mk hbox; have HGE15 := Aside0.mk (show w.heap.size ≤ g15 by rw [hgb]; exact HO.out.bel.size); have HN115 := Aside0.mk (show g1 ≠ g15 by have := blk_lt HO.out.x1; omega); have HFB_ := Aside0.mk (HFB.out.below HO.out.bel.size hb); have HO_ := Aside0.mk (HO.out.below hb); clear HFB HO; have HFB := HFB_; have HO := HO_; clear HFB_ HO_; clear hgb hbox hb) | ((with_reducible refine gate_ (.store 41 (.tmp 15) (.tmp 81)) rfl ?_); refine store_event 41 (.tmp 15) (.tmp 81) rfl rfl rfl (g := g15) #[.int .u8 0, .slice none 0 0] #[.int .u8 c, .slice Ab fn cb] [.int .u8 c, .slice Ab fn cb] rfl rfl rfl size41 HBX15.out (by simp) (by rfl) rfl ?_; intro ws hbox hs; have HFB_ := Aside0.mk (St_TB hs HFB.out HBX15.out (by decide) HGE15.out); have HO_ := Aside0.mk (HO.out.fresh HBX15.out HN115.out HGE15.out hs); clear HFB HO; have HFB := HFB_; have HO := HO_; clear HFB_ HO_; have HBX15_ := Aside0.mk hbox; clear HBX15 hbox hs; have HBX15 := HBX15_; clear HBX15_; have HBX2 := Aside0.mk HO.out.x2; have HB := Aside0.mk HO.out.bel; have HGE2 := Aside0.mk HO.out.ge.1; have hg15_0 : ws.cell? ⟨g15, 0, none⟩ = some (.int .u8 c) := (blk_cell HBX15.out 0).trans rfl; have hg15_1 : ws.cell? ⟨g15, 1, none⟩ = some (.slice Ab fn cb) := (blk_cell HBX15.out 1).trans rfl; have h15a_0 : (World.alloc ws (.cells #[.int .u8 c, .slice Af fn cf] 41 (0, 0))).cell? ⟨g15, 0, none⟩ = some (.int .u8 c) := (blk_cell (((below_alloc (Below.refl ws.heap.size ws) (.cells #[.int .u8 c, .slice Af fn cf] 41 (0, 0))).block g15 (blk_lt HBX15.out)).trans HBX15.out) 0).trans rfl; have h15a_1 : (World.alloc ws (.cells #[.int .u8 c, .slice Af fn cf] 41 (0, 0))).cell? ⟨g15, 1, none⟩ = some (.slice Ab fn cb) := (blk_cell (((below_alloc (Below.refl ws.heap.size ws) (.cells #[.int .u8 c, .slice Af fn cf] 41 (0, 0))).block g15 (blk_lt HBX15.out)).trans HBX15.out) 1).trans rfl; have hg1_0 : ws.cell? ⟨g1, 0, none⟩ = some (.int .u8 c) := (blk_cell HO.out.x1 0).trans rfl; have hg1_1 : ws.cell? ⟨g1, 1, none⟩ = some (.slice Af fn cf) := (blk_cell HO.out.x1 1).trans rfl) | (go_at_call 30; with_reducible refine (Same41_lits ws c Af fn cf body HFN.out c Ab fn cb body HBN.out true (HO.out.tf).at_.2.2 (HO.out.tf).at_.2.1 (HFB.out).at_.2.2 (HFB.out).at_.2.1 HFL.out (decide_eq_true ⟨rfl, rfl⟩)).mono ?_; rintro e wx ⟨rfl, hb⟩; have HO_ := Aside0.mk (HO.out.below hb); clear HO; have HO := HO_; clear HO_; clear hb; clear HBX2 HB HGE2; have HBX2 := Aside0.mk HO.out.x2; have HB := Aside0.mk HO.out.bel; have HGE2 := Aside0.mk HO.out.ge.1; have hq0 : wx.cell? ⟨g6, 0, none⟩ = some (.int .i64 c) := (blk_cell HO.out.x6 0).trans rfl; have hq1 : wx.cell? ⟨g6, 1, none⟩ = some (.slice A1 n1 c1) := (blk_cell HO.out.x6 1).trans rfl; have hq2 : wx.cell? ⟨g6, 2, none⟩ = some (.slice A2 n2 c2) := (blk_cell HO.out.x6 2).trans rfl) | ((with_reducible refine gate_ (.store 69 (.tmp 2) (.tmp 94)) rfl ?_); refine store_event 69 (.tmp 2) (.tmp 94) rfl rfl rfl (g := g2) #[.int .i64 0, .slice none 0 0, .slice none 0 0] #[.int .i64 c, .slice A1 n1 c1, .slice A2 n2 c2] [.int .i64 c, .slice A1 n1 c1, .slice A2 n2 c2] rfl rfl rfl size69 HBX2.out (by simp) (by rfl) rfl ?_; intro wz hbox hs; have HB_ := Aside0.mk (hs.below HB.out HGE2.out); clear HB; have HB := HB_; clear HB_; have HQ1 := Aside0.mk (Kd.R_mono (hs.R (Kd.R_types HO.out.r1 HBX2.out (by decide)) (fun k hk => hk.2)) (fun _ _ => trivial)); have HQ2 := Aside0.mk (Kd.R_mono (hs.R (Kd.R_types HO.out.r2 HBX2.out (by decide)) (fun k hk => hk.2)) (fun _ _ => trivial)); have hz0 : wz.cell? ⟨g2, 0, none⟩ = some (.int .i64 c) := (blk_cell hbox 0).trans rfl; have hz1 : wz.cell? ⟨g2, 1, none⟩ = some (.slice A1 n1 c1) := (blk_cell hbox 1).trans rfl; have hz2 : wz.cell? ⟨g2, 2, none⟩ = some (.slice A2 n2 c2) := (blk_cell hbox 2).trans rfl; clear hbox hs))
              (try simp only [Exit.inBlock, Exit.then])
              refine bodyPost_ret (v := .tuple #[.agg #[.int .i64 c, .slice A1 n1 c1, .slice A2 n2 c2], .int .i64 0]) ?_ rfl ⟨_, _, rfl, HQ1.out, HQ2.out, HB.out⟩
              rw [results_cell_tmp rfl]
              go_simp
            · have hz := (hend.2 c3).symm.trans HH.out
              injection hz with hz e3
              injection hz with e0 hz
              injection hz with e1 e2
              subst e0 e1 e2 e3
              have b0 : (fe != 0) = true := bne_iff_ne.mpr c3
              clear hend c3
              go_wp2_with (first | (go_at_call 44; with_reducible refine (RFrame_calls c A1 n1 c1 ns HN1.out A2 n2 c2 ts HN2.out f0 fb fe _ (R_at HO.out.r1) (Kd.R_reads' HO.out.r1).2.1 (R_at HO.out.r2) (Kd.R_reads' HO.out.r2).2.1 HTL.out HWF.out HFR.out).mono ?_; rintro e wp ⟨v, rfl, ho, hb⟩; obtain ⟨Ab, cb, rfl⟩ := Kd.R_slice ho; rw [HBN.out] at ho ⊢; have HFB := Aside0.mk (TB.of_T8 (w := w) (T8.of_R ho)); have HO_ := Aside0.mk (HO.out.below hb); clear HO; have HO := HO_; clear HO_; clear hb ho) | ((with_reducible refine gate_dst (N := 15) rfl ?_); refine box_event ?hg (N := 15) ?hd (cs := #[.int .u8 0, .slice none 0 0]) (t := 41) ?hr ?_; (case hd => rfl); (case hg => rfl); (case hr => first | (go_simp; done) | (go_simp; rfl)); intro g15 hgb wq hbox hb; have HBX15 := Aside0.mk hbox; have HGE15 := Aside0.mk (show w.heap.size ≤ g15 by rw [hgb]; exact HO.out.bel.size); have HN115 := Aside0.mk (show g1 ≠ g15 by have := blk_lt HO.out.x1; omega); have HFB_ := Aside0.mk (HFB.out.below HO.out.bel.size hb); have HO_ := Aside0.mk (HO.out.below hb); clear HFB HO; have HFB := HFB_; have HO := HO_; clear HFB_ HO_; clear hgb hbox hb) | ((with_reducible refine gate_ (.store 41 (.tmp 15) (.tmp 81)) rfl ?_); refine store_event 41 (.tmp 15) (.tmp 81) rfl rfl rfl (g := g15) #[.int .u8 0, .slice none 0 0] #[.int .u8 f0, .slice Ab bn cb] [.int .u8 f0, .slice Ab bn cb] rfl rfl rfl size41 HBX15.out (by simp) (by rfl) rfl ?_; intro ws hbox hs; have HFB_ := Aside0.mk (St_TB hs HFB.out HBX15.out (by decide) HGE15.out); have HO_ := Aside0.mk (HO.out.fresh HBX15.out HN115.out HGE15.out hs); clear HFB HO; have HFB := HFB_; have HO := HO_; clear HFB_ HO_; have HBX15_ := Aside0.mk hbox; clear HBX15 hbox hs; have HBX15 := HBX15_; clear HBX15_; have HBX2 := Aside0.mk HO.out.x2; have HB := Aside0.mk HO.out.bel; have HGE2 := Aside0.mk HO.out.ge.1; have hg15_0 : ws.cell? ⟨g15, 0, none⟩ = some (.int .u8 f0) := (blk_cell HBX15.out 0).trans rfl; have hg15_1 : ws.cell? ⟨g15, 1, none⟩ = some (.slice Ab bn cb) := (blk_cell HBX15.out 1).trans rfl; have h15a_0 : (World.alloc ws (.cells #[.int .u8 c, .slice Af fn cf] 41 (0, 0))).cell? ⟨g15, 0, none⟩ = some (.int .u8 f0) := (blk_cell (((below_alloc (Below.refl ws.heap.size ws) (.cells #[.int .u8 c, .slice Af fn cf] 41 (0, 0))).block g15 (blk_lt HBX15.out)).trans HBX15.out) 0).trans rfl; have h15a_1 : (World.alloc ws (.cells #[.int .u8 c, .slice Af fn cf] 41 (0, 0))).cell? ⟨g15, 1, none⟩ = some (.slice Ab bn cb) := (blk_cell (((below_alloc (Below.refl ws.heap.size ws) (.cells #[.int .u8 c, .slice Af fn cf] 41 (0, 0))).block g15 (blk_lt HBX15.out)).trans HBX15.out) 1).trans rfl; have hg1_0 : ws.cell? ⟨g1, 0, none⟩ = some (.int .u8 c) := (blk_cell HO.out.x1 0).trans rfl; have hg1_1 : ws.cell? ⟨g1, 1, none⟩ = some (.slice Af fn cf) := (blk_cell HO.out.x1 1).trans rfl) | ((with_reducible refine gate_ (.store 69 (.tmp 2) (.tmp 93)) rfl ?_); refine store_event 69 (.tmp 2) (.tmp 93) rfl rfl rfl (g := g2) #[.int .i64 0, .slice none 0 0, .slice none 0 0] #[.int .i64 0, .slice none 0 0, .slice none 0 0] [.int .i64 0, .slice none 0 0, .slice none 0 0] rfl rfl rfl size69 HBX2.out (by simp) (by rfl) rfl ?_; intro wz hbox hs; have HB_ := Aside0.mk (hs.below HB.out HGE2.out); clear HB; have HB := HB_; clear HB_; have hz0 : wz.cell? ⟨g2, 0, none⟩ = some (.int .i64 0) := (blk_cell hbox 0).trans rfl; have hz1 : wz.cell? ⟨g2, 1, none⟩ = some (.slice none 0 0) := (blk_cell hbox 1).trans rfl; have hz2 : wz.cell? ⟨g2, 2, none⟩ = some (.slice none 0 0) := (blk_cell hbox 2).trans rfl; clear hbox hs))
              (try simp only [Exit.inBlock, Exit.then])
              refine bodyPost_ret (v := .tuple #[.agg #[.int .i64 0, .slice none 0 0, .slice none 0 0], .int .i64 2]) ?_ rfl ⟨_, _, rfl, Kd.R_nil _ _ _ _ _, Kd.R_nil _ _ _ _ _, HB.out⟩
              rw [results_cell_tmp rfl]
              go_simp
          · have b0 : decide (0 < (rn : Int)) = true := decide_eq_true (by have := List.length_pos_iff.2 cr0; have := HRN.out; omega)
            have b0' : decide (0 < rn) = true := decide_eq_true (by have := List.length_pos_iff.2 cr0; have := HRN.out; omega)
            have b0n : 0 < rn := by have := List.length_pos_iff.2 cr0; have := HRN.out; omega
            obtain ⟨⟨t, r2, r3⟩, htx⟩ : ∃ r, text1S rest2 = r := ⟨_, rfl⟩
            have hstep := HTJ.out.step cr0 htx
            have HTX := Aside0.mk htx
            have HRB := Aside0.mk HTJ.out.bytes
            have HRL := Aside0.mk (show rn ≤ 1000000 by have := HTJ.out.short; have := HRN.out; omega)
            have HTL := Aside0.mk (show ts.length ≤ 2000 by have := HTJ.out.sum; omega)
            obtain ⟨r2n, hr2⟩ : ∃ n, r2.length = n := ⟨_, rfl⟩
            have HR2N := Aside0.mk hr2
            clear htx hr2 cr0
            by_cases c3 : r3 = 0
            · have HTJ2 := Aside0.mk (hstep.1 c3)
              subst c3
              clear hstep
              go_wp2_with (first | (go_at_call 22; with_reducible refine (RTakeText_calls Ar rn cr rest2 HRN.out t r2 0 _ (HO.out.tb).at_.2.2 (HO.out.tb).at_.2.1 HRB.out HRL.out HTX.out).mono ?_; rintro e wt ⟨v, rfl, hT, hb⟩; obtain ⟨At, ct, rfl⟩ := hT.slice; rw [HR2N.out] at hT ⊢; have HTK := Aside0.mk (TB.of_T8 (w := w) hT); have HO_ := Aside0.mk (HO.out.below hb); clear HO; have HO := HO_; clear HO_; clear hb hT; have hq : wt.cell? ⟨g6, 2, none⟩ = some v2 := (blk_cell HO.out.x6 2).trans rfl; have HBX2 := Aside0.mk HO.out.x2; have HB := Aside0.mk HO.out.bel; have HGE2 := Aside0.mk HO.out.ge.1) | ((with_reducible refine gate_builtin (b := .append) (xs := #[.tmp 72, .tmp 74]) rfl ?_); at_builtin; refine Kd.R_append Kd.string (w0 := w) w.heap.size rfl (.tmp 72) (.tmp 74) 65 9 (.string ByteArray.empty) 16 rfl Try.underlying65 info9 rfl (by decide) (by omega) v2 ts t [.string t] (fun _ => True) (fun _ => False) rfl rfl rfl (fun _ hk => hk.elim) (fun _ _ => trivial) HO.out.r2 HO.out.bel (Below.size HO.out.bel) (by have := HTL.out; omega) ?_; intro v3 wu ho hb_ hg hat; clear hb_ hat; have HRW := Aside0.mk ho; have HGR := Aside0.mk hg; clear ho hg; have HX6 := Aside0.mk (HO.out.text_x6 HGR.out)) | ((with_reducible refine gate_ (.store 65 (.tmp 76) (.tmp 75)) rfl ?_); refine store_event 65 (.tmp 76) (.tmp 75) rfl rfl rfl (g := g6) (off := 2) #[.int .i64 c, v1, v2] #[.int .i64 c, v1, v3] [v3] rfl rfl (Kd.R_val HRW.out).1 size65 HX6.out (by simp) (by simp [(Kd.R_val HRW.out).2]) rfl ?_; intro wv hbox hs; have HO_ := Aside0.mk ((HO.out.left HTK.out).text HRW.out HGR.out hbox hs); clear HO; have HO := HO_; clear HO_; clear hbox hs HRW HGR HX6 HTK))
              go_roundg gk
              case measure => omega
              case rel => exact ⟨v3, At, r2n, ct, r2, ts ++ [t], rfl, ⟨by have := HKQ.out; have := HTJ2.out.2; omega⟩, HR2N, HO, ⟨HTJ2.out.1⟩⟩
            · have hz := (of_noT HSZ.out HNS.out (hstep.2 c3)).symm.trans HH.out
              injection hz with hz e3
              injection hz with e0 hz
              injection hz with e1 e2
              subst e0 e1 e2 e3
              have b1 : (r3 != 0) = true := bne_iff_ne.mpr c3
              clear hstep c3
              go_wp2_with (first | (go_at_call 22; with_reducible refine (RTakeText_calls Ar rn cr rest2 HRN.out t r2 r3 _ (HO.out.tb).at_.2.2 (HO.out.tb).at_.2.1 HRB.out HRL.out HTX.out).mono ?_; rintro e wt ⟨v, rfl, hT, hb⟩; obtain ⟨At, ct, rfl⟩ := hT.slice; rw [HR2N.out] at hT ⊢; have HTK := Aside0.mk (TB.of_T8 (w := w) hT); have HO_ := Aside0.mk (HO.out.below hb); clear HO; have HO := HO_; clear HO_; clear hb hT; have hq : wt.cell? ⟨g6, 2, none⟩ = some v2 := (blk_cell HO.out.x6 2).trans rfl; have HBX2 := Aside0.mk HO.out.x2; have HB := Aside0.mk HO.out.bel; have HGE2 := Aside0.mk HO.out.ge.1) | ((with_reducible refine gate_ (.store 69 (.tmp 2) (.tmp 70)) rfl ?_); refine store_event 69 (.tmp 2) (.tmp 70) rfl rfl rfl (g := g2) #[.int .i64 0, .slice none 0 0, .slice none 0 0] #[.int .i64 0, .slice none 0 0, .slice none 0 0] [.int .i64 0, .slice none 0 0, .slice none 0 0] rfl rfl rfl size69 HBX2.out (by simp) (by rfl) rfl ?_; intro wz hbox hs; have HB_ := Aside0.mk (hs.below HB.out HGE2.out); clear HB; have HB := HB_; clear HB_; have hz0 : wz.cell? ⟨g2, 0, none⟩ = some (.int .i64 0) := (blk_cell hbox 0).trans rfl; have hz1 : wz.cell? ⟨g2, 1, none⟩ = some (.slice none 0 0) := (blk_cell hbox 1).trans rfl; have hz2 : wz.cell? ⟨g2, 2, none⟩ = some (.slice none 0 0) := (blk_cell hbox 2).trans rfl; clear hbox hs))
              (try simp only [Exit.inBlock, Exit.then])
              refine bodyPost_ret (v := .tuple #[.agg #[.int .i64 0, .slice none 0 0, .slice none 0 0], .int .i64 2]) ?_ rfl ⟨_, _, rfl, Kd.R_nil _ _ _ _ _, Kd.R_nil _ _ _ _ _, HB.out⟩
              rw [results_cell_tmp rfl]
              go_simp
end Go.Proofs.Ytagmefjpnmjcjab.Mh
