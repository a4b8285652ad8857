/- FrameTells, walked by hand. -/
import Derived.Test.YtagmefjpnmjcjabFrBack
namespace Go.Proofs.Ytagmefjpnmjcjab.Fh
open Go.RowKit Go.Proofs.YtagmefjpnmjcjabW.PrintWords Go.Proofs.YtagmefjpnmjcjabW.PrintLast Go.Proofs.YtagmefjpnmjcjabW.PrintMore
open Go.Proofs.Ytagmefjpnmjcjab.Fr
open Go.Proofs.Ytagmefjpnmjcjab.FrNum (readS read_eq Bytes)
attribute [local go_sem] max2_int min2_int max_two min_two
set_option linter.unusedVariables false
set_option linter.unusedSimpArgs false
/-- Bytes that are read, wherever. -/
def RV (W : World) (v : Value) (l : List Int) : Prop := ∃ ok, Kd.V (Kd.int .u8) 5 W 0 ok v l
/-- Frames that are read, wherever. -/
def RW (W : World) (v : Value) (l : List S38) : Prop := ∃ ok, Kd.V k38 38 W 0 ok v l
theorem RV.below {W W' : World} {v : Value} {l : List Int} (h : RV W v l) (hb : Below W.heap.size W W') : RV W' v l := by
  obtain ⟨ok, hv⟩ := h
  exact ⟨ok, Kd.V_below hv hb⟩
theorem RW.below {W W' : World} {v : Value} {l : List S38} (h : RW W v l) (hb : Below W.heap.size W W') : RW W' v l := by
  obtain ⟨ok, hv⟩ := h
  exact ⟨ok, Kd.V_below hv hb⟩
theorem RV.of_R {W : World} {base e : Nat} {ok : Nat → Prop} {v : Value} {l : List Int} (h : Kd.R (Kd.int .u8) 5 W base ok v l) : RV W v l := ⟨ok, Kd.R_V h⟩
theorem RV.of_C {W : World} {A : Option Addr} {n c : Nat} {l : List Int} (h : Kd.C (Kd.int .u8) W A n l) (hn : l.length = n) (hc : n ≤ c) : RV W (.slice A n c) l := by
  subst hn
  exact ⟨_, A, c, rfl, hc, Kd.C_F (Kd.heap_int _) h⟩
theorem RV.at_ {W : World} {A : Option Addr} {n c : Nat} {l : List Int} (h : RV W (.slice A n c) l) : n = l.length ∧ n ≤ c ∧ Kd.C (Kd.int .u8) W A n l := by
  obtain ⟨ok, hv⟩ := h
  have h2 := Kd.V_reads' hv
  refine ⟨h2.1, h2.2.1, ?_⟩
  rw [h2.1]
  exact h2.2.2
theorem C38_one {W : World} {g : Nat} {fc : Int} {A : Option Addr} {n c : Nat} {body : List Int} (hn : body.length = n) (hc : n ≤ c) (hC : Kd.C (Kd.int .u8) W A n body) (hb : W.heap[g]? = some (.cells #[.int .u8 fc, .slice A n c] 38 (0, 0))) : Kd.C k38 W (some ⟨g, 0, none⟩) 1 [⟨fc, body⟩] := by
  subst hn
  refine ⟨rfl, by omega, fun _ => ⟨_, rfl, fun j p hj => ?_⟩⟩
  have hj0 : j = 0 := by
    rcases j with _ | j
    · rfl
    · simp at hj
  subst hj0
  obtain rfl : (⟨fc, body⟩ : S38) = p := by simpa using hj
  refine ⟨[.int .u8 fc, .slice A body.length c], rfl, k38_mk W ⟨fc, body⟩ hc hC, fun i u hu => ?_⟩
  rw [show (Addr.add ⟨g, 0, none⟩ (0 * k38.sz + i)) = ⟨g, i, none⟩ by rw [add_at]; simp, blk_cell hb i]
  simpa using hu
theorem C41_one {W : World} {g : Nat} {fc : Int} {A : Option Addr} {n c : Nat} {body : List Int} (hn : body.length = n) (hc : n ≤ c) (hC : Kd.C (Kd.int .u8) W A n body) (hb : W.heap[g]? = some (.cells #[.int .u8 fc, .slice A n c] 41 (0, 0))) : Kd.C k41 W (some ⟨g, 0, none⟩) 1 [⟨fc, body⟩] := by
  subst hn
  refine ⟨rfl, by omega, fun _ => ⟨_, rfl, fun j p hj => ?_⟩⟩
  have hj0 : j = 0 := by
    rcases j with _ | j
    · rfl
    · simp at hj
  subst hj0
  obtain rfl : (⟨fc, body⟩ : S41) = p := by simpa using hj
  refine ⟨[.int .u8 fc, .slice A body.length c], rfl, k41_mk W ⟨fc, body⟩ hc hC, fun i u hu => ?_⟩
  rw [show (Addr.add ⟨g, 0, none⟩ (0 * k41.sz + i)) = ⟨g, i, none⟩ by rw [add_at]; simp, blk_cell hb i]
  simpa using hu
theorem RW_one {W : World} {g : Nat} {fc : Int} {A : Option Addr} {n c : Nat} {body : List Int} (hn : body.length = n) (hV : RV W (.slice A n c) body) (hb : W.heap[g]? = some (.cells #[.int .u8 fc, .slice A n c] 38 (0, 0))) : RW W (.slice (some ⟨g, 0, none⟩) 1 1) [⟨fc, body⟩] := by
  obtain ⟨ok, hv⟩ := hV
  refine ⟨fun k => ok k ∨ k = g, some ⟨g, 0, none⟩, 1, rfl, by simp, fun W' hW => ?_⟩
  have hF := Kd.V_at hv
  refine C38_one hn hF.2.1 ?_ ((hW g (.inr rfl) (blk_lt hb)).trans hb)
  rw [hF.1]
  exact hF.2.2 W' (fun k hk hlt => hW k (.inl hk) hlt)
attribute [local irreducible] IsD T8 Near TV TN RV RW
theorem readS_err {b : List Int} (h : ¬ (readS b).2.2.2 = 0) : (readS b).2.1.length ≤ b.length := by
  match b, h with
  | [], h => exact Nat.le_refl _
  | [x], h => exact Nat.zero_le _
  | x :: y :: r, h =>
    rw [Go.Proofs.Ytagmefjpnmjcjab.FrNum.readS_two] at h ⊢
    unfold Go.Proofs.Ytagmefjpnmjcjab.FrNum.lenS at h ⊢
    by_cases c0 : 256 * x + y = 0
    · rw [if_pos c0]; simp
    · rw [if_neg c0] at h ⊢
      by_cases c1 : 256 * x + y > 301
      · rw [if_pos c1]; simp
      · rw [if_neg c1] at h ⊢
        by_cases c2 : (r.length : Int) < 256 * x + y
        · rw [if_pos c2]; simp
        · rw [if_neg c2] at h ⊢
          unfold Go.Proofs.Ytagmefjpnmjcjab.FrNum.bodyS at h ⊢
          cases r with
          | nil => simp
          | cons c t =>
            by_cases c3 : c = 0
            · simp [c3]
            · simp [c3] at h

theorem RW.v_ {W : World} {v : Value} {l : List S38} (h : RW W v l) : ∃ ok, Kd.V k38 38 W 0 ok v l := by unfold RW at h; exact h
set_option maxHeartbeats 8000000 in
set_option maxRecDepth 100000 in
theorem FrameTells_calls (fc : Int) (Af : Option Addr) (cf : Nat) (body : List Int) (gc : Int) (Ag : Option Addr) (cg : Nat) (gbody : List Int) (A2 : Option Addr) (c2 : Nat) (b : List Int) (w : World)
    (hr0 : Kd.C (Kd.int .u8) w Af body.length body) (hc0 : body.length ≤ cf) (hr1 : Kd.C (Kd.int .u8) w Ag gbody.length gbody) (hc1 : gbody.length ≤ cg) (hr2 : Kd.C (Kd.int .u8) w A2 b.length b) (hc2 : b.length ≤ c2)
    (hw0 : (Lit.int .u8 fc).wf = true ∧ ∀ x ∈ body, (Lit.int .u8 x).wf = true) (hw1 : (Lit.int .u8 gc).wf = true ∧ ∀ x ∈ gbody, (Lit.int .u8 x).wf = true) (hw2 : ∀ x ∈ b, (Lit.int .u8 x).wf = true) :
    Calls Try.prog 7 #[.agg #[.int .u8 fc, .slice Af body.length cf], .agg #[.int .u8 gc, .slice Ag gbody.length cg], .slice A2 b.length c2] w fun e w' => e = .returned (.bool true) ∧ Below w.heap.size w w' := by
  have HB := Aside0.mk (Below.refl w.heap.size w)
  obtain ⟨fn, hfn⟩ : ∃ n, body.length = n := ⟨_, rfl⟩
  obtain ⟨gn, hgn⟩ : ∃ n, gbody.length = n := ⟨_, rfl⟩
  obtain ⟨bn, hbn⟩ : ∃ n, b.length = n := ⟨_, rfl⟩
  rw [hfn] at hr0 hc0 ⊢
  rw [hgn] at hr1 hc1 ⊢
  rw [hbn] at hr2 hc2 ⊢
  have VF := Aside0.mk (RV.of_C hr0 hfn hc0)
  have VG := Aside0.mk (RV.of_C hr1 hgn hc1)
  have HFN := Aside0.mk hfn
  have HGN := Aside0.mk hgn
  have HBN := Aside0.mk hbn
  have HR2 := Aside0.mk hr2
  have HC2 := Aside0.mk hc2
  have HFB := Aside0.mk (bytes_of_wf hw0.2)
  have HGB := Aside0.mk (bytes_of_wf hw1.2)
  have HBB := Aside0.mk (bytes_of_wf hw2)
  have hu38 := Try.underlying38
  have hu41 := Try.underlying41
  clear hr0 hc0 hr1 hc1 hr2 hc2 hw0 hw1 hw2 hfn hgn hbn
  by_cases cf_ : fn > 2000
  · have b0 : decide (2000 < (fn : Int)) = true := decide_eq_true (by omega)
    clear cf_
    go_enter Try.func7, Try.ntmps7
    go_wp2_with (first | ((with_reducible refine gate_dst (N := 3) rfl ?_); refine box_event ?hg (N := 3) ?hd (cs := #[.int .u8 fc, .slice Af fn cf]) (t := 38) ?hr ?_; (case hd => rfl); (case hg => rfl); (case hr => first | (go_simp; done) | (go_simp; rfl)); intro g3 hgb wa hbox hb; have HBXg3 := Aside0.mk hbox; have HB_ := Aside0.mk (below_step HB.out hb); have VF_ := Aside0.mk (VF.out.below hb); have VG_ := Aside0.mk (VG.out.below hb); clear HB VF VG; have HB := HB_; have VF := VF_; have VG := VG_; clear HB_ VF_ VG_; clear hgb hb hbox) | ((with_reducible refine gate_dst (N := 4) rfl ?_); refine box_event ?hg (N := 4) ?hd (cs := #[.int .u8 gc, .slice Ag gn cg]) (t := 38) ?hr ?_; (case hd => rfl); (case hg => rfl); (case hr => first | (go_simp; done) | (go_simp; rfl)); intro g4 hgb wb hbox hb; have HBXg4 := Aside0.mk hbox; have HB_ := Aside0.mk (below_step HB.out hb); have HBXg3_ := Aside0.mk ((hb.block g3 (blk_lt HBXg3.out)).trans HBXg3.out); have VF_ := Aside0.mk (VF.out.below hb); have VG_ := Aside0.mk (VG.out.below hb); clear HB HBXg3 VF VG; have HB := HB_; have HBXg3 := HBXg3_; have VF := VF_; have VG := VG_; clear HB_ HBXg3_ VF_ VG_; clear hgb hb hbox) | (go_at_call 25; with_reducible refine (awake_calls _).mono ?_; rintro e w1 ⟨rfl, hb⟩; have HB_ := Aside0.mk (below_step HB.out hb); have HBXg3_ := Aside0.mk ((hb.block g3 (blk_lt HBXg3.out)).trans HBXg3.out); have HBXg4_ := Aside0.mk ((hb.block g4 (blk_lt HBXg4.out)).trans HBXg4.out); have VF_ := Aside0.mk (VF.out.below hb); have VG_ := Aside0.mk (VG.out.below hb); clear HB HBXg3 HBXg4 VF VG; have HB := HB_; have HBXg3 := HBXg3_; have HBXg4 := HBXg4_; have VF := VF_; have VG := VG_; clear HB_ HBXg3_ HBXg4_ VF_ VG_; clear hb; have hg3_0 : w1.cell? ⟨g3, 0, none⟩ = some (.int .u8 fc) := (blk_cell HBXg3.out 0).trans rfl; have hg4_0 : w1.cell? ⟨g4, 0, none⟩ = some (.int .u8 gc) := (blk_cell HBXg4.out 0).trans rfl; have hg3_1 : w1.cell? ⟨g3, 1, none⟩ = some (.slice Af fn cf) := (blk_cell HBXg3.out 1).trans rfl; have hg4_1 : w1.cell? ⟨g4, 1, none⟩ = some (.slice Ag gn cg) := (blk_cell HBXg4.out 1).trans rfl))
    go_ret
    exact ⟨rfl, HB.out⟩
  have b0 : decide (2000 < (fn : Int)) = false := decide_eq_false (by omega)
  by_cases cg_ : gn > 2000
  · have b1 : decide (2000 < (gn : Int)) = true := decide_eq_true (by omega)
    clear cg_ cf_
    go_enter Try.func7, Try.ntmps7
    go_wp2_with (first | ((with_reducible refine gate_dst (N := 3) rfl ?_); refine box_event ?hg (N := 3) ?hd (cs := #[.int .u8 fc, .slice Af fn cf]) (t := 38) ?hr ?_; (case hd => rfl); (case hg => rfl); (case hr => first | (go_simp; done) | (go_simp; rfl)); intro g3 hgb wa hbox hb; have HBXg3 := Aside0.mk hbox; have HB_ := Aside0.mk (below_step HB.out hb); have VF_ := Aside0.mk (VF.out.below hb); have VG_ := Aside0.mk (VG.out.below hb); clear HB VF VG; have HB := HB_; have VF := VF_; have VG := VG_; clear HB_ VF_ VG_; clear hgb hb hbox) | ((with_reducible refine gate_dst (N := 4) rfl ?_); refine box_event ?hg (N := 4) ?hd (cs := #[.int .u8 gc, .slice Ag gn cg]) (t := 38) ?hr ?_; (case hd => rfl); (case hg => rfl); (case hr => first | (go_simp; done) | (go_simp; rfl)); intro g4 hgb wb hbox hb; have HBXg4 := Aside0.mk hbox; have HB_ := Aside0.mk (below_step HB.out hb); have HBXg3_ := Aside0.mk ((hb.block g3 (blk_lt HBXg3.out)).trans HBXg3.out); have VF_ := Aside0.mk (VF.out.below hb); have VG_ := Aside0.mk (VG.out.below hb); clear HB HBXg3 VF VG; have HB := HB_; have HBXg3 := HBXg3_; have VF := VF_; have VG := VG_; clear HB_ HBXg3_ VF_ VG_; clear hgb hb hbox) | (go_at_call 25; with_reducible refine (awake_calls _).mono ?_; rintro e w1 ⟨rfl, hb⟩; have HB_ := Aside0.mk (below_step HB.out hb); have HBXg3_ := Aside0.mk ((hb.block g3 (blk_lt HBXg3.out)).trans HBXg3.out); have HBXg4_ := Aside0.mk ((hb.block g4 (blk_lt HBXg4.out)).trans HBXg4.out); have VF_ := Aside0.mk (VF.out.below hb); have VG_ := Aside0.mk (VG.out.below hb); clear HB HBXg3 HBXg4 VF VG; have HB := HB_; have HBXg3 := HBXg3_; have HBXg4 := HBXg4_; have VF := VF_; have VG := VG_; clear HB_ HBXg3_ HBXg4_ VF_ VG_; clear hb; have hg3_0 : w1.cell? ⟨g3, 0, none⟩ = some (.int .u8 fc) := (blk_cell HBXg3.out 0).trans rfl; have hg4_0 : w1.cell? ⟨g4, 0, none⟩ = some (.int .u8 gc) := (blk_cell HBXg4.out 0).trans rfl; have hg3_1 : w1.cell? ⟨g3, 1, none⟩ = some (.slice Af fn cf) := (blk_cell HBXg3.out 1).trans rfl; have hg4_1 : w1.cell? ⟨g4, 1, none⟩ = some (.slice Ag gn cg) := (blk_cell HBXg4.out 1).trans rfl))
    go_ret
    exact ⟨rfl, HB.out⟩
  have b1 : decide (2000 < (gn : Int)) = false := decide_eq_false (by omega)
  by_cases cb_ : bn > 2000
  · have b2 : decide (2000 < (bn : Int)) = true := decide_eq_true (by omega)
    clear cb_ cg_ cf_
    go_enter Try.func7, Try.ntmps7
    go_wp2_with (first | ((with_reducible refine gate_dst (N := 3) rfl ?_); refine box_event ?hg (N := 3) ?hd (cs := #[.int .u8 fc, .slice Af fn cf]) (t := 38) ?hr ?_; (case hd => rfl); (case hg => rfl); (case hr => first | (go_simp; done) | (go_simp; rfl)); intro g3 hgb wa hbox hb; have HBXg3 := Aside0.mk hbox; have HB_ := Aside0.mk (below_step HB.out hb); have VF_ := Aside0.mk (VF.out.below hb); have VG_ := Aside0.mk (VG.out.below hb); clear HB VF VG; have HB := HB_; have VF := VF_; have VG := VG_; clear HB_ VF_ VG_; clear hgb hb hbox) | ((with_reducible refine gate_dst (N := 4) rfl ?_); refine box_event ?hg (N := 4) ?hd (cs := #[.int .u8 gc, .slice Ag gn cg]) (t := 38) ?hr ?_; (case hd => rfl); (case hg => rfl); (case hr => first | (go_simp; done) | (go_simp; rfl)); intro g4 hgb wb hbox hb; have HBXg4 := Aside0.mk hbox; have HB_ := Aside0.mk (below_step HB.out hb); have HBXg3_ := Aside0.mk ((hb.block g3 (blk_lt HBXg3.out)).trans HBXg3.out); have VF_ := Aside0.mk (VF.out.below hb); have VG_ := Aside0.mk (VG.out.below hb); clear HB HBXg3 VF VG; have HB := HB_; have HBXg3 := HBXg3_; have VF := VF_; have VG := VG_; clear HB_ HBXg3_ VF_ VG_; clear hgb hb hbox) | (go_at_call 25; with_reducible refine (awake_calls _).mono ?_; rintro e w1 ⟨rfl, hb⟩; have HB_ := Aside0.mk (below_step HB.out hb); have HBXg3_ := Aside0.mk ((hb.block g3 (blk_lt HBXg3.out)).trans HBXg3.out); have HBXg4_ := Aside0.mk ((hb.block g4 (blk_lt HBXg4.out)).trans HBXg4.out); have VF_ := Aside0.mk (VF.out.below hb); have VG_ := Aside0.mk (VG.out.below hb); clear HB HBXg3 HBXg4 VF VG; have HB := HB_; have HBXg3 := HBXg3_; have HBXg4 := HBXg4_; have VF := VF_; have VG := VG_; clear HB_ HBXg3_ HBXg4_ VF_ VG_; clear hb; have hg3_0 : w1.cell? ⟨g3, 0, none⟩ = some (.int .u8 fc) := (blk_cell HBXg3.out 0).trans rfl; have hg4_0 : w1.cell? ⟨g4, 0, none⟩ = some (.int .u8 gc) := (blk_cell HBXg4.out 0).trans rfl; have hg3_1 : w1.cell? ⟨g3, 1, none⟩ = some (.slice Af fn cf) := (blk_cell HBXg3.out 1).trans rfl; have hg4_1 : w1.cell? ⟨g4, 1, none⟩ = some (.slice Ag gn cg) := (blk_cell HBXg4.out 1).trans rfl))
    go_ret
    exact ⟨rfl, HB.out⟩
  have b2 : decide (2000 < (bn : Int)) = false := decide_eq_false (by omega)
  have HB6 := Aside0.mk (show bn ≤ 1000000 by omega)
  obtain ⟨⟨p, ep⟩, hbs⟩ : ∃ r, bytesS fc body = r := ⟨_, rfl⟩
  have HBS := Aside0.mk hbs
  obtain ⟨pn, hpn⟩ : ∃ n, p.length = n := ⟨_, rfl⟩
  have HPN := Aside0.mk hpn
  have HPL := Aside0.mk (show pn ≤ 1000000000 by
    have h : (bytesS fc body).1.length ≤ 303 := by
      by_cases c0 : fc = 0
      · unfold bytesS; rw [if_pos c0]; simp
      · by_cases c1 : body.length > 300
        · unfold bytesS; rw [if_neg c0, if_pos c1]; simp
        · rw [bytesS_len c0 (by omega)]; omega
    rw [hbs] at h
    simp only at h
    omega)
  obtain ⟨⟨r1, r2, r3, r4⟩, hrd⟩ : ∃ r, readS b = r := ⟨_, rfl⟩
  have HRD := Aside0.mk hrd
  obtain ⟨xn, hxn⟩ : ∃ n, r2.length = n := ⟨_, rfl⟩
  have HXN := Aside0.mk hxn
  have HX6 := Aside0.mk (show ∀ x ∈ [to41 ⟨r1, r2⟩], x.f1.length ≤ 1000000 from fun x hx => by
    rw [List.mem_singleton.1 hx]
    show r2.length ≤ 1000000
    have h : (readS b).2.1.length ≤ b.length := by
      by_cases c : (readS b).2.2.2 = 0
      · obtain ⟨x, y, q, t, n, rfl, _, h1, h2, h3, _, he⟩ := readS_ok HBB.out c
        rw [he]
        simp only [List.length_take, List.length_cons]
        omega
      · exact readS_err c
    rw [hrd] at h
    have := HBN.out
    simp only at h
    omega)
  have HF6 := Aside0.mk (show ∀ x ∈ [to41 ⟨fc, body⟩], x.f1.length ≤ 1000000 from fun x hx => by
    rw [List.mem_singleton.1 hx]
    show body.length ≤ 1000000
    have := HFN.out
    omega)
  obtain ⟨rr, hrr⟩ : ∃ r, decide (fc = gc ∧ body = gbody) = r := ⟨_, rfl⟩
  have HRR := Aside0.mk hrr
  have HRR2 := Aside0.mk (show decide ([to41 ⟨fc, body⟩] = [to41 ⟨gc, gbody⟩]) = rr by
    rw [← hrr, decide_eq_decide]
    constructor
    · intro h
      injection h with h _
      have := to41_inj h
      injection this with h1 h2
      exact ⟨h1, h2⟩
    · rintro ⟨rfl, rfl⟩
      rfl)
  have hz1 : (ep == ep) = true := by simp
  have hz2 : (r3 == r3) = true := by simp
  have hz3 : (r4 == r4) = true := by simp
  have hz4 : (rr == rr) = true := by simp
  clear hbs hpn hrd hxn hrr cf_ cg_ cb_
  go_enter Try.func7, Try.ntmps7
  go_upto_region 8 with (first | ((with_reducible refine gate_dst (N := 3) rfl ?_); refine box_event ?hg (N := 3) ?hd (cs := #[.int .u8 fc, .slice Af fn cf]) (t := 38) ?hr ?_; (case hd => rfl); (case hg => rfl); (case hr => first | (go_simp; done) | (go_simp; rfl)); intro g3 hgb wa hbox hb; have HBXg3 := Aside0.mk hbox; have HB_ := Aside0.mk (below_step HB.out hb); have VF_ := Aside0.mk (VF.out.below hb); have VG_ := Aside0.mk (VG.out.below hb); clear HB VF VG; have HB := HB_; have VF := VF_; have VG := VG_; clear HB_ VF_ VG_; clear hgb hb hbox) | ((with_reducible refine gate_dst (N := 4) rfl ?_); refine box_event ?hg (N := 4) ?hd (cs := #[.int .u8 gc, .slice Ag gn cg]) (t := 38) ?hr ?_; (case hd => rfl); (case hg => rfl); (case hr => first | (go_simp; done) | (go_simp; rfl)); intro g4 hgb wb hbox hb; have HBXg4 := Aside0.mk hbox; have HB_ := Aside0.mk (below_step HB.out hb); have HBXg3_ := Aside0.mk ((hb.block g3 (blk_lt HBXg3.out)).trans HBXg3.out); have VF_ := Aside0.mk (VF.out.below hb); have VG_ := Aside0.mk (VG.out.below hb); clear HB HBXg3 VF VG; have HB := HB_; have HBXg3 := HBXg3_; have VF := VF_; have VG := VG_; clear HB_ HBXg3_ VF_ VG_; clear hgb hb hbox) | (go_at_call 25; with_reducible refine (awake_calls _).mono ?_; rintro e w1 ⟨rfl, hb⟩; have HB_ := Aside0.mk (below_step HB.out hb); have HBXg3_ := Aside0.mk ((hb.block g3 (blk_lt HBXg3.out)).trans HBXg3.out); have HBXg4_ := Aside0.mk ((hb.block g4 (blk_lt HBXg4.out)).trans HBXg4.out); have VF_ := Aside0.mk (VF.out.below hb); have VG_ := Aside0.mk (VG.out.below hb); clear HB HBXg3 HBXg4 VF VG; have HB := HB_; have HBXg3 := HBXg3_; have HBXg4 := HBXg4_; have VF := VF_; have VG := VG_; clear HB_ HBXg3_ HBXg4_ VF_ VG_; clear hb; have hg3_0 : w1.cell? ⟨g3, 0, none⟩ = some (.int .u8 fc) := (blk_cell HBXg3.out 0).trans rfl; have hg4_0 : w1.cell? ⟨g4, 0, none⟩ = some (.int .u8 gc) := (blk_cell HBXg4.out 0).trans rfl; have hg3_1 : w1.cell? ⟨g3, 1, none⟩ = some (.slice Af fn cf) := (blk_cell HBXg3.out 1).trans rfl; have hg4_1 : w1.cell? ⟨g4, 1, none⟩ = some (.slice Ag gn cg) := (blk_cell HBXg4.out 1).trans rfl) | (go_at_call 26; with_reducible refine (Bytes_calls fc Af fn cf body HFN.out p ep _ VF.out.at_.2.2 VF.out.at_.2.1 HBS.out).mono ?_; rintro e w2 ⟨v0, rfl, ho, hb⟩; obtain ⟨Ap, cp, rfl⟩ := Kd.R_slice ho; rw [HPN.out] at ho ⊢; have VP := Aside0.mk (show RV w2 (.slice Ap pn cp) p from RV.of_R (e := 5) ho); have HB_ := Aside0.mk (below_step HB.out hb); have HBXg3_ := Aside0.mk ((hb.block g3 (blk_lt HBXg3.out)).trans HBXg3.out); have HBXg4_ := Aside0.mk ((hb.block g4 (blk_lt HBXg4.out)).trans HBXg4.out); have VF_ := Aside0.mk (VF.out.below hb); have VG_ := Aside0.mk (VG.out.below hb); clear HB HBXg3 HBXg4 VF VG; have HB := HB_; have HBXg3 := HBXg3_; have HBXg4 := HBXg4_; have VF := VF_; have VG := VG_; clear HB_ HBXg3_ HBXg4_ VF_ VG_; clear ho hb; have hg3_0 : w2.cell? ⟨g3, 0, none⟩ = some (.int .u8 fc) := (blk_cell HBXg3.out 0).trans rfl; have hg3_1 : w2.cell? ⟨g3, 1, none⟩ = some (.slice Af fn cf) := (blk_cell HBXg3.out 1).trans rfl) | (go_at_call 27; with_reducible refine (RefBytes_calls fc Af fn cf body HFN.out p ep _ VF.out.at_.2.2 VF.out.at_.2.1 HBS.out).mono ?_; rintro e w3 ⟨v0, rfl, ho, hb⟩; obtain ⟨Aq, cq, rfl⟩ := Kd.R_slice ho; rw [HPN.out] at ho ⊢; have VQ := Aside0.mk (show RV w3 (.slice Aq pn cq) p from RV.of_R (e := 5) ho); have HB_ := Aside0.mk (below_step HB.out hb); have HBXg3_ := Aside0.mk ((hb.block g3 (blk_lt HBXg3.out)).trans HBXg3.out); have HBXg4_ := Aside0.mk ((hb.block g4 (blk_lt HBXg4.out)).trans HBXg4.out); have VF_ := Aside0.mk (VF.out.below hb); have VG_ := Aside0.mk (VG.out.below hb); have VP_ := Aside0.mk (VP.out.below hb); clear HB HBXg3 HBXg4 VF VG VP; have HB := HB_; have HBXg3 := HBXg3_; have HBXg4 := HBXg4_; have VF := VF_; have VG := VG_; have VP := VP_; clear HB_ HBXg3_ HBXg4_ VF_ VG_ VP_; clear ho hb) | (go_at_call 28; with_reducible refine (Read_calls A2 bn c2 b HBN.out r1 r2 r3 r4 _ (Kd.C_below HR2.out HB.out) HC2.out HB6.out HBB.out HRD.out).mono ?_; rintro e w4 ⟨v2, rfl, ho, hb⟩; obtain ⟨Ax, cx, rfl⟩ := Kd.R_slice ho; rw [HXN.out] at ho ⊢; have VX := Aside0.mk (show RV w4 (.slice Ax xn cx) r2 from RV.of_R (e := 5) ho); have HB_ := Aside0.mk (below_step HB.out hb); have HBXg3_ := Aside0.mk ((hb.block g3 (blk_lt HBXg3.out)).trans HBXg3.out); have HBXg4_ := Aside0.mk ((hb.block g4 (blk_lt HBXg4.out)).trans HBXg4.out); have VF_ := Aside0.mk (VF.out.below hb); have VG_ := Aside0.mk (VG.out.below hb); have VP_ := Aside0.mk (VP.out.below hb); have VQ_ := Aside0.mk (VQ.out.below hb); clear HB HBXg3 HBXg4 VF VG VP VQ; have HB := HB_; have HBXg3 := HBXg3_; have HBXg4 := HBXg4_; have VF := VF_; have VG := VG_; have VP := VP_; have VQ := VQ_; clear HB_ HBXg3_ HBXg4_ VF_ VG_ VP_ VQ_; clear ho hb) | ((with_reducible refine gate_dst (N := 11) rfl ?_); refine box_event ?hg (N := 11) ?hd (cs := #[.int .u8 0, .slice none 0 0]) (t := 38) ?hr ?_; (case hd => rfl); (case hg => rfl); (case hr => first | (go_simp; done) | (go_simp; rfl)); intro g11 hgb wc hbox hb; have HBX := Aside0.mk hbox; have HGE := Aside0.mk (show w4.heap.size ≤ g11 by rw [hgb]; exact Nat.le_refl _); have HBa := Aside0.mk hb; clear hgb hb hbox; have hx0 := blk_cell HBX.out 0; have hx1 := blk_cell HBX.out 1; have hfx0 := blk_frozen HBX.out 0; have hfx1 := blk_frozen HBX.out 1; replace hx0 := hx0.trans rfl; replace hx1 := hx1.trans rfl))
  (try simp only [Act.put, List.setIfInBounds_toArray, List.set_cons_zero, List.set_cons_succ])
  generalize hst : World.setCell (World.setCell wc ⟨g11, 0, none⟩ (.int .u8 r1)) ⟨g11, 1, none⟩ (.slice Ax xn cx) = w5
  have HBX0 := Aside0.mk ((blk_set HBX.out 0 (.int .u8 r1)).trans rfl)
  have HBXg11 := Aside0.mk ((hst ▸ (blk_set HBX0.out 1 (.slice Ax xn cx)).trans rfl : w5.heap[g11]? = some (.cells #[.int .u8 r1, .slice Ax xn cx] 38 (0, 0))))
  have hb : Below w4.heap.size w4 w5 := hst ▸ below_set (below_set HBa.out HGE.out) HGE.out
  have HB_ := Aside0.mk (below_step HB.out hb)
  have HBXg3_ := Aside0.mk ((hb.block g3 (blk_lt HBXg3.out)).trans HBXg3.out)
  have HBXg4_ := Aside0.mk ((hb.block g4 (blk_lt HBXg4.out)).trans HBXg4.out)
  have VF_ := Aside0.mk (VF.out.below hb)
  have VG_ := Aside0.mk (VG.out.below hb)
  have VP_ := Aside0.mk (VP.out.below hb)
  have VQ_ := Aside0.mk (VQ.out.below hb)
  have VX_ := Aside0.mk (VX.out.below hb)
  clear HB HBXg3 HBXg4 VF VG VP VQ VX
  have HB := HB_
  have HBXg3 := HBXg3_
  have HBXg4 := HBXg4_
  have VF := VF_
  have VG := VG_
  have VP := VP_
  have VQ := VQ_
  have VX := VX_
  clear HB_ HBXg3_ HBXg4_ VF_ VG_ VP_ VQ_ VX_
  clear hb hst hx0 hx1 hfx0 hfx1 HBX0 HBX HGE HBa
  go_upto_region 9 with (first | (go_at_call 29; with_reducible refine (RefRead_calls A2 bn c2 b HBN.out r1 r2 r3 r4 _ (Kd.C_below HR2.out HB.out) HC2.out HB6.out HBB.out HRD.out).mono ?_; rintro e w6 ⟨v2, rfl, ho, hb⟩; obtain ⟨Ay, cy, rfl⟩ := Kd.R_slice ho; rw [HXN.out] at ho ⊢; have VY := Aside0.mk (show RV w6 (.slice Ay xn cy) r2 from RV.of_R (e := 5) ho); have HB_ := Aside0.mk (below_step HB.out hb); have HBXg3_ := Aside0.mk ((hb.block g3 (blk_lt HBXg3.out)).trans HBXg3.out); have HBXg4_ := Aside0.mk ((hb.block g4 (blk_lt HBXg4.out)).trans HBXg4.out); have HBXg11_ := Aside0.mk ((hb.block g11 (blk_lt HBXg11.out)).trans HBXg11.out); have VF_ := Aside0.mk (VF.out.below hb); have VG_ := Aside0.mk (VG.out.below hb); have VP_ := Aside0.mk (VP.out.below hb); have VQ_ := Aside0.mk (VQ.out.below hb); have VX_ := Aside0.mk (VX.out.below hb); clear HB HBXg3 HBXg4 HBXg11 VF VG VP VQ VX; have HB := HB_; have HBXg3 := HBXg3_; have HBXg4 := HBXg4_; have HBXg11 := HBXg11_; have VF := VF_; have VG := VG_; have VP := VP_; have VQ := VQ_; have VX := VX_; clear HB_ HBXg3_ HBXg4_ HBXg11_ VF_ VG_ VP_ VQ_ VX_; clear ho hb) | ((with_reducible refine gate_dst (N := 14) rfl ?_); refine box_event ?hg (N := 14) ?hd (cs := #[.int .u8 0, .slice none 0 0]) (t := 41) ?hr ?_; (case hd => rfl); (case hg => rfl); (case hr => first | (go_simp; done) | (go_simp; rfl)); intro g14 hgb wd hbox hb; have HBX := Aside0.mk hbox; have HGE := Aside0.mk (show w6.heap.size ≤ g14 by rw [hgb]; exact Nat.le_refl _); have HBa := Aside0.mk hb; clear hgb hb hbox; have hx0 := blk_cell HBX.out 0; have hx1 := blk_cell HBX.out 1; have hfx0 := blk_frozen HBX.out 0; have hfx1 := blk_frozen HBX.out 1; replace hx0 := hx0.trans rfl; replace hx1 := hx1.trans rfl))
  (try simp only [Act.put, List.setIfInBounds_toArray, List.set_cons_zero, List.set_cons_succ])
  generalize hst : World.setCell (World.setCell wd ⟨g14, 0, none⟩ (.int .u8 r1)) ⟨g14, 1, none⟩ (.slice Ay xn cy) = w7
  have HBX0 := Aside0.mk ((blk_set HBX.out 0 (.int .u8 r1)).trans rfl)
  have HBXg14 := Aside0.mk ((hst ▸ (blk_set HBX0.out 1 (.slice Ay xn cy)).trans rfl : w7.heap[g14]? = some (.cells #[.int .u8 r1, .slice Ay xn cy] 41 (0, 0))))
  have hb : Below w6.heap.size w6 w7 := hst ▸ below_set (below_set HBa.out HGE.out) HGE.out
  have HB_ := Aside0.mk (below_step HB.out hb)
  have HBXg3_ := Aside0.mk ((hb.block g3 (blk_lt HBXg3.out)).trans HBXg3.out)
  have HBXg4_ := Aside0.mk ((hb.block g4 (blk_lt HBXg4.out)).trans HBXg4.out)
  have HBXg11_ := Aside0.mk ((hb.block g11 (blk_lt HBXg11.out)).trans HBXg11.out)
  have VF_ := Aside0.mk (VF.out.below hb)
  have VG_ := Aside0.mk (VG.out.below hb)
  have VP_ := Aside0.mk (VP.out.below hb)
  have VQ_ := Aside0.mk (VQ.out.below hb)
  have VX_ := Aside0.mk (VX.out.below hb)
  have VY_ := Aside0.mk (VY.out.below hb)
  clear HB HBXg3 HBXg4 HBXg11 VF VG VP VQ VX VY
  have HB := HB_
  have HBXg3 := HBXg3_
  have HBXg4 := HBXg4_
  have HBXg11 := HBXg11_
  have VF := VF_
  have VG := VG_
  have VP := VP_
  have VQ := VQ_
  have VX := VX_
  have VY := VY_
  clear HB_ HBXg3_ HBXg4_ HBXg11_ VF_ VG_ VP_ VQ_ VX_ VY_
  clear hb hst hx0 hx1 hfx0 hfx1 HBX0 HBX HGE HBa
  have hb := below_drew1 (Below.refl w7.heap.size w7)
  have HB_ := Aside0.mk (below_step HB.out hb)
  have HBXg3_ := Aside0.mk ((hb.block g3 (blk_lt HBXg3.out)).trans HBXg3.out)
  have HBXg4_ := Aside0.mk ((hb.block g4 (blk_lt HBXg4.out)).trans HBXg4.out)
  have HBXg11_ := Aside0.mk ((hb.block g11 (blk_lt HBXg11.out)).trans HBXg11.out)
  have HBXg14_ := Aside0.mk ((hb.block g14 (blk_lt HBXg14.out)).trans HBXg14.out)
  have VF_ := Aside0.mk (VF.out.below hb)
  have VG_ := Aside0.mk (VG.out.below hb)
  have VX_ := Aside0.mk (VX.out.below hb)
  have VY_ := Aside0.mk (VY.out.below hb)
  have VP_ := Aside0.mk (VP.out.below hb)
  have VQ_ := Aside0.mk (VQ.out.below hb)
  clear HB HBXg3 HBXg4 HBXg11 HBXg14 VF VG VX VY VP VQ
  have HB := HB_
  have HBXg3 := HBXg3_
  have HBXg4 := HBXg4_
  have HBXg11 := HBXg11_
  have HBXg14 := HBXg14_
  have VF := VF_
  have VG := VG_
  have VX := VX_
  have VY := VY_
  have VP := VP_
  have VQ := VQ_
  clear HB_ HBXg3_ HBXg4_ HBXg11_ HBXg14_ VF_ VG_ VX_ VY_ VP_ VQ_
  clear hb
  refine start_ (n := 40) (S := fun w' => w'.cell? ⟨g11, 0, none⟩ = some (.int .u8 r1) ∧ w'.cell? ⟨g11, 1, none⟩ = some (.slice Ax xn cx) ∧ w'.cell? ⟨g14, 0, none⟩ = some (.int .u8 r1) ∧ w'.cell? ⟨g14, 1, none⟩ = some (.slice Ay xn cy) ∧ w'.cell? ⟨g3, 0, none⟩ = some (.int .u8 fc) ∧ w'.cell? ⟨g3, 1, none⟩ = some (.slice Af fn cf) ∧ w'.cell? ⟨g4, 0, none⟩ = some (.int .u8 gc) ∧ w'.cell? ⟨g4, 1, none⟩ = some (.slice Ag gn cg)) (ds := []) #[false, false, false, false, false, false, false, false, false, false, false, false, false, false, false, false, false, false, false, false, false, false, false, false, false, false, false, false, false, false, false, false, false, false, false, false, false, false, false, false] (by kernel_rfl) rfl rfl ⟨(blk_cell HBXg11.out 0).trans rfl, (blk_cell HBXg11.out 1).trans rfl, (blk_cell HBXg14.out 0).trans rfl, (blk_cell HBXg14.out 1).trans rfl, (blk_cell HBXg3.out 0).trans rfl, (blk_cell HBXg3.out 1).trans rfl, (blk_cell HBXg4.out 0).trans rfl, (blk_cell HBXg4.out 1).trans rfl⟩ (fun hHeld => ?_)
  generalize World.drew w7 = w8 at HB HBXg3 HBXg4 HBXg11 HBXg14 VF VG VX VY VP VQ hHeld ⊢
  refine pure_ (i := 0) (N := some 56) (v := ?_) (a' := ?_) #[true, false, false, false, false, false, false, false, false, false, false, false, false, false, false, false, false, false, false, false, false, false, false, false, false, false, false, false, false, false, false, false, false, false, false, false, false, false, false, false] rfl rfl (by kernel_rfl) (fun _ _ _ h => h) (Or.inl ⟨by rfl, ?_⟩) ?_ ?_
  rotate_left
  · intro w'
    go_simp
    with_reducible rfl
  rotate_left
  · simp only [Act.put, List.setIfInBounds_toArray, List.set_cons_zero, List.set_cons_succ, i64_w, i32_w]
    rfl
  refine pure_ (i := 1) (N := some 57) (v := ?_) (a' := ?_) #[true, true, false, false, false, false, false, false, false, false, false, false, false, false, false, false, false, false, false, false, false, false, false, false, false, false, false, false, false, false, false, false, false, false, false, false, false, false, false, false] rfl rfl (by kernel_rfl) (fun _ _ _ h => h) (Or.inl ⟨by rfl, ?_⟩) ?_ ?_
  rotate_left
  · intro w'
    go_simp
    with_reducible rfl
  rotate_left
  · simp only [Act.put, List.setIfInBounds_toArray, List.set_cons_zero, List.set_cons_succ, i64_w, i32_w]
    rfl
  refine one_ (i := 2) (N := some 58) #[true, true, true, false, false, false, false, false, false, false, false, false, false, false, false, false, false, false, false, false, false, false, false, false, false, false, false, false, false, false, false, false, false, false, false, false, false, false, false, false] rfl rfl (by kernel_rfl) (by decide) (fun K hK => ?_)
  refine goes_ Try.func23 (by kernel_rfl) rfl #[.slice Ap pn cp, .slice Aq pn cq] (by rfl) rfl rfl (by simp only [List.map_toArray, List.map_cons, List.map_nil]; rfl) ?_
  with_reducible refine (Same8_calls Ap pn cp p HPN.out Aq pn cq p HPN.out true _ VP.out.at_.2.2 VP.out.at_.2.1 VQ.out.at_.2.2 VQ.out.at_.2.1 HPL.out (decide_eq_true rfl)).mono ?_
  rintro e wA ⟨rfl, hb⟩
  refine ⟨_, rfl, ?_⟩
  have HB_ := Aside0.mk (below_step HB.out hb)
  have HBXg3_ := Aside0.mk ((hb.block g3 (blk_lt HBXg3.out)).trans HBXg3.out)
  have HBXg4_ := Aside0.mk ((hb.block g4 (blk_lt HBXg4.out)).trans HBXg4.out)
  have HBXg11_ := Aside0.mk ((hb.block g11 (blk_lt HBXg11.out)).trans HBXg11.out)
  have HBXg14_ := Aside0.mk ((hb.block g14 (blk_lt HBXg14.out)).trans HBXg14.out)
  have VF_ := Aside0.mk (VF.out.below hb)
  have VG_ := Aside0.mk (VG.out.below hb)
  have VX_ := Aside0.mk (VX.out.below hb)
  have VY_ := Aside0.mk (VY.out.below hb)
  clear HB HBXg3 HBXg4 HBXg11 HBXg14 VF VG VX VY
  have HB := HB_
  have HBXg3 := HBXg3_
  have HBXg4 := HBXg4_
  have HBXg11 := HBXg11_
  have HBXg14 := HBXg14_
  have VF := VF_
  have VG := VG_
  have VX := VX_
  have VY := VY_
  clear HB_ HBXg3_ HBXg4_ HBXg11_ HBXg14_ VF_ VG_ VX_ VY_
  clear hb VP VQ
  have HZ := Aside0.mk (Below.refl wA.heap.size wA)
  refine hK.out _ _ ⟨(blk_cell HBXg11.out 0).trans rfl, (blk_cell HBXg11.out 1).trans rfl, (blk_cell HBXg14.out 0).trans rfl, (blk_cell HBXg14.out 1).trans rfl, (blk_cell HBXg3.out 0).trans rfl, (blk_cell HBXg3.out 1).trans rfl, (blk_cell HBXg4.out 0).trans rfl, (blk_cell HBXg4.out 1).trans rfl⟩ (fun hHeld => ?_)
  clear hK K
  refine norm_ (a' := ?_) ?_ ?_
  rotate_left
  · show Act.put _ (some 58) _ = _
    simp only [Act.put, List.setIfInBounds_toArray, List.set_cons_zero, List.set_cons_succ, i64_w, i32_w]
    rfl
  refine pure_ (i := 3) (N := some 59) (v := ?_) (a' := ?_) #[true, true, true, true, false, false, false, false, false, false, false, false, false, false, false, false, false, false, false, false, false, false, false, false, false, false, false, false, false, false, false, false, false, false, false, false, false, false, false, false] rfl rfl (by kernel_rfl) (fun _ _ _ h => h) (Or.inl ⟨by rfl, ?_⟩) ?_ ?_
  rotate_left
  · intro w'
    go_simp
    with_reducible rfl
  rotate_left
  · simp only [Act.put, List.setIfInBounds_toArray, List.set_cons_zero, List.set_cons_succ, i64_w, i32_w]
    rfl
  refine pure_ (i := 4) (N := some 60) (v := ?_) (a' := ?_) #[true, true, true, true, true, false, false, false, false, false, false, false, false, false, false, false, false, false, false, false, false, false, false, false, false, false, false, false, false, false, false, false, false, false, false, false, false, false, false, false] rfl rfl (by kernel_rfl) (fun _ _ _ h => h) (Or.inl ⟨by rfl, ?_⟩) ?_ ?_
  rotate_left
  · intro w'
    go_simp
    with_reducible rfl
  rotate_left
  · simp only [Act.put, List.setIfInBounds_toArray, List.set_cons_zero, List.set_cons_succ, i64_w, i32_w]
    rfl
  refine pure_ (i := 5) (N := some 61) (v := ?_) (a' := ?_) #[true, true, true, true, true, true, false, false, false, false, false, false, false, false, false, false, false, false, false, false, false, false, false, false, false, false, false, false, false, false, false, false, false, false, false, false, false, false, false, false] rfl rfl (by kernel_rfl) (fun _ _ _ h => h) (Or.inl ⟨by rfl, ?_⟩) ?_ ?_
  rotate_left
  · intro w'
    go_simp
    with_reducible rfl
  rotate_left
  · simp only [Act.put, List.setIfInBounds_toArray, List.set_cons_zero, List.set_cons_succ, i64_w, i32_w]
    rfl
  refine pure_ (i := 6) (N := some 62) (v := ?_) (a' := ?_) #[true, true, true, true, true, true, true, false, false, false, false, false, false, false, false, false, false, false, false, false, false, false, false, false, false, false, false, false, false, false, false, false, false, false, false, false, false, false, false, false] rfl rfl (by kernel_rfl) (fun _ _ _ h => h) (Or.inl ⟨by rfl, ?_⟩) ?_ ?_
  rotate_left
  · intro w'
    go_simp
    with_reducible rfl
  rotate_left
  · simp only [Act.put, List.setIfInBounds_toArray, List.set_cons_zero, List.set_cons_succ, i64_w, i32_w]
    rfl
  refine pure_ (i := 7) (N := some 63) (v := ?_) (a' := ?_) #[true, true, true, true, true, true, true, true, false, false, false, false, false, false, false, false, false, false, false, false, false, false, false, false, false, false, false, false, false, false, false, false, false, false, false, false, false, false, false, false] rfl rfl (by kernel_rfl) (fun _ _ _ h => h) (Or.inl ⟨by rfl, ?_⟩) ?_ ?_
  rotate_left
  · intro w'
    go_simp
    with_reducible rfl
  rotate_left
  · simp only [Act.put, List.setIfInBounds_toArray, List.set_cons_zero, List.set_cons_succ, i64_w, i32_w]
    rfl
  refine pure_ (i := 8) (N := some 64) (v := ?_) (a' := ?_) #[true, true, true, true, true, true, true, true, true, false, false, false, false, false, false, false, false, false, false, false, false, false, false, false, false, false, false, false, false, false, false, false, false, false, false, false, false, false, false, false] rfl rfl (by kernel_rfl) (fun _ _ _ h => h) (Or.inl ⟨by rfl, ?_⟩) ?_ ?_
  rotate_left
  · intro w'
    go_simp
    with_reducible rfl
  rotate_left
  · simp only [Act.put, List.setIfInBounds_toArray, List.set_cons_zero, List.set_cons_succ, i64_w, i32_w]
    rfl
  refine take_ (i := 9) (N := some 65) (v := ?_) (a' := ?_) #[true, true, true, true, true, true, true, true, true, true, false, false, false, false, false, false, false, false, false, false, false, false, false, false, false, false, false, false, false, false, false, false, false, false, false, false, false, false, false, false] rfl rfl (by kernel_rfl) (fun _ _ _ h => h) (Or.inl ⟨by rfl, ?_⟩) hHeld ?_ ?_
  rotate_left
  · rintro w' ⟨s0, s1, s2, s3, s4, s5, s6, s7⟩
    go_simp
    with_reducible rfl
  rotate_left
  · simp only [Act.put, List.setIfInBounds_toArray, List.set_cons_zero, List.set_cons_succ, i64_w, i32_w]
    rfl
  refine take_ (i := 12) (N := some 68) (v := ?_) (a' := ?_) #[true, true, true, true, true, true, true, true, true, true, false, false, true, false, false, false, false, false, false, false, false, false, false, false, false, false, false, false, false, false, false, false, false, false, false, false, false, false, false, false] rfl rfl (by kernel_rfl) (fun _ _ _ h => h) (Or.inl ⟨by rfl, ?_⟩) hHeld ?_ ?_
  rotate_left
  · rintro w' ⟨s0, s1, s2, s3, s4, s5, s6, s7⟩
    go_simp
    with_reducible rfl
  rotate_left
  · simp only [Act.put, List.setIfInBounds_toArray, List.set_cons_zero, List.set_cons_succ, i64_w, i32_w]
    rfl
  refine join_ (σ := Value × Value × Value) 26 #[true, true, true, true, true, true, true, true, true, true, true, true, true, true, false, false, false, false, false, false, false, false, false, false, false, false, false, false, false, false, false, false, false, false, false, false, false, false, false, false] (fun s => [(66, s.1), (67, s.2.1), (69, s.2.2)]) (fun s w' => ∃ (g66 : Nat) (A67 : Option Addr) (c67 g69 : Nat), s = (.slice (some ⟨g66, 0, none⟩) 1 1, .slice A67 1 c67, .slice (some ⟨g69, 0, none⟩) 1 1) ∧ 1 ≤ c67 ∧ Kd.C k41 w' A67 1 [to41 ⟨r1, r2⟩] ∧ Kd.C k41 w' (some ⟨g69, 0, none⟩) 1 [⟨r1, r2⟩] ∧ Below wA.heap.size wA w') ?_ ?_
  rotate_left
  · intro hCont
    refine two_ (i := 10) (j := 13) (Ni := some 66) (Nj := some 69) #[true, true, true, true, true, true, true, true, true, true, true, false, true, false, false, false, false, false, false, false, false, false, false, false, false, false, false, false, false, false, false, false, false, false, false, false, false, false, false, false] #[true, true, true, true, true, true, true, true, true, true, false, false, true, true, false, false, false, false, false, false, false, false, false, false, false, false, false, false, false, false, false, false, false, false, false, false, false, false, false, false] rfl rfl rfl rfl (by kernel_rfl) (by decide) (by decide) (fun K hK => ?_) (fun K hK => ?_)
    · skip
      refine value_ (w1 := ?_) (v := ?_) (by rfl) rfl ?_ ?_
      rotate_left 2
      · go_simp
        constructor
        · rfl
        · rfl
      obtain ⟨g66, wk1_10, hg_, hwn, hb, hc_⟩ : ∃ g wn, (wA).heap.size = g ∧ World.alloc wA (.cells #[.int .u8 r1, .slice Ax xn cx] 38) = wn ∧ Below wA.heap.size wA wn ∧ wn.heap[g]? = some (.cells #[.int .u8 r1, .slice Ax xn cx] 38) := ⟨_, _, rfl, rfl, below_alloc (Below.refl _ _) _, heap_alloc_new wA _⟩
      rw [hg_, hwn]
      have H10 := Aside0.mk (RW_one HXN.out ((VX.out.below HZ.out).below hb) hc_)
      have HZ_ := Aside0.mk (below_step HZ.out hb)
      clear HZ
      have HZ := HZ_
      clear HZ_
      clear hg_ hwn hb hc_
      refine hK.out _ _ ⟨pw_cell_below HZ.out ((blk_cell HBXg11.out 0).trans rfl), pw_cell_below HZ.out ((blk_cell HBXg11.out 1).trans rfl), pw_cell_below HZ.out ((blk_cell HBXg14.out 0).trans rfl), pw_cell_below HZ.out ((blk_cell HBXg14.out 1).trans rfl), pw_cell_below HZ.out ((blk_cell HBXg3.out 0).trans rfl), pw_cell_below HZ.out ((blk_cell HBXg3.out 1).trans rfl), pw_cell_below HZ.out ((blk_cell HBXg4.out 0).trans rfl), pw_cell_below HZ.out ((blk_cell HBXg4.out 1).trans rfl)⟩ (fun hHeld => ?_)
      clear hK K
      refine norm_ (a' := ?_) ?_ ?_
      rotate_left
      · show Act.put _ (some 66) _ = _
        simp only [Act.put, List.setIfInBounds_toArray, List.set_cons_zero, List.set_cons_succ, i64_w, i32_w]
        rfl
      refine two_ (i := 11) (j := 13) (Ni := some 67) (Nj := some 69) #[true, true, true, true, true, true, true, true, true, true, true, true, true, false, false, false, false, false, false, false, false, false, false, false, false, false, false, false, false, false, false, false, false, false, false, false, false, false, false, false] #[true, true, true, true, true, true, true, true, true, true, true, false, true, true, false, false, false, false, false, false, false, false, false, false, false, false, false, false, false, false, false, false, false, false, false, false, false, false, false, false] rfl rfl rfl rfl (by kernel_rfl) (by decide) (by decide) (fun K hK => ?_) (fun K hK => ?_)
      · skip
        obtain ⟨ok_, hv_⟩ := H10.out.v_
        refine goes_ Try.func31 (by kernel_rfl) rfl #[.slice (some ⟨g66, 0, none⟩) 1 1] (by rfl) rfl rfl (by simp only [List.map_toArray, List.map_cons, List.map_nil]; rfl) ?_
        with_reducible refine (Frames_calls ok_ (some ⟨g66, 0, none⟩) 1 1 [⟨r1, r2⟩] rfl _ hv_ (by omega)).mono ?_
        rintro e wk1_10_11 ⟨A67, c67, rfl, hc_, hC_, hb⟩
        refine ⟨_, rfl, ?_⟩
        have H11 := Aside0.mk (And.intro hc_ hC_ : 1 ≤ c67 ∧ Kd.C k41 wk1_10_11 A67 1 [to41 ⟨r1, r2⟩])
        have HZ_ := Aside0.mk (below_step HZ.out hb)
        clear HZ
        have HZ := HZ_
        clear HZ_
        clear hc_ hC_ hb hv_ ok_
        refine hK.out _ _ ⟨pw_cell_below HZ.out ((blk_cell HBXg11.out 0).trans rfl), pw_cell_below HZ.out ((blk_cell HBXg11.out 1).trans rfl), pw_cell_below HZ.out ((blk_cell HBXg14.out 0).trans rfl), pw_cell_below HZ.out ((blk_cell HBXg14.out 1).trans rfl), pw_cell_below HZ.out ((blk_cell HBXg3.out 0).trans rfl), pw_cell_below HZ.out ((blk_cell HBXg3.out 1).trans rfl), pw_cell_below HZ.out ((blk_cell HBXg4.out 0).trans rfl), pw_cell_below HZ.out ((blk_cell HBXg4.out 1).trans rfl)⟩ (fun hHeld => ?_)
        clear hK K
        refine norm_ (a' := ?_) ?_ ?_
        rotate_left
        · show Act.put _ (some 67) _ = _
          simp only [Act.put, List.setIfInBounds_toArray, List.set_cons_zero, List.set_cons_succ, i64_w, i32_w]
          rfl
        refine one_ (i := 13) (N := some 69) #[true, true, true, true, true, true, true, true, true, true, true, true, true, true, false, false, false, false, false, false, false, false, false, false, false, false, false, false, false, false, false, false, false, false, false, false, false, false, false, false] rfl rfl (by kernel_rfl) (by decide) (fun K hK => ?_)
        refine value_ (w1 := ?_) (v := ?_) (by rfl) rfl ?_ ?_
        rotate_left 2
        · go_simp
          constructor
          · rfl
          · rfl
        obtain ⟨g69, wk1_10_11_13, hg_, hwn, hb, hc_⟩ : ∃ g wn, (wk1_10_11).heap.size = g ∧ World.alloc wk1_10_11 (.cells #[.int .u8 r1, .slice Ay xn cy] 41) = wn ∧ Below wk1_10_11.heap.size wk1_10_11 wn ∧ wn.heap[g]? = some (.cells #[.int .u8 r1, .slice Ay xn cy] 41) := ⟨_, _, rfl, rfl, below_alloc (Below.refl _ _) _, heap_alloc_new wk1_10_11 _⟩
        rw [hg_, hwn]
        have H13 := Aside0.mk (C41_one HXN.out (VY.out.at_.2.1) ((VY.out.below HZ.out).below hb).at_.2.2 hc_)
        have HZ_ := Aside0.mk (below_step HZ.out hb)
        have H11_ := Aside0.mk ((And.intro H11.out.1 (Kd.C_below H11.out.2 hb)))
        clear HZ H11
        have HZ := HZ_
        have H11 := H11_
        clear HZ_ H11_
        clear hg_ hwn hb hc_
        refine hK.out _ _ ⟨pw_cell_below HZ.out ((blk_cell HBXg11.out 0).trans rfl), pw_cell_below HZ.out ((blk_cell HBXg11.out 1).trans rfl), pw_cell_below HZ.out ((blk_cell HBXg14.out 0).trans rfl), pw_cell_below HZ.out ((blk_cell HBXg14.out 1).trans rfl), pw_cell_below HZ.out ((blk_cell HBXg3.out 0).trans rfl), pw_cell_below HZ.out ((blk_cell HBXg3.out 1).trans rfl), pw_cell_below HZ.out ((blk_cell HBXg4.out 0).trans rfl), pw_cell_below HZ.out ((blk_cell HBXg4.out 1).trans rfl)⟩ (fun hHeld => ?_)
        clear hK K
        refine norm_ (a' := ?_) ?_ ?_
        rotate_left
        · show Act.put _ (some 69) _ = _
          simp only [Act.put, List.setIfInBounds_toArray, List.set_cons_zero, List.set_cons_succ, i64_w, i32_w]
          rfl
        exact norm_ (by simp only [putAll, Act.put, List.setIfInBounds_toArray, List.set_cons_zero, List.set_cons_succ]) (hCont (.slice (some ⟨g66, 0, none⟩) 1 1, .slice A67 1 c67, .slice (some ⟨g69, 0, none⟩) 1 1) _ ⟨g66, A67, c67, g69, rfl, H11.out.1, H11.out.2, H13.out, HZ.out⟩)
      · skip
        refine value_ (w1 := ?_) (v := ?_) (by rfl) rfl ?_ ?_
        rotate_left 2
        · go_simp
          constructor
          · rfl
          · rfl
        obtain ⟨g69, wk1_10_13, hg_, hwn, hb, hc_⟩ : ∃ g wn, (wk1_10).heap.size = g ∧ World.alloc wk1_10 (.cells #[.int .u8 r1, .slice Ay xn cy] 41) = wn ∧ Below wk1_10.heap.size wk1_10 wn ∧ wn.heap[g]? = some (.cells #[.int .u8 r1, .slice Ay xn cy] 41) := ⟨_, _, rfl, rfl, below_alloc (Below.refl _ _) _, heap_alloc_new wk1_10 _⟩
        rw [hg_, hwn]
        have H13 := Aside0.mk (C41_one HXN.out (VY.out.at_.2.1) ((VY.out.below HZ.out).below hb).at_.2.2 hc_)
        have HZ_ := Aside0.mk (below_step HZ.out hb)
        have H10_ := Aside0.mk (H10.out.below hb)
        clear HZ H10
        have HZ := HZ_
        have H10 := H10_
        clear HZ_ H10_
        clear hg_ hwn hb hc_
        refine hK.out _ _ ⟨pw_cell_below HZ.out ((blk_cell HBXg11.out 0).trans rfl), pw_cell_below HZ.out ((blk_cell HBXg11.out 1).trans rfl), pw_cell_below HZ.out ((blk_cell HBXg14.out 0).trans rfl), pw_cell_below HZ.out ((blk_cell HBXg14.out 1).trans rfl), pw_cell_below HZ.out ((blk_cell HBXg3.out 0).trans rfl), pw_cell_below HZ.out ((blk_cell HBXg3.out 1).trans rfl), pw_cell_below HZ.out ((blk_cell HBXg4.out 0).trans rfl), pw_cell_below HZ.out ((blk_cell HBXg4.out 1).trans rfl)⟩ (fun hHeld => ?_)
        clear hK K
        refine norm_ (a' := ?_) ?_ ?_
        rotate_left
        · show Act.put _ (some 69) _ = _
          simp only [Act.put, List.setIfInBounds_toArray, List.set_cons_zero, List.set_cons_succ, i64_w, i32_w]
          rfl
        refine one_ (i := 11) (N := some 67) #[true, true, true, true, true, true, true, true, true, true, true, true, true, true, false, false, false, false, false, false, false, false, false, false, false, false, false, false, false, false, false, false, false, false, false, false, false, false, false, false] rfl rfl (by kernel_rfl) (by decide) (fun K hK => ?_)
        obtain ⟨ok_, hv_⟩ := H10.out.v_
        refine goes_ Try.func31 (by kernel_rfl) rfl #[.slice (some ⟨g66, 0, none⟩) 1 1] (by rfl) rfl rfl (by simp only [List.map_toArray, List.map_cons, List.map_nil]; rfl) ?_
        with_reducible refine (Frames_calls ok_ (some ⟨g66, 0, none⟩) 1 1 [⟨r1, r2⟩] rfl _ hv_ (by omega)).mono ?_
        rintro e wk1_10_13_11 ⟨A67, c67, rfl, hc_, hC_, hb⟩
        refine ⟨_, rfl, ?_⟩
        have H11 := Aside0.mk (And.intro hc_ hC_ : 1 ≤ c67 ∧ Kd.C k41 wk1_10_13_11 A67 1 [to41 ⟨r1, r2⟩])
        have HZ_ := Aside0.mk (below_step HZ.out hb)
        have H13_ := Aside0.mk (Kd.C_below H13.out hb)
        clear HZ H13
        have HZ := HZ_
        have H13 := H13_
        clear HZ_ H13_
        clear hc_ hC_ hb hv_ ok_
        refine hK.out _ _ ⟨pw_cell_below HZ.out ((blk_cell HBXg11.out 0).trans rfl), pw_cell_below HZ.out ((blk_cell HBXg11.out 1).trans rfl), pw_cell_below HZ.out ((blk_cell HBXg14.out 0).trans rfl), pw_cell_below HZ.out ((blk_cell HBXg14.out 1).trans rfl), pw_cell_below HZ.out ((blk_cell HBXg3.out 0).trans rfl), pw_cell_below HZ.out ((blk_cell HBXg3.out 1).trans rfl), pw_cell_below HZ.out ((blk_cell HBXg4.out 0).trans rfl), pw_cell_below HZ.out ((blk_cell HBXg4.out 1).trans rfl)⟩ (fun hHeld => ?_)
        clear hK K
        refine norm_ (a' := ?_) ?_ ?_
        rotate_left
        · show Act.put _ (some 67) _ = _
          simp only [Act.put, List.setIfInBounds_toArray, List.set_cons_zero, List.set_cons_succ, i64_w, i32_w]
          rfl
        exact norm_ (by simp only [putAll, Act.put, List.setIfInBounds_toArray, List.set_cons_zero, List.set_cons_succ]) (hCont (.slice (some ⟨g66, 0, none⟩) 1 1, .slice A67 1 c67, .slice (some ⟨g69, 0, none⟩) 1 1) _ ⟨g66, A67, c67, g69, rfl, H11.out.1, H11.out.2, H13.out, HZ.out⟩)
    · skip
      refine value_ (w1 := ?_) (v := ?_) (by rfl) rfl ?_ ?_
      rotate_left 2
      · go_simp
        constructor
        · rfl
        · rfl
      obtain ⟨g69, wk1_13, hg_, hwn, hb, hc_⟩ : ∃ g wn, (wA).heap.size = g ∧ World.alloc wA (.cells #[.int .u8 r1, .slice Ay xn cy] 41) = wn ∧ Below wA.heap.size wA wn ∧ wn.heap[g]? = some (.cells #[.int .u8 r1, .slice Ay xn cy] 41) := ⟨_, _, rfl, rfl, below_alloc (Below.refl _ _) _, heap_alloc_new wA _⟩
      rw [hg_, hwn]
      have H13 := Aside0.mk (C41_one HXN.out (VY.out.at_.2.1) ((VY.out.below HZ.out).below hb).at_.2.2 hc_)
      have HZ_ := Aside0.mk (below_step HZ.out hb)
      clear HZ
      have HZ := HZ_
      clear HZ_
      clear hg_ hwn hb hc_
      refine hK.out _ _ ⟨pw_cell_below HZ.out ((blk_cell HBXg11.out 0).trans rfl), pw_cell_below HZ.out ((blk_cell HBXg11.out 1).trans rfl), pw_cell_below HZ.out ((blk_cell HBXg14.out 0).trans rfl), pw_cell_below HZ.out ((blk_cell HBXg14.out 1).trans rfl), pw_cell_below HZ.out ((blk_cell HBXg3.out 0).trans rfl), pw_cell_below HZ.out ((blk_cell HBXg3.out 1).trans rfl), pw_cell_below HZ.out ((blk_cell HBXg4.out 0).trans rfl), pw_cell_below HZ.out ((blk_cell HBXg4.out 1).trans rfl)⟩ (fun hHeld => ?_)
      clear hK K
      refine norm_ (a' := ?_) ?_ ?_
      rotate_left
      · show Act.put _ (some 69) _ = _
        simp only [Act.put, List.setIfInBounds_toArray, List.set_cons_zero, List.set_cons_succ, i64_w, i32_w]
        rfl
      refine one_ (i := 10) (N := some 66) #[true, true, true, true, true, true, true, true, true, true, true, false, true, true, false, false, false, false, false, false, false, false, false, false, false, false, false, false, false, false, false, false, false, false, false, false, false, false, false, false] rfl rfl (by kernel_rfl) (by decide) (fun K hK => ?_)
      refine value_ (w1 := ?_) (v := ?_) (by rfl) rfl ?_ ?_
      rotate_left 2
      · go_simp
        constructor
        · rfl
        · rfl
      obtain ⟨g66, wk1_13_10, hg_, hwn, hb, hc_⟩ : ∃ g wn, (wk1_13).heap.size = g ∧ World.alloc wk1_13 (.cells #[.int .u8 r1, .slice Ax xn cx] 38) = wn ∧ Below wk1_13.heap.size wk1_13 wn ∧ wn.heap[g]? = some (.cells #[.int .u8 r1, .slice Ax xn cx] 38) := ⟨_, _, rfl, rfl, below_alloc (Below.refl _ _) _, heap_alloc_new wk1_13 _⟩
      rw [hg_, hwn]
      have H10 := Aside0.mk (RW_one HXN.out ((VX.out.below HZ.out).below hb) hc_)
      have HZ_ := Aside0.mk (below_step HZ.out hb)
      have H13_ := Aside0.mk (Kd.C_below H13.out hb)
      clear HZ H13
      have HZ := HZ_
      have H13 := H13_
      clear HZ_ H13_
      clear hg_ hwn hb hc_
      refine hK.out _ _ ⟨pw_cell_below HZ.out ((blk_cell HBXg11.out 0).trans rfl), pw_cell_below HZ.out ((blk_cell HBXg11.out 1).trans rfl), pw_cell_below HZ.out ((blk_cell HBXg14.out 0).trans rfl), pw_cell_below HZ.out ((blk_cell HBXg14.out 1).trans rfl), pw_cell_below HZ.out ((blk_cell HBXg3.out 0).trans rfl), pw_cell_below HZ.out ((blk_cell HBXg3.out 1).trans rfl), pw_cell_below HZ.out ((blk_cell HBXg4.out 0).trans rfl), pw_cell_below HZ.out ((blk_cell HBXg4.out 1).trans rfl)⟩ (fun hHeld => ?_)
      clear hK K
      refine norm_ (a' := ?_) ?_ ?_
      rotate_left
      · show Act.put _ (some 66) _ = _
        simp only [Act.put, List.setIfInBounds_toArray, List.set_cons_zero, List.set_cons_succ, i64_w, i32_w]
        rfl
      refine one_ (i := 11) (N := some 67) #[true, true, true, true, true, true, true, true, true, true, true, true, true, true, false, false, false, false, false, false, false, false, false, false, false, false, false, false, false, false, false, false, false, false, false, false, false, false, false, false] rfl rfl (by kernel_rfl) (by decide) (fun K hK => ?_)
      obtain ⟨ok_, hv_⟩ := H10.out.v_
      refine goes_ Try.func31 (by kernel_rfl) rfl #[.slice (some ⟨g66, 0, none⟩) 1 1] (by rfl) rfl rfl (by simp only [List.map_toArray, List.map_cons, List.map_nil]; rfl) ?_
      with_reducible refine (Frames_calls ok_ (some ⟨g66, 0, none⟩) 1 1 [⟨r1, r2⟩] rfl _ hv_ (by omega)).mono ?_
      rintro e wk1_13_10_11 ⟨A67, c67, rfl, hc_, hC_, hb⟩
      refine ⟨_, rfl, ?_⟩
      have H11 := Aside0.mk (And.intro hc_ hC_ : 1 ≤ c67 ∧ Kd.C k41 wk1_13_10_11 A67 1 [to41 ⟨r1, r2⟩])
      have HZ_ := Aside0.mk (below_step HZ.out hb)
      have H13_ := Aside0.mk (Kd.C_below H13.out hb)
      clear HZ H13
      have HZ := HZ_
      have H13 := H13_
      clear HZ_ H13_
      clear hc_ hC_ hb hv_ ok_
      refine hK.out _ _ ⟨pw_cell_below HZ.out ((blk_cell HBXg11.out 0).trans rfl), pw_cell_below HZ.out ((blk_cell HBXg11.out 1).trans rfl), pw_cell_below HZ.out ((blk_cell HBXg14.out 0).trans rfl), pw_cell_below HZ.out ((blk_cell HBXg14.out 1).trans rfl), pw_cell_below HZ.out ((blk_cell HBXg3.out 0).trans rfl), pw_cell_below HZ.out ((blk_cell HBXg3.out 1).trans rfl), pw_cell_below HZ.out ((blk_cell HBXg4.out 0).trans rfl), pw_cell_below HZ.out ((blk_cell HBXg4.out 1).trans rfl)⟩ (fun hHeld => ?_)
      clear hK K
      refine norm_ (a' := ?_) ?_ ?_
      rotate_left
      · show Act.put _ (some 67) _ = _
        simp only [Act.put, List.setIfInBounds_toArray, List.set_cons_zero, List.set_cons_succ, i64_w, i32_w]
        rfl
      exact norm_ (by simp only [putAll, Act.put, List.setIfInBounds_toArray, List.set_cons_zero, List.set_cons_succ]) (hCont (.slice (some ⟨g66, 0, none⟩) 1 1, .slice A67 1 c67, .slice (some ⟨g69, 0, none⟩) 1 1) _ ⟨g66, A67, c67, g69, rfl, H11.out.1, H11.out.2, H13.out, HZ.out⟩)
  rintro ⟨s1_, s2_, s3_⟩ wB ⟨g66, A67, c67, g69, hs_, hc_, h1_, h2_, hb⟩
  injection hs_ with e1_ e2_
  injection e2_ with e2_ e3_
  subst e1_ e2_ e3_
  have H67C := Aside0.mk hc_
  have H67 := Aside0.mk h1_
  have H69 := Aside0.mk h2_
  have HB_ := Aside0.mk (below_step HB.out hb)
  have HBXg3_ := Aside0.mk ((hb.block g3 (blk_lt HBXg3.out)).trans HBXg3.out)
  have HBXg4_ := Aside0.mk ((hb.block g4 (blk_lt HBXg4.out)).trans HBXg4.out)
  have HBXg11_ := Aside0.mk ((hb.block g11 (blk_lt HBXg11.out)).trans HBXg11.out)
  have HBXg14_ := Aside0.mk ((hb.block g14 (blk_lt HBXg14.out)).trans HBXg14.out)
  have VF_ := Aside0.mk (VF.out.below hb)
  have VG_ := Aside0.mk (VG.out.below hb)
  have VX_ := Aside0.mk (VX.out.below hb)
  have VY_ := Aside0.mk (VY.out.below hb)
  clear HB HBXg3 HBXg4 HBXg11 HBXg14 VF VG VX VY
  have HB := HB_
  have HBXg3 := HBXg3_
  have HBXg4 := HBXg4_
  have HBXg11 := HBXg11_
  have HBXg14 := HBXg14_
  have VF := VF_
  have VG := VG_
  have VX := VX_
  have VY := VY_
  clear HB_ HBXg3_ HBXg4_ HBXg11_ HBXg14_ VF_ VG_ VX_ VY_
  clear hc_ h1_ h2_ hb HZ
  have hHeld : wB.cell? ⟨g11, 0, none⟩ = some (.int .u8 r1) ∧ wB.cell? ⟨g11, 1, none⟩ = some (.slice Ax xn cx) ∧ wB.cell? ⟨g14, 0, none⟩ = some (.int .u8 r1) ∧ wB.cell? ⟨g14, 1, none⟩ = some (.slice Ay xn cy) ∧ wB.cell? ⟨g3, 0, none⟩ = some (.int .u8 fc) ∧ wB.cell? ⟨g3, 1, none⟩ = some (.slice Af fn cf) ∧ wB.cell? ⟨g4, 0, none⟩ = some (.int .u8 gc) ∧ wB.cell? ⟨g4, 1, none⟩ = some (.slice Ag gn cg) := ⟨(blk_cell HBXg11.out 0).trans rfl, (blk_cell HBXg11.out 1).trans rfl, (blk_cell HBXg14.out 0).trans rfl, (blk_cell HBXg14.out 1).trans rfl, (blk_cell HBXg3.out 0).trans rfl, (blk_cell HBXg3.out 1).trans rfl, (blk_cell HBXg4.out 0).trans rfl, (blk_cell HBXg4.out 1).trans rfl⟩
  refine norm_ (a' := ?_) ?_ ?_
  rotate_left
  · simp only [putAll, Act.put, List.setIfInBounds_toArray, List.set_cons_zero, List.set_cons_succ]
    rfl
  refine one_ (i := 14) (N := some 70) #[true, true, true, true, true, true, true, true, true, true, true, true, true, true, true, false, false, false, false, false, false, false, false, false, false, false, false, false, false, false, false, false, false, false, false, false, false, false, false, false] rfl rfl (by kernel_rfl) (by decide) (fun K hK => ?_)
  refine goes_ Try.func30 (by kernel_rfl) rfl #[.slice A67 1 c67, .slice (some ⟨g69, 0, none⟩) 1 1] (by rfl) rfl rfl (by simp only [List.map_toArray, List.map_cons, List.map_nil]; rfl) ?_
  with_reducible refine (Same41_calls A67 1 c67 [to41 ⟨r1, r2⟩] rfl (some ⟨g69, 0, none⟩) 1 1 [⟨r1, r2⟩] rfl true _ H67.out H67C.out H69.out (Nat.le_refl _) (by omega) HX6.out (decide_eq_true rfl)).mono ?_
  rintro e wC ⟨rfl, hb⟩
  refine ⟨_, rfl, ?_⟩
  have HB_ := Aside0.mk (below_step HB.out hb)
  have HBXg3_ := Aside0.mk ((hb.block g3 (blk_lt HBXg3.out)).trans HBXg3.out)
  have HBXg4_ := Aside0.mk ((hb.block g4 (blk_lt HBXg4.out)).trans HBXg4.out)
  have HBXg11_ := Aside0.mk ((hb.block g11 (blk_lt HBXg11.out)).trans HBXg11.out)
  have HBXg14_ := Aside0.mk ((hb.block g14 (blk_lt HBXg14.out)).trans HBXg14.out)
  have VF_ := Aside0.mk (VF.out.below hb)
  have VG_ := Aside0.mk (VG.out.below hb)
  have VX_ := Aside0.mk (VX.out.below hb)
  have VY_ := Aside0.mk (VY.out.below hb)
  clear HB HBXg3 HBXg4 HBXg11 HBXg14 VF VG VX VY
  have HB := HB_
  have HBXg3 := HBXg3_
  have HBXg4 := HBXg4_
  have HBXg11 := HBXg11_
  have HBXg14 := HBXg14_
  have VF := VF_
  have VG := VG_
  have VX := VX_
  have VY := VY_
  clear HB_ HBXg3_ HBXg4_ HBXg11_ HBXg14_ VF_ VG_ VX_ VY_
  clear hb H67 H69
  have HZ := Aside0.mk (Below.refl wC.heap.size wC)
  refine hK.out _ _ ⟨(blk_cell HBXg11.out 0).trans rfl, (blk_cell HBXg11.out 1).trans rfl, (blk_cell HBXg14.out 0).trans rfl, (blk_cell HBXg14.out 1).trans rfl, (blk_cell HBXg3.out 0).trans rfl, (blk_cell HBXg3.out 1).trans rfl, (blk_cell HBXg4.out 0).trans rfl, (blk_cell HBXg4.out 1).trans rfl⟩ (fun hHeld => ?_)
  clear hK K
  refine norm_ (a' := ?_) ?_ ?_
  rotate_left
  · show Act.put _ (some 70) _ = _
    simp only [Act.put, List.setIfInBounds_toArray, List.set_cons_zero, List.set_cons_succ, i64_w, i32_w]
    rfl
  refine pure_ (i := 15) (N := some 71) (v := ?_) (a' := ?_) #[true, true, true, true, true, true, true, true, true, true, true, true, true, true, true, true, false, false, false, false, false, false, false, false, false, false, false, false, false, false, false, false, false, false, false, false, false, false, false, false] rfl rfl (by kernel_rfl) (fun _ _ _ h => h) (Or.inl ⟨by rfl, ?_⟩) ?_ ?_
  rotate_left
  · intro w'
    go_simp
    with_reducible rfl
  rotate_left
  · simp only [Act.put, List.setIfInBounds_toArray, List.set_cons_zero, List.set_cons_succ, i64_w, i32_w]
    rfl
  refine pure_ (i := 16) (N := some 72) (v := ?_) (a' := ?_) #[true, true, true, true, true, true, true, true, true, true, true, true, true, true, true, true, true, false, false, false, false, false, false, false, false, false, false, false, false, false, false, false, false, false, false, false, false, false, false, false] rfl rfl (by kernel_rfl) (fun _ _ _ h => h) (Or.inl ⟨by rfl, ?_⟩) ?_ ?_
  rotate_left
  · intro w'
    go_simp
    with_reducible rfl
  rotate_left
  · simp only [Act.put, List.setIfInBounds_toArray, List.set_cons_zero, List.set_cons_succ, i64_w, i32_w]
    rfl
  refine pure_ (i := 17) (N := some 73) (v := ?_) (a' := ?_) #[true, true, true, true, true, true, true, true, true, true, true, true, true, true, true, true, true, true, false, false, false, false, false, false, false, false, false, false, false, false, false, false, false, false, false, false, false, false, false, false] rfl rfl (by kernel_rfl) (fun _ _ _ h => h) (Or.inl ⟨by rfl, ?_⟩) ?_ ?_
  rotate_left
  · intro w'
    go_simp
    with_reducible rfl
  rotate_left
  · simp only [Act.put, List.setIfInBounds_toArray, List.set_cons_zero, List.set_cons_succ, i64_w, i32_w]
    rfl
  refine pure_ (i := 18) (N := some 74) (v := ?_) (a' := ?_) #[true, true, true, true, true, true, true, true, true, true, true, true, true, true, true, true, true, true, true, false, false, false, false, false, false, false, false, false, false, false, false, false, false, false, false, false, false, false, false, false] rfl rfl (by kernel_rfl) (fun _ _ _ h => h) (Or.inl ⟨by rfl, ?_⟩) ?_ ?_
  rotate_left
  · intro w'
    go_simp
    with_reducible rfl
  rotate_left
  · simp only [Act.put, List.setIfInBounds_toArray, List.set_cons_zero, List.set_cons_succ, i64_w, i32_w]
    rfl
  refine pure_ (i := 19) (N := some 75) (v := ?_) (a' := ?_) #[true, true, true, true, true, true, true, true, true, true, true, true, true, true, true, true, true, true, true, true, false, false, false, false, false, false, false, false, false, false, false, false, false, false, false, false, false, false, false, false] rfl rfl (by kernel_rfl) (fun _ _ _ h => h) (Or.inl ⟨by rfl, ?_⟩) ?_ ?_
  rotate_left
  · intro w'
    go_simp
    with_reducible rfl
  rotate_left
  · simp only [Act.put, List.setIfInBounds_toArray, List.set_cons_zero, List.set_cons_succ, i64_w, i32_w]
    rfl
  refine pure_ (i := 20) (N := some 76) (v := ?_) (a' := ?_) #[true, true, true, true, true, true, true, true, true, true, true, true, true, true, true, true, true, true, true, true, true, false, false, false, false, false, false, false, false, false, false, false, false, false, false, false, false, false, false, false] rfl rfl (by kernel_rfl) (fun _ _ _ h => h) (Or.inl ⟨by rfl, ?_⟩) ?_ ?_
  rotate_left
  · intro w'
    go_simp
    with_reducible rfl
  rotate_left
  · simp only [Act.put, List.setIfInBounds_toArray, List.set_cons_zero, List.set_cons_succ, i64_w, i32_w]
    rfl
  refine pure_ (i := 21) (N := some 77) (v := ?_) (a' := ?_) #[true, true, true, true, true, true, true, true, true, true, true, true, true, true, true, true, true, true, true, true, true, true, false, false, false, false, false, false, false, false, false, false, false, false, false, false, false, false, false, false] rfl rfl (by kernel_rfl) (fun _ _ _ h => h) (Or.inl ⟨by rfl, ?_⟩) ?_ ?_
  rotate_left
  · intro w'
    go_simp
    with_reducible rfl
  rotate_left
  · simp only [Act.put, List.setIfInBounds_toArray, List.set_cons_zero, List.set_cons_succ, i64_w, i32_w]
    rfl
  refine pure_ (i := 22) (N := some 78) (v := ?_) (a' := ?_) #[true, true, true, true, true, true, true, true, true, true, true, true, true, true, true, true, true, true, true, true, true, true, true, false, false, false, false, false, false, false, false, false, false, false, false, false, false, false, false, false] rfl rfl (by kernel_rfl) (fun _ _ _ h => h) (Or.inl ⟨by rfl, ?_⟩) ?_ ?_
  rotate_left
  · intro w'
    go_simp
    with_reducible rfl
  rotate_left
  · simp only [Act.put, List.setIfInBounds_toArray, List.set_cons_zero, List.set_cons_succ, i64_w, i32_w]
    rfl
  refine pure_ (i := 23) (N := some 79) (v := ?_) (a' := ?_) #[true, true, true, true, true, true, true, true, true, true, true, true, true, true, true, true, true, true, true, true, true, true, true, true, false, false, false, false, false, false, false, false, false, false, false, false, false, false, false, false] rfl rfl (by kernel_rfl) (fun _ _ _ h => h) (Or.inl ⟨by rfl, ?_⟩) ?_ ?_
  rotate_left
  · intro w'
    go_simp
    with_reducible rfl
  rotate_left
  · simp only [Act.put, List.setIfInBounds_toArray, List.set_cons_zero, List.set_cons_succ, i64_w, i32_w]
    rfl
  refine pure_ (i := 24) (N := some 80) (v := ?_) (a' := ?_) #[true, true, true, true, true, true, true, true, true, true, true, true, true, true, true, true, true, true, true, true, true, true, true, true, true, false, false, false, false, false, false, false, false, false, false, false, false, false, false, false] rfl rfl (by kernel_rfl) (fun _ _ _ h => h) (Or.inl ⟨by rfl, ?_⟩) ?_ ?_
  rotate_left
  · intro w'
    go_simp
    with_reducible rfl
  rotate_left
  · simp only [Act.put, List.setIfInBounds_toArray, List.set_cons_zero, List.set_cons_succ, i64_w, i32_w]
    rfl
  refine pure_ (i := 25) (N := some 81) (v := ?_) (a' := ?_) #[true, true, true, true, true, true, true, true, true, true, true, true, true, true, true, true, true, true, true, true, true, true, true, true, true, true, false, false, false, false, false, false, false, false, false, false, false, false, false, false] rfl rfl (by kernel_rfl) (fun _ _ _ h => h) (Or.inl ⟨by rfl, ?_⟩) ?_ ?_
  rotate_left
  · intro w'
    go_simp
    with_reducible rfl
  rotate_left
  · simp only [Act.put, List.setIfInBounds_toArray, List.set_cons_zero, List.set_cons_succ, i64_w, i32_w]
    rfl
  refine pure_ (i := 26) (N := some 82) (v := ?_) (a' := ?_) #[true, true, true, true, true, true, true, true, true, true, true, true, true, true, true, true, true, true, true, true, true, true, true, true, true, true, true, false, false, false, false, false, false, false, false, false, false, false, false, false] rfl rfl (by kernel_rfl) (fun _ _ _ h => h) (Or.inl ⟨by rfl, ?_⟩) ?_ ?_
  rotate_left
  · intro w'
    go_simp
    with_reducible rfl
  rotate_left
  · simp only [Act.put, List.setIfInBounds_toArray, List.set_cons_zero, List.set_cons_succ, i64_w, i32_w]
    rfl
  refine take_ (i := 27) (N := some 83) (v := ?_) (a' := ?_) #[true, true, true, true, true, true, true, true, true, true, true, true, true, true, true, true, true, true, true, true, true, true, true, true, true, true, true, true, false, false, false, false, false, false, false, false, false, false, false, false] rfl rfl (by kernel_rfl) (fun _ _ _ h => h) (Or.inl ⟨by rfl, ?_⟩) hHeld ?_ ?_
  rotate_left
  · rintro w' ⟨s0, s1, s2, s3, s4, s5, s6, s7⟩
    go_simp
    with_reducible rfl
  rotate_left
  · simp only [Act.put, List.setIfInBounds_toArray, List.set_cons_zero, List.set_cons_succ, i64_w, i32_w]
    rfl
  refine take_ (i := 28) (N := some 84) (v := ?_) (a' := ?_) #[true, true, true, true, true, true, true, true, true, true, true, true, true, true, true, true, true, true, true, true, true, true, true, true, true, true, true, true, true, false, false, false, false, false, false, false, false, false, false, false] rfl rfl (by kernel_rfl) (fun _ _ _ h => h) (Or.inl ⟨by rfl, ?_⟩) hHeld ?_ ?_
  rotate_left
  · rintro w' ⟨s0, s1, s2, s3, s4, s5, s6, s7⟩
    go_simp
    with_reducible rfl
  rotate_left
  · simp only [Act.put, List.setIfInBounds_toArray, List.set_cons_zero, List.set_cons_succ, i64_w, i32_w]
    rfl
  refine take_ (i := 30) (N := some 86) (v := ?_) (a' := ?_) #[true, true, true, true, true, true, true, true, true, true, true, true, true, true, true, true, true, true, true, true, true, true, true, true, true, true, true, true, true, false, true, false, false, false, false, false, false, false, false, false] rfl rfl (by kernel_rfl) (fun _ _ _ h => h) (Or.inl ⟨by rfl, ?_⟩) hHeld ?_ ?_
  rotate_left
  · rintro w' ⟨s0, s1, s2, s3, s4, s5, s6, s7⟩
    go_simp
    with_reducible rfl
  rotate_left
  · simp only [Act.put, List.setIfInBounds_toArray, List.set_cons_zero, List.set_cons_succ, i64_w, i32_w]
    rfl
  refine take_ (i := 33) (N := some 89) (v := ?_) (a' := ?_) #[true, true, true, true, true, true, true, true, true, true, true, true, true, true, true, true, true, true, true, true, true, true, true, true, true, true, true, true, true, false, true, false, false, true, false, false, false, false, false, false] rfl rfl (by kernel_rfl) (fun _ _ _ h => h) (Or.inl ⟨by rfl, ?_⟩) hHeld ?_ ?_
  rotate_left
  · rintro w' ⟨s0, s1, s2, s3, s4, s5, s6, s7⟩
    go_simp
    with_reducible rfl
  rotate_left
  · simp only [Act.put, List.setIfInBounds_toArray, List.set_cons_zero, List.set_cons_succ, i64_w, i32_w]
    rfl
  refine join_ (σ := Value × Value × Value × Value) 5 #[true, true, true, true, true, true, true, true, true, true, true, true, true, true, true, true, true, true, true, true, true, true, true, true, true, true, true, true, true, true, true, true, true, true, true, false, false, false, false, false] (fun s => [(85, s.1), (87, s.2.1), (88, s.2.2.1), (90, s.2.2.2)]) (fun s w' => ∃ (g87 : Nat) (A88 : Option Addr) (c88 g90 : Nat), s = (.bool rr, .slice (some ⟨g87, 0, none⟩) 1 1, .slice A88 1 c88, .slice (some ⟨g90, 0, none⟩) 1 1) ∧ 1 ≤ c88 ∧ Kd.C k41 w' A88 1 [to41 ⟨fc, body⟩] ∧ RW w' (.slice (some ⟨g90, 0, none⟩) 1 1) [⟨gc, gbody⟩] ∧ Below wC.heap.size wC w') ?_ ?_
  rotate_left
  · intro hCont
    refine three_ (i := 29) (j := 31) (k := 34) (Ni := some 85) (Nj := some 87) (Nk := some 90) #[true, true, true, true, true, true, true, true, true, true, true, true, true, true, true, true, true, true, true, true, true, true, true, true, true, true, true, true, true, true, true, false, false, true, false, false, false, false, false, false] #[true, true, true, true, true, true, true, true, true, true, true, true, true, true, true, true, true, true, true, true, true, true, true, true, true, true, true, true, true, false, true, true, false, true, false, false, false, false, false, false] #[true, true, true, true, true, true, true, true, true, true, true, true, true, true, true, true, true, true, true, true, true, true, true, true, true, true, true, true, true, false, true, false, false, true, true, false, false, false, false, false] rfl rfl rfl rfl rfl rfl (by kernel_rfl) (by decide) (by decide) (by decide) (fun K hK => ?_) (fun K hK => ?_) (fun K hK => ?_)
    · skip
      refine goes_ Try.func32 (by kernel_rfl) rfl #[.agg #[.int .u8 fc, .slice Af fn cf], .agg #[.int .u8 gc, .slice Ag gn cg]] (by rfl) rfl rfl (by simp only [List.map_toArray, List.map_cons, List.map_nil]; rfl) ?_
      with_reducible refine (Same38_calls fc Af fn cf body HFN.out gc Ag gn cg gbody HGN.out rr _ (VF.out.below HZ.out).at_.2.2 (VF.out.below HZ.out).at_.2.1 (VG.out.below HZ.out).at_.2.2 (VG.out.below HZ.out).at_.2.1 HFB.out HGB.out HRR.out).mono ?_
      rintro e wk2_29 ⟨rfl, hb⟩
      refine ⟨_, rfl, ?_⟩
      have HZ_ := Aside0.mk (below_step HZ.out hb)
      clear HZ
      have HZ := HZ_
      clear HZ_
      clear hb
      refine hK.out _ _ ⟨pw_cell_below HZ.out ((blk_cell HBXg11.out 0).trans rfl), pw_cell_below HZ.out ((blk_cell HBXg11.out 1).trans rfl), pw_cell_below HZ.out ((blk_cell HBXg14.out 0).trans rfl), pw_cell_below HZ.out ((blk_cell HBXg14.out 1).trans rfl), pw_cell_below HZ.out ((blk_cell HBXg3.out 0).trans rfl), pw_cell_below HZ.out ((blk_cell HBXg3.out 1).trans rfl), pw_cell_below HZ.out ((blk_cell HBXg4.out 0).trans rfl), pw_cell_below HZ.out ((blk_cell HBXg4.out 1).trans rfl)⟩ (fun hHeld => ?_)
      clear hK K
      refine norm_ (a' := ?_) ?_ ?_
      rotate_left
      · show Act.put _ (some 85) _ = _
        simp only [Act.put, List.setIfInBounds_toArray, List.set_cons_zero, List.set_cons_succ, i64_w, i32_w]
        rfl
      refine two_ (i := 31) (j := 34) (Ni := some 87) (Nj := some 90) #[true, true, true, true, true, true, true, true, true, true, true, true, true, true, true, true, true, true, true, true, true, true, true, true, true, true, true, true, true, true, true, true, false, true, false, false, false, false, false, false] #[true, true, true, true, true, true, true, true, true, true, true, true, true, true, true, true, true, true, true, true, true, true, true, true, true, true, true, true, true, true, true, false, false, true, true, false, false, false, false, false] rfl rfl rfl rfl (by kernel_rfl) (by decide) (by decide) (fun K hK => ?_) (fun K hK => ?_)
      · skip
        refine value_ (w1 := ?_) (v := ?_) (by rfl) rfl ?_ ?_
        rotate_left 2
        · go_simp
          constructor
          · rfl
          · rfl
        obtain ⟨g87, wk2_29_31, hg_, hwn, hb, hc_⟩ : ∃ g wn, (wk2_29).heap.size = g ∧ World.alloc wk2_29 (.cells #[.int .u8 fc, .slice Af fn cf] 38) = wn ∧ Below wk2_29.heap.size wk2_29 wn ∧ wn.heap[g]? = some (.cells #[.int .u8 fc, .slice Af fn cf] 38) := ⟨_, _, rfl, rfl, below_alloc (Below.refl _ _) _, heap_alloc_new wk2_29 _⟩
        rw [hg_, hwn]
        have H31 := Aside0.mk (RW_one HFN.out ((VF.out.below HZ.out).below hb) hc_)
        have HZ_ := Aside0.mk (below_step HZ.out hb)
        clear HZ
        have HZ := HZ_
        clear HZ_
        clear hg_ hwn hb hc_
        refine hK.out _ _ ⟨pw_cell_below HZ.out ((blk_cell HBXg11.out 0).trans rfl), pw_cell_below HZ.out ((blk_cell HBXg11.out 1).trans rfl), pw_cell_below HZ.out ((blk_cell HBXg14.out 0).trans rfl), pw_cell_below HZ.out ((blk_cell HBXg14.out 1).trans rfl), pw_cell_below HZ.out ((blk_cell HBXg3.out 0).trans rfl), pw_cell_below HZ.out ((blk_cell HBXg3.out 1).trans rfl), pw_cell_below HZ.out ((blk_cell HBXg4.out 0).trans rfl), pw_cell_below HZ.out ((blk_cell HBXg4.out 1).trans rfl)⟩ (fun hHeld => ?_)
        clear hK K
        refine norm_ (a' := ?_) ?_ ?_
        rotate_left
        · show Act.put _ (some 87) _ = _
          simp only [Act.put, List.setIfInBounds_toArray, List.set_cons_zero, List.set_cons_succ, i64_w, i32_w]
          rfl
        refine two_ (i := 32) (j := 34) (Ni := some 88) (Nj := some 90) #[true, true, true, true, true, true, true, true, true, true, true, true, true, true, true, true, true, true, true, true, true, true, true, true, true, true, true, true, true, true, true, true, true, true, false, false, false, false, false, false] #[true, true, true, true, true, true, true, true, true, true, true, true, true, true, true, true, true, true, true, true, true, true, true, true, true, true, true, true, true, true, true, true, false, true, true, false, false, false, false, false] rfl rfl rfl rfl (by kernel_rfl) (by decide) (by decide) (fun K hK => ?_) (fun K hK => ?_)
        · skip
          obtain ⟨ok_, hv_⟩ := H31.out.v_
          refine goes_ Try.func31 (by kernel_rfl) rfl #[.slice (some ⟨g87, 0, none⟩) 1 1] (by rfl) rfl rfl (by simp only [List.map_toArray, List.map_cons, List.map_nil]; rfl) ?_
          with_reducible refine (Frames_calls ok_ (some ⟨g87, 0, none⟩) 1 1 [⟨fc, body⟩] rfl _ hv_ (by omega)).mono ?_
          rintro e wk2_29_31_32 ⟨A88, c88, rfl, hc_, hC_, hb⟩
          refine ⟨_, rfl, ?_⟩
          have H32 := Aside0.mk (And.intro hc_ hC_ : 1 ≤ c88 ∧ Kd.C k41 wk2_29_31_32 A88 1 [to41 ⟨fc, body⟩])
          have HZ_ := Aside0.mk (below_step HZ.out hb)
          clear HZ
          have HZ := HZ_
          clear HZ_
          clear hc_ hC_ hb hv_ ok_
          refine hK.out _ _ ⟨pw_cell_below HZ.out ((blk_cell HBXg11.out 0).trans rfl), pw_cell_below HZ.out ((blk_cell HBXg11.out 1).trans rfl), pw_cell_below HZ.out ((blk_cell HBXg14.out 0).trans rfl), pw_cell_below HZ.out ((blk_cell HBXg14.out 1).trans rfl), pw_cell_below HZ.out ((blk_cell HBXg3.out 0).trans rfl), pw_cell_below HZ.out ((blk_cell HBXg3.out 1).trans rfl), pw_cell_below HZ.out ((blk_cell HBXg4.out 0).trans rfl), pw_cell_below HZ.out ((blk_cell HBXg4.out 1).trans rfl)⟩ (fun hHeld => ?_)
          clear hK K
          refine norm_ (a' := ?_) ?_ ?_
          rotate_left
          · show Act.put _ (some 88) _ = _
            simp only [Act.put, List.setIfInBounds_toArray, List.set_cons_zero, List.set_cons_succ, i64_w, i32_w]
            rfl
          refine one_ (i := 34) (N := some 90) #[true, true, true, true, true, true, true, true, true, true, true, true, true, true, true, true, true, true, true, true, true, true, true, true, true, true, true, true, true, true, true, true, true, true, true, false, false, false, false, false] rfl rfl (by kernel_rfl) (by decide) (fun K hK => ?_)
          refine value_ (w1 := ?_) (v := ?_) (by rfl) rfl ?_ ?_
          rotate_left 2
          · go_simp
            constructor
            · rfl
            · rfl
          obtain ⟨g90, wk2_29_31_32_34, hg_, hwn, hb, hc_⟩ : ∃ g wn, (wk2_29_31_32).heap.size = g ∧ World.alloc wk2_29_31_32 (.cells #[.int .u8 gc, .slice Ag gn cg] 38) = wn ∧ Below wk2_29_31_32.heap.size wk2_29_31_32 wn ∧ wn.heap[g]? = some (.cells #[.int .u8 gc, .slice Ag gn cg] 38) := ⟨_, _, rfl, rfl, below_alloc (Below.refl _ _) _, heap_alloc_new wk2_29_31_32 _⟩
          rw [hg_, hwn]
          have H34 := Aside0.mk (RW_one HGN.out ((VG.out.below HZ.out).below hb) hc_)
          have HZ_ := Aside0.mk (below_step HZ.out hb)
          have H32_ := Aside0.mk ((And.intro H32.out.1 (Kd.C_below H32.out.2 hb)))
          clear HZ H32
          have HZ := HZ_
          have H32 := H32_
          clear HZ_ H32_
          clear hg_ hwn hb hc_
          refine hK.out _ _ ⟨pw_cell_below HZ.out ((blk_cell HBXg11.out 0).trans rfl), pw_cell_below HZ.out ((blk_cell HBXg11.out 1).trans rfl), pw_cell_below HZ.out ((blk_cell HBXg14.out 0).trans rfl), pw_cell_below HZ.out ((blk_cell HBXg14.out 1).trans rfl), pw_cell_below HZ.out ((blk_cell HBXg3.out 0).trans rfl), pw_cell_below HZ.out ((blk_cell HBXg3.out 1).trans rfl), pw_cell_below HZ.out ((blk_cell HBXg4.out 0).trans rfl), pw_cell_below HZ.out ((blk_cell HBXg4.out 1).trans rfl)⟩ (fun hHeld => ?_)
          clear hK K
          refine norm_ (a' := ?_) ?_ ?_
          rotate_left
          · show Act.put _ (some 90) _ = _
            simp only [Act.put, List.setIfInBounds_toArray, List.set_cons_zero, List.set_cons_succ, i64_w, i32_w]
            rfl
          exact norm_ (by simp only [putAll, Act.put, List.setIfInBounds_toArray, List.set_cons_zero, List.set_cons_succ]) (hCont (.bool rr, .slice (some ⟨g87, 0, none⟩) 1 1, .slice A88 1 c88, .slice (some ⟨g90, 0, none⟩) 1 1) _ ⟨g87, A88, c88, g90, rfl, H32.out.1, H32.out.2, H34.out, HZ.out⟩)
        · skip
          refine value_ (w1 := ?_) (v := ?_) (by rfl) rfl ?_ ?_
          rotate_left 2
          · go_simp
            constructor
            · rfl
            · rfl
          obtain ⟨g90, wk2_29_31_34, hg_, hwn, hb, hc_⟩ : ∃ g wn, (wk2_29_31).heap.size = g ∧ World.alloc wk2_29_31 (.cells #[.int .u8 gc, .slice Ag gn cg] 38) = wn ∧ Below wk2_29_31.heap.size wk2_29_31 wn ∧ wn.heap[g]? = some (.cells #[.int .u8 gc, .slice Ag gn cg] 38) := ⟨_, _, rfl, rfl, below_alloc (Below.refl _ _) _, heap_alloc_new wk2_29_31 _⟩
          rw [hg_, hwn]
          have H34 := Aside0.mk (RW_one HGN.out ((VG.out.below HZ.out).below hb) hc_)
          have HZ_ := Aside0.mk (below_step HZ.out hb)
          have H31_ := Aside0.mk (H31.out.below hb)
          clear HZ H31
          have HZ := HZ_
          have H31 := H31_
          clear HZ_ H31_
          clear hg_ hwn hb hc_
          refine hK.out _ _ ⟨pw_cell_below HZ.out ((blk_cell HBXg11.out 0).trans rfl), pw_cell_below HZ.out ((blk_cell HBXg11.out 1).trans rfl), pw_cell_below HZ.out ((blk_cell HBXg14.out 0).trans rfl), pw_cell_below HZ.out ((blk_cell HBXg14.out 1).trans rfl), pw_cell_below HZ.out ((blk_cell HBXg3.out 0).trans rfl), pw_cell_below HZ.out ((blk_cell HBXg3.out 1).trans rfl), pw_cell_below HZ.out ((blk_cell HBXg4.out 0).trans rfl), pw_cell_below HZ.out ((blk_cell HBXg4.out 1).trans rfl)⟩ (fun hHeld => ?_)
          clear hK K
          refine norm_ (a' := ?_) ?_ ?_
          rotate_left
          · show Act.put _ (some 90) _ = _
            simp only [Act.put, List.setIfInBounds_toArray, List.set_cons_zero, List.set_cons_succ, i64_w, i32_w]
            rfl
          refine one_ (i := 32) (N := some 88) #[true, true, true, true, true, true, true, true, true, true, true, true, true, true, true, true, true, true, true, true, true, true, true, true, true, true, true, true, true, true, true, true, true, true, true, false, false, false, false, false] rfl rfl (by kernel_rfl) (by decide) (fun K hK => ?_)
          obtain ⟨ok_, hv_⟩ := H31.out.v_
          refine goes_ Try.func31 (by kernel_rfl) rfl #[.slice (some ⟨g87, 0, none⟩) 1 1] (by rfl) rfl rfl (by simp only [List.map_toArray, List.map_cons, List.map_nil]; rfl) ?_
          with_reducible refine (Frames_calls ok_ (some ⟨g87, 0, none⟩) 1 1 [⟨fc, body⟩] rfl _ hv_ (by omega)).mono ?_
          rintro e wk2_29_31_34_32 ⟨A88, c88, rfl, hc_, hC_, hb⟩
          refine ⟨_, rfl, ?_⟩
          have H32 := Aside0.mk (And.intro hc_ hC_ : 1 ≤ c88 ∧ Kd.C k41 wk2_29_31_34_32 A88 1 [to41 ⟨fc, body⟩])
          have HZ_ := Aside0.mk (below_step HZ.out hb)
          have H34_ := Aside0.mk (H34.out.below hb)
          clear HZ H34
          have HZ := HZ_
          have H34 := H34_
          clear HZ_ H34_
          clear hc_ hC_ hb hv_ ok_
          refine hK.out _ _ ⟨pw_cell_below HZ.out ((blk_cell HBXg11.out 0).trans rfl), pw_cell_below HZ.out ((blk_cell HBXg11.out 1).trans rfl), pw_cell_below HZ.out ((blk_cell HBXg14.out 0).trans rfl), pw_cell_below HZ.out ((blk_cell HBXg14.out 1).trans rfl), pw_cell_below HZ.out ((blk_cell HBXg3.out 0).trans rfl), pw_cell_below HZ.out ((blk_cell HBXg3.out 1).trans rfl), pw_cell_below HZ.out ((blk_cell HBXg4.out 0).trans rfl), pw_cell_below HZ.out ((blk_cell HBXg4.out 1).trans rfl)⟩ (fun hHeld => ?_)
          clear hK K
          refine norm_ (a' := ?_) ?_ ?_
          rotate_left
          · show Act.put _ (some 88) _ = _
            simp only [Act.put, List.setIfInBounds_toArray, List.set_cons_zero, List.set_cons_succ, i64_w, i32_w]
            rfl
          exact norm_ (by simp only [putAll, Act.put, List.setIfInBounds_toArray, List.set_cons_zero, List.set_cons_succ]) (hCont (.bool rr, .slice (some ⟨g87, 0, none⟩) 1 1, .slice A88 1 c88, .slice (some ⟨g90, 0, none⟩) 1 1) _ ⟨g87, A88, c88, g90, rfl, H32.out.1, H32.out.2, H34.out, HZ.out⟩)
      · skip
        refine value_ (w1 := ?_) (v := ?_) (by rfl) rfl ?_ ?_
        rotate_left 2
        · go_simp
          constructor
          · rfl
          · rfl
        obtain ⟨g90, wk2_29_34, hg_, hwn, hb, hc_⟩ : ∃ g wn, (wk2_29).heap.size = g ∧ World.alloc wk2_29 (.cells #[.int .u8 gc, .slice Ag gn cg] 38) = wn ∧ Below wk2_29.heap.size wk2_29 wn ∧ wn.heap[g]? = some (.cells #[.int .u8 gc, .slice Ag gn cg] 38) := ⟨_, _, rfl, rfl, below_alloc (Below.refl _ _) _, heap_alloc_new wk2_29 _⟩
        rw [hg_, hwn]
        have H34 := Aside0.mk (RW_one HGN.out ((VG.out.below HZ.out).below hb) hc_)
        have HZ_ := Aside0.mk (below_step HZ.out hb)
        clear HZ
        have HZ := HZ_
        clear HZ_
        clear hg_ hwn hb hc_
        refine hK.out _ _ ⟨pw_cell_below HZ.out ((blk_cell HBXg11.out 0).trans rfl), pw_cell_below HZ.out ((blk_cell HBXg11.out 1).trans rfl), pw_cell_below HZ.out ((blk_cell HBXg14.out 0).trans rfl), pw_cell_below HZ.out ((blk_cell HBXg14.out 1).trans rfl), pw_cell_below HZ.out ((blk_cell HBXg3.out 0).trans rfl), pw_cell_below HZ.out ((blk_cell HBXg3.out 1).trans rfl), pw_cell_below HZ.out ((blk_cell HBXg4.out 0).trans rfl), pw_cell_below HZ.out ((blk_cell HBXg4.out 1).trans rfl)⟩ (fun hHeld => ?_)
        clear hK K
        refine norm_ (a' := ?_) ?_ ?_
        rotate_left
        · show Act.put _ (some 90) _ = _
          simp only [Act.put, List.setIfInBounds_toArray, List.set_cons_zero, List.set_cons_succ, i64_w, i32_w]
          rfl
        refine one_ (i := 31) (N := some 87) #[true, true, true, true, true, true, true, true, true, true, true, true, true, true, true, true, true, true, true, true, true, true, true, true, true, true, true, true, true, true, true, true, false, true, true, false, false, false, false, false] rfl rfl (by kernel_rfl) (by decide) (fun K hK => ?_)
        refine value_ (w1 := ?_) (v := ?_) (by rfl) rfl ?_ ?_
        rotate_left 2
        · go_simp
          constructor
          · rfl
          · rfl
        obtain ⟨g87, wk2_29_34_31, hg_, hwn, hb, hc_⟩ : ∃ g wn, (wk2_29_34).heap.size = g ∧ World.alloc wk2_29_34 (.cells #[.int .u8 fc, .slice Af fn cf] 38) = wn ∧ Below wk2_29_34.heap.size wk2_29_34 wn ∧ wn.heap[g]? = some (.cells #[.int .u8 fc, .slice Af fn cf] 38) := ⟨_, _, rfl, rfl, below_alloc (Below.refl _ _) _, heap_alloc_new wk2_29_34 _⟩
        rw [hg_, hwn]
        have H31 := Aside0.mk (RW_one HFN.out ((VF.out.below HZ.out).below hb) hc_)
        have HZ_ := Aside0.mk (below_step HZ.out hb)
        have H34_ := Aside0.mk (H34.out.below hb)
        clear HZ H34
        have HZ := HZ_
        have H34 := H34_
        clear HZ_ H34_
        clear hg_ hwn hb hc_
        refine hK.out _ _ ⟨pw_cell_below HZ.out ((blk_cell HBXg11.out 0).trans rfl), pw_cell_below HZ.out ((blk_cell HBXg11.out 1).trans rfl), pw_cell_below HZ.out ((blk_cell HBXg14.out 0).trans rfl), pw_cell_below HZ.out ((blk_cell HBXg14.out 1).trans rfl), pw_cell_below HZ.out ((blk_cell HBXg3.out 0).trans rfl), pw_cell_below HZ.out ((blk_cell HBXg3.out 1).trans rfl), pw_cell_below HZ.out ((blk_cell HBXg4.out 0).trans rfl), pw_cell_below HZ.out ((blk_cell HBXg4.out 1).trans rfl)⟩ (fun hHeld => ?_)
        clear hK K
        refine norm_ (a' := ?_) ?_ ?_
        rotate_left
        · show Act.put _ (some 87) _ = _
          simp only [Act.put, List.setIfInBounds_toArray, List.set_cons_zero, List.set_cons_succ, i64_w, i32_w]
          rfl
        refine one_ (i := 32) (N := some 88) #[true, true, true, true, true, true, true, true, true, true, true, true, true, true, true, true, true, true, true, true, true, true, true, true, true, true, true, true, true, true, true, true, true, true, true, false, false, false, false, false] rfl rfl (by kernel_rfl) (by decide) (fun K hK => ?_)
        obtain ⟨ok_, hv_⟩ := H31.out.v_
        refine goes_ Try.func31 (by kernel_rfl) rfl #[.slice (some ⟨g87, 0, none⟩) 1 1] (by rfl) rfl rfl (by simp only [List.map_toArray, List.map_cons, List.map_nil]; rfl) ?_
        with_reducible refine (Frames_calls ok_ (some ⟨g87, 0, none⟩) 1 1 [⟨fc, body⟩] rfl _ hv_ (by omega)).mono ?_
        rintro e wk2_29_34_31_32 ⟨A88, c88, rfl, hc_, hC_, hb⟩
        refine ⟨_, rfl, ?_⟩
        have H32 := Aside0.mk (And.intro hc_ hC_ : 1 ≤ c88 ∧ Kd.C k41 wk2_29_34_31_32 A88 1 [to41 ⟨fc, body⟩])
        have HZ_ := Aside0.mk (below_step HZ.out hb)
        have H34_ := Aside0.mk (H34.out.below hb)
        clear HZ H34
        have HZ := HZ_
        have H34 := H34_
        clear HZ_ H34_
        clear hc_ hC_ hb hv_ ok_
        refine hK.out _ _ ⟨pw_cell_below HZ.out ((blk_cell HBXg11.out 0).trans rfl), pw_cell_below HZ.out ((blk_cell HBXg11.out 1).trans rfl), pw_cell_below HZ.out ((blk_cell HBXg14.out 0).trans rfl), pw_cell_below HZ.out ((blk_cell HBXg14.out 1).trans rfl), pw_cell_below HZ.out ((blk_cell HBXg3.out 0).trans rfl), pw_cell_below HZ.out ((blk_cell HBXg3.out 1).trans rfl), pw_cell_below HZ.out ((blk_cell HBXg4.out 0).trans rfl), pw_cell_below HZ.out ((blk_cell HBXg4.out 1).trans rfl)⟩ (fun hHeld => ?_)
        clear hK K
        refine norm_ (a' := ?_) ?_ ?_
        rotate_left
        · show Act.put _ (some 88) _ = _
          simp only [Act.put, List.setIfInBounds_toArray, List.set_cons_zero, List.set_cons_succ, i64_w, i32_w]
          rfl
        exact norm_ (by simp only [putAll, Act.put, List.setIfInBounds_toArray, List.set_cons_zero, List.set_cons_succ]) (hCont (.bool rr, .slice (some ⟨g87, 0, none⟩) 1 1, .slice A88 1 c88, .slice (some ⟨g90, 0, none⟩) 1 1) _ ⟨g87, A88, c88, g90, rfl, H32.out.1, H32.out.2, H34.out, HZ.out⟩)
    · skip
      refine value_ (w1 := ?_) (v := ?_) (by rfl) rfl ?_ ?_
      rotate_left 2
      · go_simp
        constructor
        · rfl
        · rfl
      obtain ⟨g87, wk2_31, hg_, hwn, hb, hc_⟩ : ∃ g wn, (wC).heap.size = g ∧ World.alloc wC (.cells #[.int .u8 fc, .slice Af fn cf] 38) = wn ∧ Below wC.heap.size wC wn ∧ wn.heap[g]? = some (.cells #[.int .u8 fc, .slice Af fn cf] 38) := ⟨_, _, rfl, rfl, below_alloc (Below.refl _ _) _, heap_alloc_new wC _⟩
      rw [hg_, hwn]
      have H31 := Aside0.mk (RW_one HFN.out ((VF.out.below HZ.out).below hb) hc_)
      have HZ_ := Aside0.mk (below_step HZ.out hb)
      clear HZ
      have HZ := HZ_
      clear HZ_
      clear hg_ hwn hb hc_
      refine hK.out _ _ ⟨pw_cell_below HZ.out ((blk_cell HBXg11.out 0).trans rfl), pw_cell_below HZ.out ((blk_cell HBXg11.out 1).trans rfl), pw_cell_below HZ.out ((blk_cell HBXg14.out 0).trans rfl), pw_cell_below HZ.out ((blk_cell HBXg14.out 1).trans rfl), pw_cell_below HZ.out ((blk_cell HBXg3.out 0).trans rfl), pw_cell_below HZ.out ((blk_cell HBXg3.out 1).trans rfl), pw_cell_below HZ.out ((blk_cell HBXg4.out 0).trans rfl), pw_cell_below HZ.out ((blk_cell HBXg4.out 1).trans rfl)⟩ (fun hHeld => ?_)
      clear hK K
      refine norm_ (a' := ?_) ?_ ?_
      rotate_left
      · show Act.put _ (some 87) _ = _
        simp only [Act.put, List.setIfInBounds_toArray, List.set_cons_zero, List.set_cons_succ, i64_w, i32_w]
        rfl
      refine two_ (i := 29) (j := 34) (Ni := some 85) (Nj := some 90) #[true, true, true, true, true, true, true, true, true, true, true, true, true, true, true, true, true, true, true, true, true, true, true, true, true, true, true, true, true, true, true, true, false, true, false, false, false, false, false, false] #[true, true, true, true, true, true, true, true, true, true, true, true, true, true, true, true, true, true, true, true, true, true, true, true, true, true, true, true, true, false, true, true, false, true, true, false, false, false, false, false] rfl rfl rfl rfl (by kernel_rfl) (by decide) (by decide) (fun K hK => ?_) (fun K hK => ?_)
      · skip
        refine goes_ Try.func32 (by kernel_rfl) rfl #[.agg #[.int .u8 fc, .slice Af fn cf], .agg #[.int .u8 gc, .slice Ag gn cg]] (by rfl) rfl rfl (by simp only [List.map_toArray, List.map_cons, List.map_nil]; rfl) ?_
        with_reducible refine (Same38_calls fc Af fn cf body HFN.out gc Ag gn cg gbody HGN.out rr _ (VF.out.below HZ.out).at_.2.2 (VF.out.below HZ.out).at_.2.1 (VG.out.below HZ.out).at_.2.2 (VG.out.below HZ.out).at_.2.1 HFB.out HGB.out HRR.out).mono ?_
        rintro e wk2_31_29 ⟨rfl, hb⟩
        refine ⟨_, rfl, ?_⟩
        have HZ_ := Aside0.mk (below_step HZ.out hb)
        have H31_ := Aside0.mk (H31.out.below hb)
        clear HZ H31
        have HZ := HZ_
        have H31 := H31_
        clear HZ_ H31_
        clear hb
        refine hK.out _ _ ⟨pw_cell_below HZ.out ((blk_cell HBXg11.out 0).trans rfl), pw_cell_below HZ.out ((blk_cell HBXg11.out 1).trans rfl), pw_cell_below HZ.out ((blk_cell HBXg14.out 0).trans rfl), pw_cell_below HZ.out ((blk_cell HBXg14.out 1).trans rfl), pw_cell_below HZ.out ((blk_cell HBXg3.out 0).trans rfl), pw_cell_below HZ.out ((blk_cell HBXg3.out 1).trans rfl), pw_cell_below HZ.out ((blk_cell HBXg4.out 0).trans rfl), pw_cell_below HZ.out ((blk_cell HBXg4.out 1).trans rfl)⟩ (fun hHeld => ?_)
        clear hK K
        refine norm_ (a' := ?_) ?_ ?_
        rotate_left
        · show Act.put _ (some 85) _ = _
          simp only [Act.put, List.setIfInBounds_toArray, List.set_cons_zero, List.set_cons_succ, i64_w, i32_w]
          rfl
        refine two_ (i := 32) (j := 34) (Ni := some 88) (Nj := some 90) #[true, true, true, true, true, true, true, true, true, true, true, true, true, true, true, true, true, true, true, true, true, true, true, true, true, true, true, true, true, true, true, true, true, true, false, false, false, false, false, false] #[true, true, true, true, true, true, true, true, true, true, true, true, true, true, true, true, true, true, true, true, true, true, true, true, true, true, true, true, true, true, true, true, false, true, true, false, false, false, false, false] rfl rfl rfl rfl (by kernel_rfl) (by decide) (by decide) (fun K hK => ?_) (fun K hK => ?_)
        · skip
          obtain ⟨ok_, hv_⟩ := H31.out.v_
          refine goes_ Try.func31 (by kernel_rfl) rfl #[.slice (some ⟨g87, 0, none⟩) 1 1] (by rfl) rfl rfl (by simp only [List.map_toArray, List.map_cons, List.map_nil]; rfl) ?_
          with_reducible refine (Frames_calls ok_ (some ⟨g87, 0, none⟩) 1 1 [⟨fc, body⟩] rfl _ hv_ (by omega)).mono ?_
          rintro e wk2_31_29_32 ⟨A88, c88, rfl, hc_, hC_, hb⟩
          refine ⟨_, rfl, ?_⟩
          have H32 := Aside0.mk (And.intro hc_ hC_ : 1 ≤ c88 ∧ Kd.C k41 wk2_31_29_32 A88 1 [to41 ⟨fc, body⟩])
          have HZ_ := Aside0.mk (below_step HZ.out hb)
          clear HZ
          have HZ := HZ_
          clear HZ_
          clear hc_ hC_ hb hv_ ok_
          refine hK.out _ _ ⟨pw_cell_below HZ.out ((blk_cell HBXg11.out 0).trans rfl), pw_cell_below HZ.out ((blk_cell HBXg11.out 1).trans rfl), pw_cell_below HZ.out ((blk_cell HBXg14.out 0).trans rfl), pw_cell_below HZ.out ((blk_cell HBXg14.out 1).trans rfl), pw_cell_below HZ.out ((blk_cell HBXg3.out 0).trans rfl), pw_cell_below HZ.out ((blk_cell HBXg3.out 1).trans rfl), pw_cell_below HZ.out ((blk_cell HBXg4.out 0).trans rfl), pw_cell_below HZ.out ((blk_cell HBXg4.out 1).trans rfl)⟩ (fun hHeld => ?_)
          clear hK K
          refine norm_ (a' := ?_) ?_ ?_
          rotate_left
          · show Act.put _ (some 88) _ = _
            simp only [Act.put, List.setIfInBounds_toArray, List.set_cons_zero, List.set_cons_succ, i64_w, i32_w]
            rfl
          refine one_ (i := 34) (N := some 90) #[true, true, true, true, true, true, true, true, true, true, true, true, true, true, true, true, true, true, true, true, true, true, true, true, true, true, true, true, true, true, true, true, true, true, true, false, false, false, false, false] rfl rfl (by kernel_rfl) (by decide) (fun K hK => ?_)
          refine value_ (w1 := ?_) (v := ?_) (by rfl) rfl ?_ ?_
          rotate_left 2
          · go_simp
            constructor
            · rfl
            · rfl
          obtain ⟨g90, wk2_31_29_32_34, hg_, hwn, hb, hc_⟩ : ∃ g wn, (wk2_31_29_32).heap.size = g ∧ World.alloc wk2_31_29_32 (.cells #[.int .u8 gc, .slice Ag gn cg] 38) = wn ∧ Below wk2_31_29_32.heap.size wk2_31_29_32 wn ∧ wn.heap[g]? = some (.cells #[.int .u8 gc, .slice Ag gn cg] 38) := ⟨_, _, rfl, rfl, below_alloc (Below.refl _ _) _, heap_alloc_new wk2_31_29_32 _⟩
          rw [hg_, hwn]
          have H34 := Aside0.mk (RW_one HGN.out ((VG.out.below HZ.out).below hb) hc_)
          have HZ_ := Aside0.mk (below_step HZ.out hb)
          have H32_ := Aside0.mk ((And.intro H32.out.1 (Kd.C_below H32.out.2 hb)))
          clear HZ H32
          have HZ := HZ_
          have H32 := H32_
          clear HZ_ H32_
          clear hg_ hwn hb hc_
          refine hK.out _ _ ⟨pw_cell_below HZ.out ((blk_cell HBXg11.out 0).trans rfl), pw_cell_below HZ.out ((blk_cell HBXg11.out 1).trans rfl), pw_cell_below HZ.out ((blk_cell HBXg14.out 0).trans rfl), pw_cell_below HZ.out ((blk_cell HBXg14.out 1).trans rfl), pw_cell_below HZ.out ((blk_cell HBXg3.out 0).trans rfl), pw_cell_below HZ.out ((blk_cell HBXg3.out 1).trans rfl), pw_cell_below HZ.out ((blk_cell HBXg4.out 0).trans rfl), pw_cell_below HZ.out ((blk_cell HBXg4.out 1).trans rfl)⟩ (fun hHeld => ?_)
          clear hK K
          refine norm_ (a' := ?_) ?_ ?_
          rotate_left
          · show Act.put _ (some 90) _ = _
            simp only [Act.put, List.setIfInBounds_toArray, List.set_cons_zero, List.set_cons_succ, i64_w, i32_w]
            rfl
          exact norm_ (by simp only [putAll, Act.put, List.setIfInBounds_toArray, List.set_cons_zero, List.set_cons_succ]) (hCont (.bool rr, .slice (some ⟨g87, 0, none⟩) 1 1, .slice A88 1 c88, .slice (some ⟨g90, 0, none⟩) 1 1) _ ⟨g87, A88, c88, g90, rfl, H32.out.1, H32.out.2, H34.out, HZ.out⟩)
        · skip
          refine value_ (w1 := ?_) (v := ?_) (by rfl) rfl ?_ ?_
          rotate_left 2
          · go_simp
            constructor
            · rfl
            · rfl
          obtain ⟨g90, wk2_31_29_34, hg_, hwn, hb, hc_⟩ : ∃ g wn, (wk2_31_29).heap.size = g ∧ World.alloc wk2_31_29 (.cells #[.int .u8 gc, .slice Ag gn cg] 38) = wn ∧ Below wk2_31_29.heap.size wk2_31_29 wn ∧ wn.heap[g]? = some (.cells #[.int .u8 gc, .slice Ag gn cg] 38) := ⟨_, _, rfl, rfl, below_alloc (Below.refl _ _) _, heap_alloc_new wk2_31_29 _⟩
          rw [hg_, hwn]
          have H34 := Aside0.mk (RW_one HGN.out ((VG.out.below HZ.out).below hb) hc_)
          have HZ_ := Aside0.mk (below_step HZ.out hb)
          have H31_ := Aside0.mk (H31.out.below hb)
          clear HZ H31
          have HZ := HZ_
          have H31 := H31_
          clear HZ_ H31_
          clear hg_ hwn hb hc_
          refine hK.out _ _ ⟨pw_cell_below HZ.out ((blk_cell HBXg11.out 0).trans rfl), pw_cell_below HZ.out ((blk_cell HBXg11.out 1).trans rfl), pw_cell_below HZ.out ((blk_cell HBXg14.out 0).trans rfl), pw_cell_below HZ.out ((blk_cell HBXg14.out 1).trans rfl), pw_cell_below HZ.out ((blk_cell HBXg3.out 0).trans rfl), pw_cell_below HZ.out ((blk_cell HBXg3.out 1).trans rfl), pw_cell_below HZ.out ((blk_cell HBXg4.out 0).trans rfl), pw_cell_below HZ.out ((blk_cell HBXg4.out 1).trans rfl)⟩ (fun hHeld => ?_)
          clear hK K
          refine norm_ (a' := ?_) ?_ ?_
          rotate_left
          · show Act.put _ (some 90) _ = _
            simp only [Act.put, List.setIfInBounds_toArray, List.set_cons_zero, List.set_cons_succ, i64_w, i32_w]
            rfl
          refine one_ (i := 32) (N := some 88) #[true, true, true, true, true, true, true, true, true, true, true, true, true, true, true, true, true, true, true, true, true, true, true, true, true, true, true, true, true, true, true, true, true, true, true, false, false, false, false, false] rfl rfl (by kernel_rfl) (by decide) (fun K hK => ?_)
          obtain ⟨ok_, hv_⟩ := H31.out.v_
          refine goes_ Try.func31 (by kernel_rfl) rfl #[.slice (some ⟨g87, 0, none⟩) 1 1] (by rfl) rfl rfl (by simp only [List.map_toArray, List.map_cons, List.map_nil]; rfl) ?_
          with_reducible refine (Frames_calls ok_ (some ⟨g87, 0, none⟩) 1 1 [⟨fc, body⟩] rfl _ hv_ (by omega)).mono ?_
          rintro e wk2_31_29_34_32 ⟨A88, c88, rfl, hc_, hC_, hb⟩
          refine ⟨_, rfl, ?_⟩
          have H32 := Aside0.mk (And.intro hc_ hC_ : 1 ≤ c88 ∧ Kd.C k41 wk2_31_29_34_32 A88 1 [to41 ⟨fc, body⟩])
          have HZ_ := Aside0.mk (below_step HZ.out hb)
          have H34_ := Aside0.mk (H34.out.below hb)
          clear HZ H34
          have HZ := HZ_
          have H34 := H34_
          clear HZ_ H34_
          clear hc_ hC_ hb hv_ ok_
          refine hK.out _ _ ⟨pw_cell_below HZ.out ((blk_cell HBXg11.out 0).trans rfl), pw_cell_below HZ.out ((blk_cell HBXg11.out 1).trans rfl), pw_cell_below HZ.out ((blk_cell HBXg14.out 0).trans rfl), pw_cell_below HZ.out ((blk_cell HBXg14.out 1).trans rfl), pw_cell_below HZ.out ((blk_cell HBXg3.out 0).trans rfl), pw_cell_below HZ.out ((blk_cell HBXg3.out 1).trans rfl), pw_cell_below HZ.out ((blk_cell HBXg4.out 0).trans rfl), pw_cell_below HZ.out ((blk_cell HBXg4.out 1).trans rfl)⟩ (fun hHeld => ?_)
          clear hK K
          refine norm_ (a' := ?_) ?_ ?_
          rotate_left
          · show Act.put _ (some 88) _ = _
            simp only [Act.put, List.setIfInBounds_toArray, List.set_cons_zero, List.set_cons_succ, i64_w, i32_w]
            rfl
          exact norm_ (by simp only [putAll, Act.put, List.setIfInBounds_toArray, List.set_cons_zero, List.set_cons_succ]) (hCont (.bool rr, .slice (some ⟨g87, 0, none⟩) 1 1, .slice A88 1 c88, .slice (some ⟨g90, 0, none⟩) 1 1) _ ⟨g87, A88, c88, g90, rfl, H32.out.1, H32.out.2, H34.out, HZ.out⟩)
      · skip
        refine value_ (w1 := ?_) (v := ?_) (by rfl) rfl ?_ ?_
        rotate_left 2
        · go_simp
          constructor
          · rfl
          · rfl
        obtain ⟨g90, wk2_31_34, hg_, hwn, hb, hc_⟩ : ∃ g wn, (wk2_31).heap.size = g ∧ World.alloc wk2_31 (.cells #[.int .u8 gc, .slice Ag gn cg] 38) = wn ∧ Below wk2_31.heap.size wk2_31 wn ∧ wn.heap[g]? = some (.cells #[.int .u8 gc, .slice Ag gn cg] 38) := ⟨_, _, rfl, rfl, below_alloc (Below.refl _ _) _, heap_alloc_new wk2_31 _⟩
        rw [hg_, hwn]
        have H34 := Aside0.mk (RW_one HGN.out ((VG.out.below HZ.out).below hb) hc_)
        have HZ_ := Aside0.mk (below_step HZ.out hb)
        have H31_ := Aside0.mk (H31.out.below hb)
        clear HZ H31
        have HZ := HZ_
        have H31 := H31_
        clear HZ_ H31_
        clear hg_ hwn hb hc_
        refine hK.out _ _ ⟨pw_cell_below HZ.out ((blk_cell HBXg11.out 0).trans rfl), pw_cell_below HZ.out ((blk_cell HBXg11.out 1).trans rfl), pw_cell_below HZ.out ((blk_cell HBXg14.out 0).trans rfl), pw_cell_below HZ.out ((blk_cell HBXg14.out 1).trans rfl), pw_cell_below HZ.out ((blk_cell HBXg3.out 0).trans rfl), pw_cell_below HZ.out ((blk_cell HBXg3.out 1).trans rfl), pw_cell_below HZ.out ((blk_cell HBXg4.out 0).trans rfl), pw_cell_below HZ.out ((blk_cell HBXg4.out 1).trans rfl)⟩ (fun hHeld => ?_)
        clear hK K
        refine norm_ (a' := ?_) ?_ ?_
        rotate_left
        · show Act.put _ (some 90) _ = _
          simp only [Act.put, List.setIfInBounds_toArray, List.set_cons_zero, List.set_cons_succ, i64_w, i32_w]
          rfl
        refine one_ (i := 29) (N := some 85) #[true, true, true, true, true, true, true, true, true, true, true, true, true, true, true, true, true, true, true, true, true, true, true, true, true, true, true, true, true, true, true, true, false, true, true, false, false, false, false, false] rfl rfl (by kernel_rfl) (by decide) (fun K hK => ?_)
        refine goes_ Try.func32 (by kernel_rfl) rfl #[.agg #[.int .u8 fc, .slice Af fn cf], .agg #[.int .u8 gc, .slice Ag gn cg]] (by rfl) rfl rfl (by simp only [List.map_toArray, List.map_cons, List.map_nil]; rfl) ?_
        with_reducible refine (Same38_calls fc Af fn cf body HFN.out gc Ag gn cg gbody HGN.out rr _ (VF.out.below HZ.out).at_.2.2 (VF.out.below HZ.out).at_.2.1 (VG.out.below HZ.out).at_.2.2 (VG.out.below HZ.out).at_.2.1 HFB.out HGB.out HRR.out).mono ?_
        rintro e wk2_31_34_29 ⟨rfl, hb⟩
        refine ⟨_, rfl, ?_⟩
        have HZ_ := Aside0.mk (below_step HZ.out hb)
        have H31_ := Aside0.mk (H31.out.below hb)
        have H34_ := Aside0.mk (H34.out.below hb)
        clear HZ H31 H34
        have HZ := HZ_
        have H31 := H31_
        have H34 := H34_
        clear HZ_ H31_ H34_
        clear hb
        refine hK.out _ _ ⟨pw_cell_below HZ.out ((blk_cell HBXg11.out 0).trans rfl), pw_cell_below HZ.out ((blk_cell HBXg11.out 1).trans rfl), pw_cell_below HZ.out ((blk_cell HBXg14.out 0).trans rfl), pw_cell_below HZ.out ((blk_cell HBXg14.out 1).trans rfl), pw_cell_below HZ.out ((blk_cell HBXg3.out 0).trans rfl), pw_cell_below HZ.out ((blk_cell HBXg3.out 1).trans rfl), pw_cell_below HZ.out ((blk_cell HBXg4.out 0).trans rfl), pw_cell_below HZ.out ((blk_cell HBXg4.out 1).trans rfl)⟩ (fun hHeld => ?_)
        clear hK K
        refine norm_ (a' := ?_) ?_ ?_
        rotate_left
        · show Act.put _ (some 85) _ = _
          simp only [Act.put, List.setIfInBounds_toArray, List.set_cons_zero, List.set_cons_succ, i64_w, i32_w]
          rfl
        refine one_ (i := 32) (N := some 88) #[true, true, true, true, true, true, true, true, true, true, true, true, true, true, true, true, true, true, true, true, true, true, true, true, true, true, true, true, true, true, true, true, true, true, true, false, false, false, false, false] rfl rfl (by kernel_rfl) (by decide) (fun K hK => ?_)
        obtain ⟨ok_, hv_⟩ := H31.out.v_
        refine goes_ Try.func31 (by kernel_rfl) rfl #[.slice (some ⟨g87, 0, none⟩) 1 1] (by rfl) rfl rfl (by simp only [List.map_toArray, List.map_cons, List.map_nil]; rfl) ?_
        with_reducible refine (Frames_calls ok_ (some ⟨g87, 0, none⟩) 1 1 [⟨fc, body⟩] rfl _ hv_ (by omega)).mono ?_
        rintro e wk2_31_34_29_32 ⟨A88, c88, rfl, hc_, hC_, hb⟩
        refine ⟨_, rfl, ?_⟩
        have H32 := Aside0.mk (And.intro hc_ hC_ : 1 ≤ c88 ∧ Kd.C k41 wk2_31_34_29_32 A88 1 [to41 ⟨fc, body⟩])
        have HZ_ := Aside0.mk (below_step HZ.out hb)
        have H34_ := Aside0.mk (H34.out.below hb)
        clear HZ H34
        have HZ := HZ_
        have H34 := H34_
        clear HZ_ H34_
        clear hc_ hC_ hb hv_ ok_
        refine hK.out _ _ ⟨pw_cell_below HZ.out ((blk_cell HBXg11.out 0).trans rfl), pw_cell_below HZ.out ((blk_cell HBXg11.out 1).trans rfl), pw_cell_below HZ.out ((blk_cell HBXg14.out 0).trans rfl), pw_cell_below HZ.out ((blk_cell HBXg14.out 1).trans rfl), pw_cell_below HZ.out ((blk_cell HBXg3.out 0).trans rfl), pw_cell_below HZ.out ((blk_cell HBXg3.out 1).trans rfl), pw_cell_below HZ.out ((blk_cell HBXg4.out 0).trans rfl), pw_cell_below HZ.out ((blk_cell HBXg4.out 1).trans rfl)⟩ (fun hHeld => ?_)
        clear hK K
        refine norm_ (a' := ?_) ?_ ?_
        rotate_left
        · show Act.put _ (some 88) _ = _
          simp only [Act.put, List.setIfInBounds_toArray, List.set_cons_zero, List.set_cons_succ, i64_w, i32_w]
          rfl
        exact norm_ (by simp only [putAll, Act.put, List.setIfInBounds_toArray, List.set_cons_zero, List.set_cons_succ]) (hCont (.bool rr, .slice (some ⟨g87, 0, none⟩) 1 1, .slice A88 1 c88, .slice (some ⟨g90, 0, none⟩) 1 1) _ ⟨g87, A88, c88, g90, rfl, H32.out.1, H32.out.2, H34.out, HZ.out⟩)
    · skip
      refine value_ (w1 := ?_) (v := ?_) (by rfl) rfl ?_ ?_
      rotate_left 2
      · go_simp
        constructor
        · rfl
        · rfl
      obtain ⟨g90, wk2_34, hg_, hwn, hb, hc_⟩ : ∃ g wn, (wC).heap.size = g ∧ World.alloc wC (.cells #[.int .u8 gc, .slice Ag gn cg] 38) = wn ∧ Below wC.heap.size wC wn ∧ wn.heap[g]? = some (.cells #[.int .u8 gc, .slice Ag gn cg] 38) := ⟨_, _, rfl, rfl, below_alloc (Below.refl _ _) _, heap_alloc_new wC _⟩
      rw [hg_, hwn]
      have H34 := Aside0.mk (RW_one HGN.out ((VG.out.below HZ.out).below hb) hc_)
      have HZ_ := Aside0.mk (below_step HZ.out hb)
      clear HZ
      have HZ := HZ_
      clear HZ_
      clear hg_ hwn hb hc_
      refine hK.out _ _ ⟨pw_cell_below HZ.out ((blk_cell HBXg11.out 0).trans rfl), pw_cell_below HZ.out ((blk_cell HBXg11.out 1).trans rfl), pw_cell_below HZ.out ((blk_cell HBXg14.out 0).trans rfl), pw_cell_below HZ.out ((blk_cell HBXg14.out 1).trans rfl), pw_cell_below HZ.out ((blk_cell HBXg3.out 0).trans rfl), pw_cell_below HZ.out ((blk_cell HBXg3.out 1).trans rfl), pw_cell_below HZ.out ((blk_cell HBXg4.out 0).trans rfl), pw_cell_below HZ.out ((blk_cell HBXg4.out 1).trans rfl)⟩ (fun hHeld => ?_)
      clear hK K
      refine norm_ (a' := ?_) ?_ ?_
      rotate_left
      · show Act.put _ (some 90) _ = _
        simp only [Act.put, List.setIfInBounds_toArray, List.set_cons_zero, List.set_cons_succ, i64_w, i32_w]
        rfl
      refine two_ (i := 29) (j := 31) (Ni := some 85) (Nj := some 87) #[true, true, true, true, true, true, true, true, true, true, true, true, true, true, true, true, true, true, true, true, true, true, true, true, true, true, true, true, true, true, true, false, false, true, true, false, false, false, false, false] #[true, true, true, true, true, true, true, true, true, true, true, true, true, true, true, true, true, true, true, true, true, true, true, true, true, true, true, true, true, false, true, true, false, true, true, false, false, false, false, false] rfl rfl rfl rfl (by kernel_rfl) (by decide) (by decide) (fun K hK => ?_) (fun K hK => ?_)
      · skip
        refine goes_ Try.func32 (by kernel_rfl) rfl #[.agg #[.int .u8 fc, .slice Af fn cf], .agg #[.int .u8 gc, .slice Ag gn cg]] (by rfl) rfl rfl (by simp only [List.map_toArray, List.map_cons, List.map_nil]; rfl) ?_
        with_reducible refine (Same38_calls fc Af fn cf body HFN.out gc Ag gn cg gbody HGN.out rr _ (VF.out.below HZ.out).at_.2.2 (VF.out.below HZ.out).at_.2.1 (VG.out.below HZ.out).at_.2.2 (VG.out.below HZ.out).at_.2.1 HFB.out HGB.out HRR.out).mono ?_
        rintro e wk2_34_29 ⟨rfl, hb⟩
        refine ⟨_, rfl, ?_⟩
        have HZ_ := Aside0.mk (below_step HZ.out hb)
        have H34_ := Aside0.mk (H34.out.below hb)
        clear HZ H34
        have HZ := HZ_
        have H34 := H34_
        clear HZ_ H34_
        clear hb
        refine hK.out _ _ ⟨pw_cell_below HZ.out ((blk_cell HBXg11.out 0).trans rfl), pw_cell_below HZ.out ((blk_cell HBXg11.out 1).trans rfl), pw_cell_below HZ.out ((blk_cell HBXg14.out 0).trans rfl), pw_cell_below HZ.out ((blk_cell HBXg14.out 1).trans rfl), pw_cell_below HZ.out ((blk_cell HBXg3.out 0).trans rfl), pw_cell_below HZ.out ((blk_cell HBXg3.out 1).trans rfl), pw_cell_below HZ.out ((blk_cell HBXg4.out 0).trans rfl), pw_cell_below HZ.out ((blk_cell HBXg4.out 1).trans rfl)⟩ (fun hHeld => ?_)
        clear hK K
        refine norm_ (a' := ?_) ?_ ?_
        rotate_left
        · show Act.put _ (some 85) _ = _
          simp only [Act.put, List.setIfInBounds_toArray, List.set_cons_zero, List.set_cons_succ, i64_w, i32_w]
          rfl
        refine one_ (i := 31) (N := some 87) #[true, true, true, true, true, true, true, true, true, true, true, true, true, true, true, true, true, true, true, true, true, true, true, true, true, true, true, true, true, true, true, true, false, true, true, false, false, false, false, false] rfl rfl (by kernel_rfl) (by decide) (fun K hK => ?_)
        refine value_ (w1 := ?_) (v := ?_) (by rfl) rfl ?_ ?_
        rotate_left 2
        · go_simp
          constructor
          · rfl
          · rfl
        obtain ⟨g87, wk2_34_29_31, hg_, hwn, hb, hc_⟩ : ∃ g wn, (wk2_34_29).heap.size = g ∧ World.alloc wk2_34_29 (.cells #[.int .u8 fc, .slice Af fn cf] 38) = wn ∧ Below wk2_34_29.heap.size wk2_34_29 wn ∧ wn.heap[g]? = some (.cells #[.int .u8 fc, .slice Af fn cf] 38) := ⟨_, _, rfl, rfl, below_alloc (Below.refl _ _) _, heap_alloc_new wk2_34_29 _⟩
        rw [hg_, hwn]
        have H31 := Aside0.mk (RW_one HFN.out ((VF.out.below HZ.out).below hb) hc_)
        have HZ_ := Aside0.mk (below_step HZ.out hb)
        have H34_ := Aside0.mk (H34.out.below hb)
        clear HZ H34
        have HZ := HZ_
        have H34 := H34_
        clear HZ_ H34_
        clear hg_ hwn hb hc_
        refine hK.out _ _ ⟨pw_cell_below HZ.out ((blk_cell HBXg11.out 0).trans rfl), pw_cell_below HZ.out ((blk_cell HBXg11.out 1).trans rfl), pw_cell_below HZ.out ((blk_cell HBXg14.out 0).trans rfl), pw_cell_below HZ.out ((blk_cell HBXg14.out 1).trans rfl), pw_cell_below HZ.out ((blk_cell HBXg3.out 0).trans rfl), pw_cell_below HZ.out ((blk_cell HBXg3.out 1).trans rfl), pw_cell_below HZ.out ((blk_cell HBXg4.out 0).trans rfl), pw_cell_below HZ.out ((blk_cell HBXg4.out 1).trans rfl)⟩ (fun hHeld => ?_)
        clear hK K
        refine norm_ (a' := ?_) ?_ ?_
        rotate_left
        · show Act.put _ (some 87) _ = _
          simp only [Act.put, List.setIfInBounds_toArray, List.set_cons_zero, List.set_cons_succ, i64_w, i32_w]
          rfl
        refine one_ (i := 32) (N := some 88) #[true, true, true, true, true, true, true, true, true, true, true, true, true, true, true, true, true, true, true, true, true, true, true, true, true, true, true, true, true, true, true, true, true, true, true, false, false, false, false, false] rfl rfl (by kernel_rfl) (by decide) (fun K hK => ?_)
        obtain ⟨ok_, hv_⟩ := H31.out.v_
        refine goes_ Try.func31 (by kernel_rfl) rfl #[.slice (some ⟨g87, 0, none⟩) 1 1] (by rfl) rfl rfl (by simp only [List.map_toArray, List.map_cons, List.map_nil]; rfl) ?_
        with_reducible refine (Frames_calls ok_ (some ⟨g87, 0, none⟩) 1 1 [⟨fc, body⟩] rfl _ hv_ (by omega)).mono ?_
        rintro e wk2_34_29_31_32 ⟨A88, c88, rfl, hc_, hC_, hb⟩
        refine ⟨_, rfl, ?_⟩
        have H32 := Aside0.mk (And.intro hc_ hC_ : 1 ≤ c88 ∧ Kd.C k41 wk2_34_29_31_32 A88 1 [to41 ⟨fc, body⟩])
        have HZ_ := Aside0.mk (below_step HZ.out hb)
        have H34_ := Aside0.mk (H34.out.below hb)
        clear HZ H34
        have HZ := HZ_
        have H34 := H34_
        clear HZ_ H34_
        clear hc_ hC_ hb hv_ ok_
        refine hK.out _ _ ⟨pw_cell_below HZ.out ((blk_cell HBXg11.out 0).trans rfl), pw_cell_below HZ.out ((blk_cell HBXg11.out 1).trans rfl), pw_cell_below HZ.out ((blk_cell HBXg14.out 0).trans rfl), pw_cell_below HZ.out ((blk_cell HBXg14.out 1).trans rfl), pw_cell_below HZ.out ((blk_cell HBXg3.out 0).trans rfl), pw_cell_below HZ.out ((blk_cell HBXg3.out 1).trans rfl), pw_cell_below HZ.out ((blk_cell HBXg4.out 0).trans rfl), pw_cell_below HZ.out ((blk_cell HBXg4.out 1).trans rfl)⟩ (fun hHeld => ?_)
        clear hK K
        refine norm_ (a' := ?_) ?_ ?_
        rotate_left
        · show Act.put _ (some 88) _ = _
          simp only [Act.put, List.setIfInBounds_toArray, List.set_cons_zero, List.set_cons_succ, i64_w, i32_w]
          rfl
        exact norm_ (by simp only [putAll, Act.put, List.setIfInBounds_toArray, List.set_cons_zero, List.set_cons_succ]) (hCont (.bool rr, .slice (some ⟨g87, 0, none⟩) 1 1, .slice A88 1 c88, .slice (some ⟨g90, 0, none⟩) 1 1) _ ⟨g87, A88, c88, g90, rfl, H32.out.1, H32.out.2, H34.out, HZ.out⟩)
      · skip
        refine value_ (w1 := ?_) (v := ?_) (by rfl) rfl ?_ ?_
        rotate_left 2
        · go_simp
          constructor
          · rfl
          · rfl
        obtain ⟨g87, wk2_34_31, hg_, hwn, hb, hc_⟩ : ∃ g wn, (wk2_34).heap.size = g ∧ World.alloc wk2_34 (.cells #[.int .u8 fc, .slice Af fn cf] 38) = wn ∧ Below wk2_34.heap.size wk2_34 wn ∧ wn.heap[g]? = some (.cells #[.int .u8 fc, .slice Af fn cf] 38) := ⟨_, _, rfl, rfl, below_alloc (Below.refl _ _) _, heap_alloc_new wk2_34 _⟩
        rw [hg_, hwn]
        have H31 := Aside0.mk (RW_one HFN.out ((VF.out.below HZ.out).below hb) hc_)
        have HZ_ := Aside0.mk (below_step HZ.out hb)
        have H34_ := Aside0.mk (H34.out.below hb)
        clear HZ H34
        have HZ := HZ_
        have H34 := H34_
        clear HZ_ H34_
        clear hg_ hwn hb hc_
        refine hK.out _ _ ⟨pw_cell_below HZ.out ((blk_cell HBXg11.out 0).trans rfl), pw_cell_below HZ.out ((blk_cell HBXg11.out 1).trans rfl), pw_cell_below HZ.out ((blk_cell HBXg14.out 0).trans rfl), pw_cell_below HZ.out ((blk_cell HBXg14.out 1).trans rfl), pw_cell_below HZ.out ((blk_cell HBXg3.out 0).trans rfl), pw_cell_below HZ.out ((blk_cell HBXg3.out 1).trans rfl), pw_cell_below HZ.out ((blk_cell HBXg4.out 0).trans rfl), pw_cell_below HZ.out ((blk_cell HBXg4.out 1).trans rfl)⟩ (fun hHeld => ?_)
        clear hK K
        refine norm_ (a' := ?_) ?_ ?_
        rotate_left
        · show Act.put _ (some 87) _ = _
          simp only [Act.put, List.setIfInBounds_toArray, List.set_cons_zero, List.set_cons_succ, i64_w, i32_w]
          rfl
        refine one_ (i := 29) (N := some 85) #[true, true, true, true, true, true, true, true, true, true, true, true, true, true, true, true, true, true, true, true, true, true, true, true, true, true, true, true, true, true, true, true, false, true, true, false, false, false, false, false] rfl rfl (by kernel_rfl) (by decide) (fun K hK => ?_)
        refine goes_ Try.func32 (by kernel_rfl) rfl #[.agg #[.int .u8 fc, .slice Af fn cf], .agg #[.int .u8 gc, .slice Ag gn cg]] (by rfl) rfl rfl (by simp only [List.map_toArray, List.map_cons, List.map_nil]; rfl) ?_
        with_reducible refine (Same38_calls fc Af fn cf body HFN.out gc Ag gn cg gbody HGN.out rr _ (VF.out.below HZ.out).at_.2.2 (VF.out.below HZ.out).at_.2.1 (VG.out.below HZ.out).at_.2.2 (VG.out.below HZ.out).at_.2.1 HFB.out HGB.out HRR.out).mono ?_
        rintro e wk2_34_31_29 ⟨rfl, hb⟩
        refine ⟨_, rfl, ?_⟩
        have HZ_ := Aside0.mk (below_step HZ.out hb)
        have H34_ := Aside0.mk (H34.out.below hb)
        have H31_ := Aside0.mk (H31.out.below hb)
        clear HZ H34 H31
        have HZ := HZ_
        have H34 := H34_
        have H31 := H31_
        clear HZ_ H34_ H31_
        clear hb
        refine hK.out _ _ ⟨pw_cell_below HZ.out ((blk_cell HBXg11.out 0).trans rfl), pw_cell_below HZ.out ((blk_cell HBXg11.out 1).trans rfl), pw_cell_below HZ.out ((blk_cell HBXg14.out 0).trans rfl), pw_cell_below HZ.out ((blk_cell HBXg14.out 1).trans rfl), pw_cell_below HZ.out ((blk_cell HBXg3.out 0).trans rfl), pw_cell_below HZ.out ((blk_cell HBXg3.out 1).trans rfl), pw_cell_below HZ.out ((blk_cell HBXg4.out 0).trans rfl), pw_cell_below HZ.out ((blk_cell HBXg4.out 1).trans rfl)⟩ (fun hHeld => ?_)
        clear hK K
        refine norm_ (a' := ?_) ?_ ?_
        rotate_left
        · show Act.put _ (some 85) _ = _
          simp only [Act.put, List.setIfInBounds_toArray, List.set_cons_zero, List.set_cons_succ, i64_w, i32_w]
          rfl
        refine one_ (i := 32) (N := some 88) #[true, true, true, true, true, true, true, true, true, true, true, true, true, true, true, true, true, true, true, true, true, true, true, true, true, true, true, true, true, true, true, true, true, true, true, false, false, false, false, false] rfl rfl (by kernel_rfl) (by decide) (fun K hK => ?_)
        obtain ⟨ok_, hv_⟩ := H31.out.v_
        refine goes_ Try.func31 (by kernel_rfl) rfl #[.slice (some ⟨g87, 0, none⟩) 1 1] (by rfl) rfl rfl (by simp only [List.map_toArray, List.map_cons, List.map_nil]; rfl) ?_
        with_reducible refine (Frames_calls ok_ (some ⟨g87, 0, none⟩) 1 1 [⟨fc, body⟩] rfl _ hv_ (by omega)).mono ?_
        rintro e wk2_34_31_29_32 ⟨A88, c88, rfl, hc_, hC_, hb⟩
        refine ⟨_, rfl, ?_⟩
        have H32 := Aside0.mk (And.intro hc_ hC_ : 1 ≤ c88 ∧ Kd.C k41 wk2_34_31_29_32 A88 1 [to41 ⟨fc, body⟩])
        have HZ_ := Aside0.mk (below_step HZ.out hb)
        have H34_ := Aside0.mk (H34.out.below hb)
        clear HZ H34
        have HZ := HZ_
        have H34 := H34_
        clear HZ_ H34_
        clear hc_ hC_ hb hv_ ok_
        refine hK.out _ _ ⟨pw_cell_below HZ.out ((blk_cell HBXg11.out 0).trans rfl), pw_cell_below HZ.out ((blk_cell HBXg11.out 1).trans rfl), pw_cell_below HZ.out ((blk_cell HBXg14.out 0).trans rfl), pw_cell_below HZ.out ((blk_cell HBXg14.out 1).trans rfl), pw_cell_below HZ.out ((blk_cell HBXg3.out 0).trans rfl), pw_cell_below HZ.out ((blk_cell HBXg3.out 1).trans rfl), pw_cell_below HZ.out ((blk_cell HBXg4.out 0).trans rfl), pw_cell_below HZ.out ((blk_cell HBXg4.out 1).trans rfl)⟩ (fun hHeld => ?_)
        clear hK K
        refine norm_ (a' := ?_) ?_ ?_
        rotate_left
        · show Act.put _ (some 88) _ = _
          simp only [Act.put, List.setIfInBounds_toArray, List.set_cons_zero, List.set_cons_succ, i64_w, i32_w]
          rfl
        exact norm_ (by simp only [putAll, Act.put, List.setIfInBounds_toArray, List.set_cons_zero, List.set_cons_succ]) (hCont (.bool rr, .slice (some ⟨g87, 0, none⟩) 1 1, .slice A88 1 c88, .slice (some ⟨g90, 0, none⟩) 1 1) _ ⟨g87, A88, c88, g90, rfl, H32.out.1, H32.out.2, H34.out, HZ.out⟩)
  rintro ⟨s1_, s2_, s3_, s4_⟩ wD ⟨g87, A88, c88, g90, hs_, hc_, h1_, h2_, hb⟩
  injection hs_ with e1_ e2_
  injection e2_ with e2_ e3_
  injection e3_ with e3_ e4_
  subst e1_ e2_ e3_ e4_
  have H88C := Aside0.mk hc_
  have H88 := Aside0.mk h1_
  have H90 := Aside0.mk h2_
  have HB_ := Aside0.mk (below_step HB.out hb)
  have HBXg3_ := Aside0.mk ((hb.block g3 (blk_lt HBXg3.out)).trans HBXg3.out)
  have HBXg4_ := Aside0.mk ((hb.block g4 (blk_lt HBXg4.out)).trans HBXg4.out)
  have HBXg11_ := Aside0.mk ((hb.block g11 (blk_lt HBXg11.out)).trans HBXg11.out)
  have HBXg14_ := Aside0.mk ((hb.block g14 (blk_lt HBXg14.out)).trans HBXg14.out)
  have VF_ := Aside0.mk (VF.out.below hb)
  have VG_ := Aside0.mk (VG.out.below hb)
  have VX_ := Aside0.mk (VX.out.below hb)
  have VY_ := Aside0.mk (VY.out.below hb)
  clear HB HBXg3 HBXg4 HBXg11 HBXg14 VF VG VX VY
  have HB := HB_
  have HBXg3 := HBXg3_
  have HBXg4 := HBXg4_
  have HBXg11 := HBXg11_
  have HBXg14 := HBXg14_
  have VF := VF_
  have VG := VG_
  have VX := VX_
  have VY := VY_
  clear HB_ HBXg3_ HBXg4_ HBXg11_ HBXg14_ VF_ VG_ VX_ VY_
  clear hc_ h1_ h2_ hb HZ
  have hHeld : wD.cell? ⟨g11, 0, none⟩ = some (.int .u8 r1) ∧ wD.cell? ⟨g11, 1, none⟩ = some (.slice Ax xn cx) ∧ wD.cell? ⟨g14, 0, none⟩ = some (.int .u8 r1) ∧ wD.cell? ⟨g14, 1, none⟩ = some (.slice Ay xn cy) ∧ wD.cell? ⟨g3, 0, none⟩ = some (.int .u8 fc) ∧ wD.cell? ⟨g3, 1, none⟩ = some (.slice Af fn cf) ∧ wD.cell? ⟨g4, 0, none⟩ = some (.int .u8 gc) ∧ wD.cell? ⟨g4, 1, none⟩ = some (.slice Ag gn cg) := ⟨(blk_cell HBXg11.out 0).trans rfl, (blk_cell HBXg11.out 1).trans rfl, (blk_cell HBXg14.out 0).trans rfl, (blk_cell HBXg14.out 1).trans rfl, (blk_cell HBXg3.out 0).trans rfl, (blk_cell HBXg3.out 1).trans rfl, (blk_cell HBXg4.out 0).trans rfl, (blk_cell HBXg4.out 1).trans rfl⟩
  refine norm_ (a' := ?_) ?_ ?_
  rotate_left
  · simp only [putAll, Act.put, List.setIfInBounds_toArray, List.set_cons_zero, List.set_cons_succ]
    rfl
  refine one_ (i := 35) (N := some 91) #[true, true, true, true, true, true, true, true, true, true, true, true, true, true, true, true, true, true, true, true, true, true, true, true, true, true, true, true, true, true, true, true, true, true, true, true, false, false, false, false] rfl rfl (by kernel_rfl) (by decide) (fun K hK => ?_)
  obtain ⟨ok_, hv_⟩ := H90.out.v_
  refine goes_ Try.func31 (by kernel_rfl) rfl #[.slice (some ⟨g90, 0, none⟩) 1 1] (by rfl) rfl rfl (by simp only [List.map_toArray, List.map_cons, List.map_nil]; rfl) ?_
  with_reducible refine (Frames_calls ok_ (some ⟨g90, 0, none⟩) 1 1 [⟨gc, gbody⟩] rfl _ hv_ (by omega)).mono ?_
  rintro e wE ⟨A91, c91, rfl, hc_, hC_, hb⟩
  refine ⟨_, rfl, ?_⟩
  have H91C := Aside0.mk hc_
  have H91 := Aside0.mk (show Kd.C k41 wE A91 1 [to41 ⟨gc, gbody⟩] from hC_)
  have HB_ := Aside0.mk (below_step HB.out hb)
  have HBXg3_ := Aside0.mk ((hb.block g3 (blk_lt HBXg3.out)).trans HBXg3.out)
  have HBXg4_ := Aside0.mk ((hb.block g4 (blk_lt HBXg4.out)).trans HBXg4.out)
  have HBXg11_ := Aside0.mk ((hb.block g11 (blk_lt HBXg11.out)).trans HBXg11.out)
  have HBXg14_ := Aside0.mk ((hb.block g14 (blk_lt HBXg14.out)).trans HBXg14.out)
  have VF_ := Aside0.mk (VF.out.below hb)
  have VG_ := Aside0.mk (VG.out.below hb)
  have VX_ := Aside0.mk (VX.out.below hb)
  have VY_ := Aside0.mk (VY.out.below hb)
  have H88_ := Aside0.mk (Kd.C_below H88.out hb)
  clear HB HBXg3 HBXg4 HBXg11 HBXg14 VF VG VX VY H88
  have HB := HB_
  have HBXg3 := HBXg3_
  have HBXg4 := HBXg4_
  have HBXg11 := HBXg11_
  have HBXg14 := HBXg14_
  have VF := VF_
  have VG := VG_
  have VX := VX_
  have VY := VY_
  have H88 := H88_
  clear HB_ HBXg3_ HBXg4_ HBXg11_ HBXg14_ VF_ VG_ VX_ VY_ H88_
  clear hb hc_ hC_ hv_ ok_ H90
  refine hK.out _ _ ⟨(blk_cell HBXg11.out 0).trans rfl, (blk_cell HBXg11.out 1).trans rfl, (blk_cell HBXg14.out 0).trans rfl, (blk_cell HBXg14.out 1).trans rfl, (blk_cell HBXg3.out 0).trans rfl, (blk_cell HBXg3.out 1).trans rfl, (blk_cell HBXg4.out 0).trans rfl, (blk_cell HBXg4.out 1).trans rfl⟩ (fun hHeld => ?_)
  clear hK K
  refine norm_ (a' := ?_) ?_ ?_
  rotate_left
  · show Act.put _ (some 91) _ = _
    simp only [Act.put, List.setIfInBounds_toArray, List.set_cons_zero, List.set_cons_succ, i64_w, i32_w]
    rfl
  refine one_ (i := 36) (N := some 92) #[true, true, true, true, true, true, true, true, true, true, true, true, true, true, true, true, true, true, true, true, true, true, true, true, true, true, true, true, true, true, true, true, true, true, true, true, true, false, false, false] rfl rfl (by kernel_rfl) (by decide) (fun K hK => ?_)
  refine goes_ Try.func30 (by kernel_rfl) rfl #[.slice A88 1 c88, .slice A91 1 c91] (by rfl) rfl rfl (by simp only [List.map_toArray, List.map_cons, List.map_nil]; rfl) ?_
  with_reducible refine (Same41_calls A88 1 c88 [to41 ⟨fc, body⟩] rfl A91 1 c91 [to41 ⟨gc, gbody⟩] rfl rr _ H88.out H88C.out H91.out H91C.out (by omega) HF6.out HRR2.out).mono ?_
  rintro e wF ⟨rfl, hb⟩
  refine ⟨_, rfl, ?_⟩
  have HB_ := Aside0.mk (below_step HB.out hb)
  have HBXg3_ := Aside0.mk ((hb.block g3 (blk_lt HBXg3.out)).trans HBXg3.out)
  have HBXg4_ := Aside0.mk ((hb.block g4 (blk_lt HBXg4.out)).trans HBXg4.out)
  have HBXg11_ := Aside0.mk ((hb.block g11 (blk_lt HBXg11.out)).trans HBXg11.out)
  have HBXg14_ := Aside0.mk ((hb.block g14 (blk_lt HBXg14.out)).trans HBXg14.out)
  have VF_ := Aside0.mk (VF.out.below hb)
  have VG_ := Aside0.mk (VG.out.below hb)
  have VX_ := Aside0.mk (VX.out.below hb)
  have VY_ := Aside0.mk (VY.out.below hb)
  clear HB HBXg3 HBXg4 HBXg11 HBXg14 VF VG VX VY
  have HB := HB_
  have HBXg3 := HBXg3_
  have HBXg4 := HBXg4_
  have HBXg11 := HBXg11_
  have HBXg14 := HBXg14_
  have VF := VF_
  have VG := VG_
  have VX := VX_
  have VY := VY_
  clear HB_ HBXg3_ HBXg4_ HBXg11_ HBXg14_ VF_ VG_ VX_ VY_
  clear hb H88 H91
  refine hK.out _ _ ⟨(blk_cell HBXg11.out 0).trans rfl, (blk_cell HBXg11.out 1).trans rfl, (blk_cell HBXg14.out 0).trans rfl, (blk_cell HBXg14.out 1).trans rfl, (blk_cell HBXg3.out 0).trans rfl, (blk_cell HBXg3.out 1).trans rfl, (blk_cell HBXg4.out 0).trans rfl, (blk_cell HBXg4.out 1).trans rfl⟩ (fun hHeld => ?_)
  clear hK K
  refine norm_ (a' := ?_) ?_ ?_
  rotate_left
  · show Act.put _ (some 92) _ = _
    simp only [Act.put, List.setIfInBounds_toArray, List.set_cons_zero, List.set_cons_succ, i64_w, i32_w]
    rfl
  refine pure_ (i := 37) (N := some 93) (v := ?_) (a' := ?_) #[true, true, true, true, true, true, true, true, true, true, true, true, true, true, true, true, true, true, true, true, true, true, true, true, true, true, true, true, true, true, true, true, true, true, true, true, true, true, false, false] rfl rfl (by kernel_rfl) (fun _ _ _ h => h) (Or.inl ⟨by rfl, ?_⟩) ?_ ?_
  rotate_left
  · intro w'
    go_simp
    with_reducible rfl
  rotate_left
  · simp only [Act.put, List.setIfInBounds_toArray, List.set_cons_zero, List.set_cons_succ, i64_w, i32_w]
    rfl
  refine pure_ (i := 38) (N := some 94) (v := ?_) (a' := ?_) #[true, true, true, true, true, true, true, true, true, true, true, true, true, true, true, true, true, true, true, true, true, true, true, true, true, true, true, true, true, true, true, true, true, true, true, true, true, true, true, false] rfl rfl (by kernel_rfl) (fun _ _ _ h => h) (Or.inl ⟨by rfl, ?_⟩) ?_ ?_
  rotate_left
  · intro w'
    go_simp
    with_reducible rfl
  rotate_left
  · simp only [Act.put, List.setIfInBounds_toArray, List.set_cons_zero, List.set_cons_succ, i64_w, i32_w]
    rfl
  refine pure_ (i := 39) (N := some 6) (v := ?_) (a' := ?_) #[true, true, true, true, true, true, true, true, true, true, true, true, true, true, true, true, true, true, true, true, true, true, true, true, true, true, true, true, true, true, true, true, true, true, true, true, true, true, true, true] rfl rfl (by kernel_rfl) (fun _ _ _ h => h) (Or.inl ⟨by rfl, ?_⟩) ?_ ?_
  rotate_left
  · intro w'
    go_simp
    with_reducible rfl
  rotate_left
  · simp only [Act.put, List.setIfInBounds_toArray, List.set_cons_zero, List.set_cons_succ, i64_w, i32_w]
    rfl
  refine done_ (by kernel_rfl) ?_

  go_wp2
  go_ret
  exact ⟨rfl, HB.out⟩
end Go.Proofs.Ytagmefjpnmjcjab.Fh
