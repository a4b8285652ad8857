/- Cut to what this claim names. -/
import Derived.Test.YtagmefjpnmjcjabQMsRefOf
import Derived.Test.YtagmefjpnmjcjabQMsC
/- MsgTells, walked by hand. -/
namespace Go.Proofs.Ytagmefjpnmjcjab.Mh
open Go.RowKit Go.Proofs.YtagmefjpnmjcjabW.PrintWords Go.Proofs.YtagmefjpnmjcjabW.PrintLast Go.Proofs.YtagmefjpnmjcjabW.PrintMore
open Go.Proofs.Ytagmefjpnmjcjab.FrNum (Bytes)
open Go.Proofs.Ytagmefjpnmjcjab.Fr (S41 k41)
open Go.Proofs.Ytagmefjpnmjcjab.Fh (Same8_calls Same41_calls bytesS bytes_of_wf)
attribute [local go_sem] max2_int min2_int max_two min_two
set_option linter.unusedVariables false
set_option linter.unusedSimpArgs false
theorem frame_short (k : Int) (ns : List Int) (ts : List ByteArray) : (frameS k ns ts).2.1.length ≤ 300 := by
  rcases frameS_or k ns ts with ⟨_, h⟩ | ⟨_, h⟩ | ⟨_, h, hl⟩
  · rw [h]; simp
  · rw [h]; simp
  · rw [h]; exact hl
theorem bytes_short (c : Int) (l : List Int) : (bytesS c l).1.length ≤ 303 := by
  unfold bytesS
  split
  · simp
  · split
    · simp
    · simp; omega
theorem mbytes_short (k : Int) (ns : List Int) (ts : List ByteArray) : (mbytesS k ns ts).1.length ≤ 303 := by
  unfold mbytesS
  split
  · exact bytes_short _ _
  · simp
theorem of_short {c : Int} {b : List Int} (hb : Bytes b) : (ofS c b).1.2.1.length ≤ 1000000 ∧ (ofS c b).1.2.2.length ≤ 1000000 := by
  rcases ofS_or c b with h | h
  · have := rightS_len (frameS_ofS hb h).2.2
    omega
  · rw [h]; simp
set_option maxHeartbeats 8000000 in
set_option maxRecDepth 100000 in
theorem MsgTells_calls (k : Int) (A1 : Option Addr) (c1 : Nat) (ns : List Int) (A2 : Option Addr) (c2 : Nat) (ts : List ByteArray) (j : Int) (B1 : Option Addr) (d1 : Nat) (ms : List Int) (B2 : Option Addr) (d2 : Nat) (us : List ByteArray) (fc : Int) (Af : Option Addr) (cf : Nat) (body : List Int) (w : World)
    (hC1 : Kd.C (Kd.int .u64) w A1 ns.length ns) (hc1 : ns.length ≤ c1) (hC2 : Kd.C Kd.string w A2 ts.length ts) (hc2 : ts.length ≤ c2) (hD1 : Kd.C (Kd.int .u64) w B1 ms.length ms) (hd1 : ms.length ≤ d1) (hD2 : Kd.C Kd.string w B2 us.length us) (hd2 : us.length ≤ d2) (hCf : Kd.C (Kd.int .u8) w Af body.length body) (hcf : body.length ≤ cf)
    (o0 : (Lit.int .i64 k).wf = true ∧ (∀ x ∈ ns, (Lit.int .u64 x).wf = true) ∧ ∀ t ∈ ts, t.size ≤ maxLen) (o1 : (Lit.int .i64 j).wf = true ∧ (∀ x ∈ ms, (Lit.int .u64 x).wf = true) ∧ ∀ t ∈ us, t.size ≤ maxLen) (o2 : (Lit.int .u8 fc).wf = true ∧ ∀ x ∈ body, (Lit.int .u8 x).wf = true) :
    Calls Try.prog 13 #[.agg #[.int .i64 k, .slice A1 ns.length c1, .slice A2 ts.length c2], .agg #[.int .i64 j, .slice B1 ms.length d1, .slice B2 us.length d2], .agg #[.int .u8 fc, .slice Af body.length cf]] w fun e w' => e = .returned (.bool true) ∧ Below w.heap.size w w' := by
  have HB := Aside0.mk (Below.refl w.heap.size w)
  obtain ⟨n1, hn1⟩ : ∃ n, ns.length = n := ⟨_, rfl⟩
  obtain ⟨n2, hn2⟩ : ∃ n, ts.length = n := ⟨_, rfl⟩
  obtain ⟨m1, hm1⟩ : ∃ n, ms.length = n := ⟨_, rfl⟩
  obtain ⟨m2, hm2⟩ : ∃ n, us.length = n := ⟨_, rfl⟩
  obtain ⟨fn, hfn⟩ : ∃ n, body.length = n := ⟨_, rfl⟩
  rw [hn1] at hC1 hc1 ⊢
  rw [hn2] at hC2 hc2 ⊢
  rw [hm1] at hD1 hd1 ⊢
  rw [hm2] at hD2 hd2 ⊢
  rw [hfn] at hCf hcf ⊢
  have HC1 := Aside0.mk hC1
  have HCC1 := Aside0.mk hc1
  have HC2 := Aside0.mk hC2
  have HCC2 := Aside0.mk hc2
  have HD1 := Aside0.mk hD1
  have HDD1 := Aside0.mk hd1
  have HD2 := Aside0.mk hD2
  have HDD2 := Aside0.mk hd2
  have HCF := Aside0.mk hCf
  have HCCF := Aside0.mk hcf
  have HN1 := Aside0.mk hn1
  have HN2 := Aside0.mk hn2
  have HM1 := Aside0.mk hm1
  have HM2 := Aside0.mk hm2
  have HFN := Aside0.mk hfn
  have HWF := Aside0.mk (show ∀ n ∈ ns, 0 ≤ n ∧ n ≤ 18446744073709551615 from fun n hn => u64_range (o0.2.1 n hn))
  have HBY := Aside0.mk (bytes_of_wf o2.2)
  have HFC := Aside0.mk (show 0 ≤ fc ∧ fc < 256 from bytes_of_wf (l := [fc]) (fun x hx => by rw [List.mem_singleton.1 hx]; exact o2.1) fc (by simp))
  have hu38 := Try.underlying38
  have hu41 := Try.underlying41
  have hu67 := Try.underlying67
  have hu69 := Try.underlying69
  obtain ⟨lr, hlr⟩ : ∃ r, largeS ns ts = r := ⟨_, rfl⟩
  have HLR := Aside0.mk hlr
  obtain ⟨lq, hlq⟩ : ∃ r, largeS ms us = r := ⟨_, rfl⟩
  have HLQ := Aside0.mk hlq
  have HT2 := Aside0.mk hC2.2.1
  have HU2 := Aside0.mk hD2.2.1
  clear hC1 hc1 hC2 hc2 hD1 hd1 hD2 hd2 hCf hcf o0 o1 o2
  cases lr with
  | true =>
    clear hlr hlq
    go_enter Try.func13, Try.ntmps13
    go_wp2_with (first | ((with_reducible refine gate_dst (N := 3) rfl ?_); refine box_event ?hg (N := 3) ?hd (cs := #[.int .i64 k, .slice A1 n1 c1, .slice A2 n2 c2]) (t := 67) ?hr ?_; (case hd => rfl); (case hg => rfl); (case hr => first | (go_simp; done) | (go_simp; rfl)); intro g3 hgb w_1 hbox hb; have HXg3 := Aside0.mk hbox; have HB_ := Aside0.mk (below_step HB.out hb); clear HB; have HB := HB_; clear HB_; clear hgb hbox hb; have cg3_0 : w_1.cell? ⟨g3, 0, none⟩ = some (.int .i64 k) := (blk_cell HXg3.out 0).trans rfl; have cg3_1 : w_1.cell? ⟨g3, 1, none⟩ = some (.slice A1 n1 c1) := (blk_cell HXg3.out 1).trans rfl; have cg3_2 : w_1.cell? ⟨g3, 2, none⟩ = some (.slice A2 n2 c2) := (blk_cell HXg3.out 2).trans rfl) | ((with_reducible refine gate_dst (N := 4) rfl ?_); refine box_event ?hg (N := 4) ?hd (cs := #[.int .i64 j, .slice B1 m1 d1, .slice B2 m2 d2]) (t := 67) ?hr ?_; (case hd => rfl); (case hg => rfl); (case hr => first | (go_simp; done) | (go_simp; rfl)); intro g4 hgb w_2 hbox hb; have HXg4 := Aside0.mk hbox; have HB_ := Aside0.mk (below_step HB.out hb); have HXg3_ := Aside0.mk ((hb.block g3 (blk_lt HXg3.out)).trans HXg3.out); clear HB HXg3; have HB := HB_; have HXg3 := HXg3_; clear HB_ HXg3_; clear hgb hbox hb; have cg3_0 : w_2.cell? ⟨g3, 0, none⟩ = some (.int .i64 k) := (blk_cell HXg3.out 0).trans rfl; have cg3_1 : w_2.cell? ⟨g3, 1, none⟩ = some (.slice A1 n1 c1) := (blk_cell HXg3.out 1).trans rfl; have cg3_2 : w_2.cell? ⟨g3, 2, none⟩ = some (.slice A2 n2 c2) := (blk_cell HXg3.out 2).trans rfl; have cg4_0 : w_2.cell? ⟨g4, 0, none⟩ = some (.int .i64 j) := (blk_cell HXg4.out 0).trans rfl; have cg4_1 : w_2.cell? ⟨g4, 1, none⟩ = some (.slice B1 m1 d1) := (blk_cell HXg4.out 1).trans rfl; have cg4_2 : w_2.cell? ⟨g4, 2, none⟩ = some (.slice B2 m2 d2) := (blk_cell HXg4.out 2).trans rfl) | ((with_reducible refine gate_dst (N := 5) rfl ?_); refine box_event ?hg (N := 5) ?hd (cs := #[.int .u8 fc, .slice Af fn cf]) (t := 38) ?hr ?_; (case hd => rfl); (case hg => rfl); (case hr => first | (go_simp; done) | (go_simp; rfl)); intro g5 hgb w_3 hbox hb; have HXg5 := Aside0.mk hbox; have HB_ := Aside0.mk (below_step HB.out hb); have HXg3_ := Aside0.mk ((hb.block g3 (blk_lt HXg3.out)).trans HXg3.out); have HXg4_ := Aside0.mk ((hb.block g4 (blk_lt HXg4.out)).trans HXg4.out); clear HB HXg3 HXg4; have HB := HB_; have HXg3 := HXg3_; have HXg4 := HXg4_; clear HB_ HXg3_ HXg4_; clear hgb hbox hb; have cg3_0 : w_3.cell? ⟨g3, 0, none⟩ = some (.int .i64 k) := (blk_cell HXg3.out 0).trans rfl; have cg3_1 : w_3.cell? ⟨g3, 1, none⟩ = some (.slice A1 n1 c1) := (blk_cell HXg3.out 1).trans rfl; have cg3_2 : w_3.cell? ⟨g3, 2, none⟩ = some (.slice A2 n2 c2) := (blk_cell HXg3.out 2).trans rfl; have cg4_0 : w_3.cell? ⟨g4, 0, none⟩ = some (.int .i64 j) := (blk_cell HXg4.out 0).trans rfl; have cg4_1 : w_3.cell? ⟨g4, 1, none⟩ = some (.slice B1 m1 d1) := (blk_cell HXg4.out 1).trans rfl; have cg4_2 : w_3.cell? ⟨g4, 2, none⟩ = some (.slice B2 m2 d2) := (blk_cell HXg4.out 2).trans rfl; have cg5_0 : w_3.cell? ⟨g5, 0, none⟩ = some (.int .u8 fc) := (blk_cell HXg5.out 0).trans rfl; have cg5_1 : w_3.cell? ⟨g5, 1, none⟩ = some (.slice Af fn cf) := (blk_cell HXg5.out 1).trans rfl) | (go_at_call 37; with_reducible refine (awake_calls _).mono ?_; rintro e w_4 ⟨rfl, hb⟩; skip; have HB_ := Aside0.mk (below_step HB.out hb); have HXg3_ := Aside0.mk ((hb.block g3 (blk_lt HXg3.out)).trans HXg3.out); have HXg4_ := Aside0.mk ((hb.block g4 (blk_lt HXg4.out)).trans HXg4.out); have HXg5_ := Aside0.mk ((hb.block g5 (blk_lt HXg5.out)).trans HXg5.out); clear HB HXg3 HXg4 HXg5; have HB := HB_; have HXg3 := HXg3_; have HXg4 := HXg4_; have HXg5 := HXg5_; clear HB_ HXg3_ HXg4_ HXg5_; clear hb; have cg3_0 : w_4.cell? ⟨g3, 0, none⟩ = some (.int .i64 k) := (blk_cell HXg3.out 0).trans rfl; have cg3_1 : w_4.cell? ⟨g3, 1, none⟩ = some (.slice A1 n1 c1) := (blk_cell HXg3.out 1).trans rfl; have cg3_2 : w_4.cell? ⟨g3, 2, none⟩ = some (.slice A2 n2 c2) := (blk_cell HXg3.out 2).trans rfl; have cg4_0 : w_4.cell? ⟨g4, 0, none⟩ = some (.int .i64 j) := (blk_cell HXg4.out 0).trans rfl; have cg4_1 : w_4.cell? ⟨g4, 1, none⟩ = some (.slice B1 m1 d1) := (blk_cell HXg4.out 1).trans rfl; have cg4_2 : w_4.cell? ⟨g4, 2, none⟩ = some (.slice B2 m2 d2) := (blk_cell HXg4.out 2).trans rfl; have cg5_0 : w_4.cell? ⟨g5, 0, none⟩ = some (.int .u8 fc) := (blk_cell HXg5.out 0).trans rfl; have cg5_1 : w_4.cell? ⟨g5, 1, none⟩ = some (.slice Af fn cf) := (blk_cell HXg5.out 1).trans rfl) | (go_at_call 38; with_reducible refine (Large_calls k A1 n1 c1 ns HN1.out A2 n2 c2 ts HN2.out true _ (Kd.C_below HC1.out HB.out) HCC1.out (Kd.C_below HC2.out HB.out) HCC2.out HT2.out HLR.out).mono ?_; rintro e w_5 ⟨rfl, hb⟩; skip; have HB_ := Aside0.mk (below_step HB.out hb); have HXg3_ := Aside0.mk ((hb.block g3 (blk_lt HXg3.out)).trans HXg3.out); have HXg4_ := Aside0.mk ((hb.block g4 (blk_lt HXg4.out)).trans HXg4.out); have HXg5_ := Aside0.mk ((hb.block g5 (blk_lt HXg5.out)).trans HXg5.out); clear HB HXg3 HXg4 HXg5; have HB := HB_; have HXg3 := HXg3_; have HXg4 := HXg4_; have HXg5 := HXg5_; clear HB_ HXg3_ HXg4_ HXg5_; clear hb; have cg3_0 : w_5.cell? ⟨g3, 0, none⟩ = some (.int .i64 k) := (blk_cell HXg3.out 0).trans rfl; have cg3_1 : w_5.cell? ⟨g3, 1, none⟩ = some (.slice A1 n1 c1) := (blk_cell HXg3.out 1).trans rfl; have cg3_2 : w_5.cell? ⟨g3, 2, none⟩ = some (.slice A2 n2 c2) := (blk_cell HXg3.out 2).trans rfl; have cg4_0 : w_5.cell? ⟨g4, 0, none⟩ = some (.int .i64 j) := (blk_cell HXg4.out 0).trans rfl; have cg4_1 : w_5.cell? ⟨g4, 1, none⟩ = some (.slice B1 m1 d1) := (blk_cell HXg4.out 1).trans rfl; have cg4_2 : w_5.cell? ⟨g4, 2, none⟩ = some (.slice B2 m2 d2) := (blk_cell HXg4.out 2).trans rfl; have cg5_0 : w_5.cell? ⟨g5, 0, none⟩ = some (.int .u8 fc) := (blk_cell HXg5.out 0).trans rfl; have cg5_1 : w_5.cell? ⟨g5, 1, none⟩ = some (.slice Af fn cf) := (blk_cell HXg5.out 1).trans rfl))
    go_ret
    exact ⟨rfl, HB.out⟩
  | false =>
    cases lq with
    | true =>
      clear hlr hlq
      go_enter Try.func13, Try.ntmps13
      go_wp2_with (first | ((with_reducible refine gate_dst (N := 3) rfl ?_); refine box_event ?hg (N := 3) ?hd (cs := #[.int .i64 k, .slice A1 n1 c1, .slice A2 n2 c2]) (t := 67) ?hr ?_; (case hd => rfl); (case hg => rfl); (case hr => first | (go_simp; done) | (go_simp; rfl)); intro g3 hgb w_1 hbox hb; have HXg3 := Aside0.mk hbox; have HB_ := Aside0.mk (below_step HB.out hb); clear HB; have HB := HB_; clear HB_; clear hgb hbox hb; have cg3_0 : w_1.cell? ⟨g3, 0, none⟩ = some (.int .i64 k) := (blk_cell HXg3.out 0).trans rfl; have cg3_1 : w_1.cell? ⟨g3, 1, none⟩ = some (.slice A1 n1 c1) := (blk_cell HXg3.out 1).trans rfl; have cg3_2 : w_1.cell? ⟨g3, 2, none⟩ = some (.slice A2 n2 c2) := (blk_cell HXg3.out 2).trans rfl) | ((with_reducible refine gate_dst (N := 4) rfl ?_); refine box_event ?hg (N := 4) ?hd (cs := #[.int .i64 j, .slice B1 m1 d1, .slice B2 m2 d2]) (t := 67) ?hr ?_; (case hd => rfl); (case hg => rfl); (case hr => first | (go_simp; done) | (go_simp; rfl)); intro g4 hgb w_2 hbox hb; have HXg4 := Aside0.mk hbox; have HB_ := Aside0.mk (below_step HB.out hb); have HXg3_ := Aside0.mk ((hb.block g3 (blk_lt HXg3.out)).trans HXg3.out); clear HB HXg3; have HB := HB_; have HXg3 := HXg3_; clear HB_ HXg3_; clear hgb hbox hb; have cg3_0 : w_2.cell? ⟨g3, 0, none⟩ = some (.int .i64 k) := (blk_cell HXg3.out 0).trans rfl; have cg3_1 : w_2.cell? ⟨g3, 1, none⟩ = some (.slice A1 n1 c1) := (blk_cell HXg3.out 1).trans rfl; have cg3_2 : w_2.cell? ⟨g3, 2, none⟩ = some (.slice A2 n2 c2) := (blk_cell HXg3.out 2).trans rfl; have cg4_0 : w_2.cell? ⟨g4, 0, none⟩ = some (.int .i64 j) := (blk_cell HXg4.out 0).trans rfl; have cg4_1 : w_2.cell? ⟨g4, 1, none⟩ = some (.slice B1 m1 d1) := (blk_cell HXg4.out 1).trans rfl; have cg4_2 : w_2.cell? ⟨g4, 2, none⟩ = some (.slice B2 m2 d2) := (blk_cell HXg4.out 2).trans rfl) | ((with_reducible refine gate_dst (N := 5) rfl ?_); refine box_event ?hg (N := 5) ?hd (cs := #[.int .u8 fc, .slice Af fn cf]) (t := 38) ?hr ?_; (case hd => rfl); (case hg => rfl); (case hr => first | (go_simp; done) | (go_simp; rfl)); intro g5 hgb w_3 hbox hb; have HXg5 := Aside0.mk hbox; have HB_ := Aside0.mk (below_step HB.out hb); have HXg3_ := Aside0.mk ((hb.block g3 (blk_lt HXg3.out)).trans HXg3.out); have HXg4_ := Aside0.mk ((hb.block g4 (blk_lt HXg4.out)).trans HXg4.out); clear HB HXg3 HXg4; have HB := HB_; have HXg3 := HXg3_; have HXg4 := HXg4_; clear HB_ HXg3_ HXg4_; clear hgb hbox hb; have cg3_0 : w_3.cell? ⟨g3, 0, none⟩ = some (.int .i64 k) := (blk_cell HXg3.out 0).trans rfl; have cg3_1 : w_3.cell? ⟨g3, 1, none⟩ = some (.slice A1 n1 c1) := (blk_cell HXg3.out 1).trans rfl; have cg3_2 : w_3.cell? ⟨g3, 2, none⟩ = some (.slice A2 n2 c2) := (blk_cell HXg3.out 2).trans rfl; have cg4_0 : w_3.cell? ⟨g4, 0, none⟩ = some (.int .i64 j) := (blk_cell HXg4.out 0).trans rfl; have cg4_1 : w_3.cell? ⟨g4, 1, none⟩ = some (.slice B1 m1 d1) := (blk_cell HXg4.out 1).trans rfl; have cg4_2 : w_3.cell? ⟨g4, 2, none⟩ = some (.slice B2 m2 d2) := (blk_cell HXg4.out 2).trans rfl; have cg5_0 : w_3.cell? ⟨g5, 0, none⟩ = some (.int .u8 fc) := (blk_cell HXg5.out 0).trans rfl; have cg5_1 : w_3.cell? ⟨g5, 1, none⟩ = some (.slice Af fn cf) := (blk_cell HXg5.out 1).trans rfl) | (go_at_call 37; with_reducible refine (awake_calls _).mono ?_; rintro e w_4 ⟨rfl, hb⟩; skip; have HB_ := Aside0.mk (below_step HB.out hb); have HXg3_ := Aside0.mk ((hb.block g3 (blk_lt HXg3.out)).trans HXg3.out); have HXg4_ := Aside0.mk ((hb.block g4 (blk_lt HXg4.out)).trans HXg4.out); have HXg5_ := Aside0.mk ((hb.block g5 (blk_lt HXg5.out)).trans HXg5.out); clear HB HXg3 HXg4 HXg5; have HB := HB_; have HXg3 := HXg3_; have HXg4 := HXg4_; have HXg5 := HXg5_; clear HB_ HXg3_ HXg4_ HXg5_; clear hb; have cg3_0 : w_4.cell? ⟨g3, 0, none⟩ = some (.int .i64 k) := (blk_cell HXg3.out 0).trans rfl; have cg3_1 : w_4.cell? ⟨g3, 1, none⟩ = some (.slice A1 n1 c1) := (blk_cell HXg3.out 1).trans rfl; have cg3_2 : w_4.cell? ⟨g3, 2, none⟩ = some (.slice A2 n2 c2) := (blk_cell HXg3.out 2).trans rfl; have cg4_0 : w_4.cell? ⟨g4, 0, none⟩ = some (.int .i64 j) := (blk_cell HXg4.out 0).trans rfl; have cg4_1 : w_4.cell? ⟨g4, 1, none⟩ = some (.slice B1 m1 d1) := (blk_cell HXg4.out 1).trans rfl; have cg4_2 : w_4.cell? ⟨g4, 2, none⟩ = some (.slice B2 m2 d2) := (blk_cell HXg4.out 2).trans rfl; have cg5_0 : w_4.cell? ⟨g5, 0, none⟩ = some (.int .u8 fc) := (blk_cell HXg5.out 0).trans rfl; have cg5_1 : w_4.cell? ⟨g5, 1, none⟩ = some (.slice Af fn cf) := (blk_cell HXg5.out 1).trans rfl) | (go_at_call 38; with_reducible refine (Large_calls k A1 n1 c1 ns HN1.out A2 n2 c2 ts HN2.out false _ (Kd.C_below HC1.out HB.out) HCC1.out (Kd.C_below HC2.out HB.out) HCC2.out HT2.out HLR.out).mono ?_; rintro e w_5 ⟨rfl, hb⟩; skip; have HB_ := Aside0.mk (below_step HB.out hb); have HXg3_ := Aside0.mk ((hb.block g3 (blk_lt HXg3.out)).trans HXg3.out); have HXg4_ := Aside0.mk ((hb.block g4 (blk_lt HXg4.out)).trans HXg4.out); have HXg5_ := Aside0.mk ((hb.block g5 (blk_lt HXg5.out)).trans HXg5.out); clear HB HXg3 HXg4 HXg5; have HB := HB_; have HXg3 := HXg3_; have HXg4 := HXg4_; have HXg5 := HXg5_; clear HB_ HXg3_ HXg4_ HXg5_; clear hb; have cg3_0 : w_5.cell? ⟨g3, 0, none⟩ = some (.int .i64 k) := (blk_cell HXg3.out 0).trans rfl; have cg3_1 : w_5.cell? ⟨g3, 1, none⟩ = some (.slice A1 n1 c1) := (blk_cell HXg3.out 1).trans rfl; have cg3_2 : w_5.cell? ⟨g3, 2, none⟩ = some (.slice A2 n2 c2) := (blk_cell HXg3.out 2).trans rfl; have cg4_0 : w_5.cell? ⟨g4, 0, none⟩ = some (.int .i64 j) := (blk_cell HXg4.out 0).trans rfl; have cg4_1 : w_5.cell? ⟨g4, 1, none⟩ = some (.slice B1 m1 d1) := (blk_cell HXg4.out 1).trans rfl; have cg4_2 : w_5.cell? ⟨g4, 2, none⟩ = some (.slice B2 m2 d2) := (blk_cell HXg4.out 2).trans rfl; have cg5_0 : w_5.cell? ⟨g5, 0, none⟩ = some (.int .u8 fc) := (blk_cell HXg5.out 0).trans rfl; have cg5_1 : w_5.cell? ⟨g5, 1, none⟩ = some (.slice Af fn cf) := (blk_cell HXg5.out 1).trans rfl) | (go_at_call 38; with_reducible refine (Large_calls j B1 m1 d1 ms HM1.out B2 m2 d2 us HM2.out true _ (Kd.C_below HD1.out HB.out) HDD1.out (Kd.C_below HD2.out HB.out) HDD2.out HU2.out HLQ.out).mono ?_; rintro e w_6 ⟨rfl, hb⟩; skip; have HB_ := Aside0.mk (below_step HB.out hb); have HXg3_ := Aside0.mk ((hb.block g3 (blk_lt HXg3.out)).trans HXg3.out); have HXg4_ := Aside0.mk ((hb.block g4 (blk_lt HXg4.out)).trans HXg4.out); have HXg5_ := Aside0.mk ((hb.block g5 (blk_lt HXg5.out)).trans HXg5.out); clear HB HXg3 HXg4 HXg5; have HB := HB_; have HXg3 := HXg3_; have HXg4 := HXg4_; have HXg5 := HXg5_; clear HB_ HXg3_ HXg4_ HXg5_; clear hb; have cg3_0 : w_6.cell? ⟨g3, 0, none⟩ = some (.int .i64 k) := (blk_cell HXg3.out 0).trans rfl; have cg3_1 : w_6.cell? ⟨g3, 1, none⟩ = some (.slice A1 n1 c1) := (blk_cell HXg3.out 1).trans rfl; have cg3_2 : w_6.cell? ⟨g3, 2, none⟩ = some (.slice A2 n2 c2) := (blk_cell HXg3.out 2).trans rfl; have cg4_0 : w_6.cell? ⟨g4, 0, none⟩ = some (.int .i64 j) := (blk_cell HXg4.out 0).trans rfl; have cg4_1 : w_6.cell? ⟨g4, 1, none⟩ = some (.slice B1 m1 d1) := (blk_cell HXg4.out 1).trans rfl; have cg4_2 : w_6.cell? ⟨g4, 2, none⟩ = some (.slice B2 m2 d2) := (blk_cell HXg4.out 2).trans rfl; have cg5_0 : w_6.cell? ⟨g5, 0, none⟩ = some (.int .u8 fc) := (blk_cell HXg5.out 0).trans rfl; have cg5_1 : w_6.cell? ⟨g5, 1, none⟩ = some (.slice Af fn cf) := (blk_cell HXg5.out 1).trans rfl))
      go_ret
      exact ⟨rfl, HB.out⟩
    | false =>
      by_cases c2000 : fn > 2000
      · have b0 : decide (2000 < (fn : Int)) = true := decide_eq_true (by omega)
        clear hlr hlq
        go_enter Try.func13, Try.ntmps13
        go_wp2_with (first | ((with_reducible refine gate_dst (N := 3) rfl ?_); refine box_event ?hg (N := 3) ?hd (cs := #[.int .i64 k, .slice A1 n1 c1, .slice A2 n2 c2]) (t := 67) ?hr ?_; (case hd => rfl); (case hg => rfl); (case hr => first | (go_simp; done) | (go_simp; rfl)); intro g3 hgb w_1 hbox hb; have HXg3 := Aside0.mk hbox; have HB_ := Aside0.mk (below_step HB.out hb); clear HB; have HB := HB_; clear HB_; clear hgb hbox hb; have cg3_0 : w_1.cell? ⟨g3, 0, none⟩ = some (.int .i64 k) := (blk_cell HXg3.out 0).trans rfl; have cg3_1 : w_1.cell? ⟨g3, 1, none⟩ = some (.slice A1 n1 c1) := (blk_cell HXg3.out 1).trans rfl; have cg3_2 : w_1.cell? ⟨g3, 2, none⟩ = some (.slice A2 n2 c2) := (blk_cell HXg3.out 2).trans rfl) | ((with_reducible refine gate_dst (N := 4) rfl ?_); refine box_event ?hg (N := 4) ?hd (cs := #[.int .i64 j, .slice B1 m1 d1, .slice B2 m2 d2]) (t := 67) ?hr ?_; (case hd => rfl); (case hg => rfl); (case hr => first | (go_simp; done) | (go_simp; rfl)); intro g4 hgb w_2 hbox hb; have HXg4 := Aside0.mk hbox; have HB_ := Aside0.mk (below_step HB.out hb); have HXg3_ := Aside0.mk ((hb.block g3 (blk_lt HXg3.out)).trans HXg3.out); clear HB HXg3; have HB := HB_; have HXg3 := HXg3_; clear HB_ HXg3_; clear hgb hbox hb; have cg3_0 : w_2.cell? ⟨g3, 0, none⟩ = some (.int .i64 k) := (blk_cell HXg3.out 0).trans rfl; have cg3_1 : w_2.cell? ⟨g3, 1, none⟩ = some (.slice A1 n1 c1) := (blk_cell HXg3.out 1).trans rfl; have cg3_2 : w_2.cell? ⟨g3, 2, none⟩ = some (.slice A2 n2 c2) := (blk_cell HXg3.out 2).trans rfl; have cg4_0 : w_2.cell? ⟨g4, 0, none⟩ = some (.int .i64 j) := (blk_cell HXg4.out 0).trans rfl; have cg4_1 : w_2.cell? ⟨g4, 1, none⟩ = some (.slice B1 m1 d1) := (blk_cell HXg4.out 1).trans rfl; have cg4_2 : w_2.cell? ⟨g4, 2, none⟩ = some (.slice B2 m2 d2) := (blk_cell HXg4.out 2).trans rfl) | ((with_reducible refine gate_dst (N := 5) rfl ?_); refine box_event ?hg (N := 5) ?hd (cs := #[.int .u8 fc, .slice Af fn cf]) (t := 38) ?hr ?_; (case hd => rfl); (case hg => rfl); (case hr => first | (go_simp; done) | (go_simp; rfl)); intro g5 hgb w_3 hbox hb; have HXg5 := Aside0.mk hbox; have HB_ := Aside0.mk (below_step HB.out hb); have HXg3_ := Aside0.mk ((hb.block g3 (blk_lt HXg3.out)).trans HXg3.out); have HXg4_ := Aside0.mk ((hb.block g4 (blk_lt HXg4.out)).trans HXg4.out); clear HB HXg3 HXg4; have HB := HB_; have HXg3 := HXg3_; have HXg4 := HXg4_; clear HB_ HXg3_ HXg4_; clear hgb hbox hb; have cg3_0 : w_3.cell? ⟨g3, 0, none⟩ = some (.int .i64 k) := (blk_cell HXg3.out 0).trans rfl; have cg3_1 : w_3.cell? ⟨g3, 1, none⟩ = some (.slice A1 n1 c1) := (blk_cell HXg3.out 1).trans rfl; have cg3_2 : w_3.cell? ⟨g3, 2, none⟩ = some (.slice A2 n2 c2) := (blk_cell HXg3.out 2).trans rfl; have cg4_0 : w_3.cell? ⟨g4, 0, none⟩ = some (.int .i64 j) := (blk_cell HXg4.out 0).trans rfl; have cg4_1 : w_3.cell? ⟨g4, 1, none⟩ = some (.slice B1 m1 d1) := (blk_cell HXg4.out 1).trans rfl; have cg4_2 : w_3.cell? ⟨g4, 2, none⟩ = some (.slice B2 m2 d2) := (blk_cell HXg4.out 2).trans rfl; have cg5_0 : w_3.cell? ⟨g5, 0, none⟩ = some (.int .u8 fc) := (blk_cell HXg5.out 0).trans rfl; have cg5_1 : w_3.cell? ⟨g5, 1, none⟩ = some (.slice Af fn cf) := (blk_cell HXg5.out 1).trans rfl) | (go_at_call 37; with_reducible refine (awake_calls _).mono ?_; rintro e w_4 ⟨rfl, hb⟩; skip; have HB_ := Aside0.mk (below_step HB.out hb); have HXg3_ := Aside0.mk ((hb.block g3 (blk_lt HXg3.out)).trans HXg3.out); have HXg4_ := Aside0.mk ((hb.block g4 (blk_lt HXg4.out)).trans HXg4.out); have HXg5_ := Aside0.mk ((hb.block g5 (blk_lt HXg5.out)).trans HXg5.out); clear HB HXg3 HXg4 HXg5; have HB := HB_; have HXg3 := HXg3_; have HXg4 := HXg4_; have HXg5 := HXg5_; clear HB_ HXg3_ HXg4_ HXg5_; clear hb; have cg3_0 : w_4.cell? ⟨g3, 0, none⟩ = some (.int .i64 k) := (blk_cell HXg3.out 0).trans rfl; have cg3_1 : w_4.cell? ⟨g3, 1, none⟩ = some (.slice A1 n1 c1) := (blk_cell HXg3.out 1).trans rfl; have cg3_2 : w_4.cell? ⟨g3, 2, none⟩ = some (.slice A2 n2 c2) := (blk_cell HXg3.out 2).trans rfl; have cg4_0 : w_4.cell? ⟨g4, 0, none⟩ = some (.int .i64 j) := (blk_cell HXg4.out 0).trans rfl; have cg4_1 : w_4.cell? ⟨g4, 1, none⟩ = some (.slice B1 m1 d1) := (blk_cell HXg4.out 1).trans rfl; have cg4_2 : w_4.cell? ⟨g4, 2, none⟩ = some (.slice B2 m2 d2) := (blk_cell HXg4.out 2).trans rfl; have cg5_0 : w_4.cell? ⟨g5, 0, none⟩ = some (.int .u8 fc) := (blk_cell HXg5.out 0).trans rfl; have cg5_1 : w_4.cell? ⟨g5, 1, none⟩ = some (.slice Af fn cf) := (blk_cell HXg5.out 1).trans rfl) | (go_at_call 38; with_reducible refine (Large_calls k A1 n1 c1 ns HN1.out A2 n2 c2 ts HN2.out false _ (Kd.C_below HC1.out HB.out) HCC1.out (Kd.C_below HC2.out HB.out) HCC2.out HT2.out HLR.out).mono ?_; rintro e w_5 ⟨rfl, hb⟩; skip; have HB_ := Aside0.mk (below_step HB.out hb); have HXg3_ := Aside0.mk ((hb.block g3 (blk_lt HXg3.out)).trans HXg3.out); have HXg4_ := Aside0.mk ((hb.block g4 (blk_lt HXg4.out)).trans HXg4.out); have HXg5_ := Aside0.mk ((hb.block g5 (blk_lt HXg5.out)).trans HXg5.out); clear HB HXg3 HXg4 HXg5; have HB := HB_; have HXg3 := HXg3_; have HXg4 := HXg4_; have HXg5 := HXg5_; clear HB_ HXg3_ HXg4_ HXg5_; clear hb; have cg3_0 : w_5.cell? ⟨g3, 0, none⟩ = some (.int .i64 k) := (blk_cell HXg3.out 0).trans rfl; have cg3_1 : w_5.cell? ⟨g3, 1, none⟩ = some (.slice A1 n1 c1) := (blk_cell HXg3.out 1).trans rfl; have cg3_2 : w_5.cell? ⟨g3, 2, none⟩ = some (.slice A2 n2 c2) := (blk_cell HXg3.out 2).trans rfl; have cg4_0 : w_5.cell? ⟨g4, 0, none⟩ = some (.int .i64 j) := (blk_cell HXg4.out 0).trans rfl; have cg4_1 : w_5.cell? ⟨g4, 1, none⟩ = some (.slice B1 m1 d1) := (blk_cell HXg4.out 1).trans rfl; have cg4_2 : w_5.cell? ⟨g4, 2, none⟩ = some (.slice B2 m2 d2) := (blk_cell HXg4.out 2).trans rfl; have cg5_0 : w_5.cell? ⟨g5, 0, none⟩ = some (.int .u8 fc) := (blk_cell HXg5.out 0).trans rfl; have cg5_1 : w_5.cell? ⟨g5, 1, none⟩ = some (.slice Af fn cf) := (blk_cell HXg5.out 1).trans rfl) | (go_at_call 38; with_reducible refine (Large_calls j B1 m1 d1 ms HM1.out B2 m2 d2 us HM2.out false _ (Kd.C_below HD1.out HB.out) HDD1.out (Kd.C_below HD2.out HB.out) HDD2.out HU2.out HLQ.out).mono ?_; rintro e w_6 ⟨rfl, hb⟩; skip; have HB_ := Aside0.mk (below_step HB.out hb); have HXg3_ := Aside0.mk ((hb.block g3 (blk_lt HXg3.out)).trans HXg3.out); have HXg4_ := Aside0.mk ((hb.block g4 (blk_lt HXg4.out)).trans HXg4.out); have HXg5_ := Aside0.mk ((hb.block g5 (blk_lt HXg5.out)).trans HXg5.out); clear HB HXg3 HXg4 HXg5; have HB := HB_; have HXg3 := HXg3_; have HXg4 := HXg4_; have HXg5 := HXg5_; clear HB_ HXg3_ HXg4_ HXg5_; clear hb; have cg3_0 : w_6.cell? ⟨g3, 0, none⟩ = some (.int .i64 k) := (blk_cell HXg3.out 0).trans rfl; have cg3_1 : w_6.cell? ⟨g3, 1, none⟩ = some (.slice A1 n1 c1) := (blk_cell HXg3.out 1).trans rfl; have cg3_2 : w_6.cell? ⟨g3, 2, none⟩ = some (.slice A2 n2 c2) := (blk_cell HXg3.out 2).trans rfl; have cg4_0 : w_6.cell? ⟨g4, 0, none⟩ = some (.int .i64 j) := (blk_cell HXg4.out 0).trans rfl; have cg4_1 : w_6.cell? ⟨g4, 1, none⟩ = some (.slice B1 m1 d1) := (blk_cell HXg4.out 1).trans rfl; have cg4_2 : w_6.cell? ⟨g4, 2, none⟩ = some (.slice B2 m2 d2) := (blk_cell HXg4.out 2).trans rfl; have cg5_0 : w_6.cell? ⟨g5, 0, none⟩ = some (.int .u8 fc) := (blk_cell HXg5.out 0).trans rfl; have cg5_1 : w_6.cell? ⟨g5, 1, none⟩ = some (.slice Af fn cf) := (blk_cell HXg5.out 1).trans rfl))
        go_ret
        exact ⟨rfl, HB.out⟩
      have b0 : decide (2000 < (fn : Int)) = false := decide_eq_false (by omega)
      have hsm := largeS_small hlr
      have hsq := largeS_small hlq
      have HL := Aside0.mk (show n1 ≤ 1000000 ∧ n2 ≤ 1000000 by omega)
      have HF2 := Aside0.mk (show fn ≤ 2000 by omega)
      have hfl := frame_short k ns ts
      have hbl := mbytes_short k ns ts
      have hol := of_short (c := fc) HBY.out
      obtain ⟨rr, hrr⟩ : ∃ r, rightS k ns ts = r := ⟨_, rfl⟩
      have HRR := Aside0.mk hrr
      obtain ⟨⟨f0, fb, fe⟩, hf⟩ : ∃ r, frameS k ns ts = r := ⟨_, rfl⟩
      have HF := Aside0.mk hf
      obtain ⟨⟨pb, pe⟩, hmb⟩ : ∃ r, mbytesS k ns ts = r := ⟨_, rfl⟩
      have HMB := Aside0.mk hmb
      obtain ⟨⟨⟨q0, q1, q2⟩, q3⟩, hq⟩ : ∃ r, ofS fc body = r := ⟨_, rfl⟩
      have HQ := Aside0.mk hq
      rw [hf] at hfl
      rw [hmb] at hbl
      rw [hq] at hol
      simp only at hfl hbl hol
      obtain ⟨pn, hpn⟩ : ∃ n, fb.length = n := ⟨_, rfl⟩
      have HPN := Aside0.mk hpn
      obtain ⟨bn, hbn⟩ : ∃ n, pb.length = n := ⟨_, rfl⟩
      have HBN := Aside0.mk hbn
      obtain ⟨x1, hx1⟩ : ∃ n, q1.length = n := ⟨_, rfl⟩
      have HX1 := Aside0.mk hx1
      obtain ⟨x2, hx2⟩ : ∃ n, q2.length = n := ⟨_, rfl⟩
      have HX2 := Aside0.mk hx2
      have HXL := Aside0.mk (show x1 ≤ 1000000 ∧ x2 ≤ 1000000 by omega)
      have HPL := Aside0.mk (show bn ≤ 1000000000 by omega)
      have HP6 := Aside0.mk (show ∀ x ∈ ([⟨f0, fb⟩] : List S41), x.f1.length ≤ 1000000 from fun x hx => by
        rw [List.mem_singleton.1 hx]
        show fb.length ≤ 1000000
        omega)
      obtain ⟨sr, hsr⟩ : ∃ r, decide (k = j ∧ ns = ms ∧ ts = us) = r := ⟨_, rfl⟩
      have HSR := Aside0.mk hsr
      have hz1 : (rr == rr) = true := by simp
      have hz2 : (fe == fe) = true := by simp
      have hz3 : (pe == pe) = true := by simp
      have hz4 : (q3 == q3) = true := by simp
      have hz5 : (sr == sr) = true := by simp
      clear hlr hlq hsm hsq c2000 hn1 hn2 hm1 hm2 hfn hfl hbl hol hrr hf hmb hq hpn hbn hx1 hx2 hsr
      go_enter Try.func13, Try.ntmps13
      go_upto_region 11 with (first | ((with_reducible refine gate_dst (N := 3) rfl ?_); refine box_event ?hg (N := 3) ?hd (cs := #[.int .i64 k, .slice A1 n1 c1, .slice A2 n2 c2]) (t := 67) ?hr ?_; (case hd => rfl); (case hg => rfl); (case hr => first | (go_simp; done) | (go_simp; rfl)); intro g3 hgb w_1 hbox hb; have HXg3 := Aside0.mk hbox; have HB_ := Aside0.mk (below_step HB.out hb); clear HB; have HB := HB_; clear HB_; clear hgb hbox hb; have cg3_0 : w_1.cell? ⟨g3, 0, none⟩ = some (.int .i64 k) := (blk_cell HXg3.out 0).trans rfl; have cg3_1 : w_1.cell? ⟨g3, 1, none⟩ = some (.slice A1 n1 c1) := (blk_cell HXg3.out 1).trans rfl; have cg3_2 : w_1.cell? ⟨g3, 2, none⟩ = some (.slice A2 n2 c2) := (blk_cell HXg3.out 2).trans rfl) | ((with_reducible refine gate_dst (N := 4) rfl ?_); refine box_event ?hg (N := 4) ?hd (cs := #[.int .i64 j, .slice B1 m1 d1, .slice B2 m2 d2]) (t := 67) ?hr ?_; (case hd => rfl); (case hg => rfl); (case hr => first | (go_simp; done) | (go_simp; rfl)); intro g4 hgb w_2 hbox hb; have HXg4 := Aside0.mk hbox; have HB_ := Aside0.mk (below_step HB.out hb); have HXg3_ := Aside0.mk ((hb.block g3 (blk_lt HXg3.out)).trans HXg3.out); clear HB HXg3; have HB := HB_; have HXg3 := HXg3_; clear HB_ HXg3_; clear hgb hbox hb; have cg3_0 : w_2.cell? ⟨g3, 0, none⟩ = some (.int .i64 k) := (blk_cell HXg3.out 0).trans rfl; have cg3_1 : w_2.cell? ⟨g3, 1, none⟩ = some (.slice A1 n1 c1) := (blk_cell HXg3.out 1).trans rfl; have cg3_2 : w_2.cell? ⟨g3, 2, none⟩ = some (.slice A2 n2 c2) := (blk_cell HXg3.out 2).trans rfl; have cg4_0 : w_2.cell? ⟨g4, 0, none⟩ = some (.int .i64 j) := (blk_cell HXg4.out 0).trans rfl; have cg4_1 : w_2.cell? ⟨g4, 1, none⟩ = some (.slice B1 m1 d1) := (blk_cell HXg4.out 1).trans rfl; have cg4_2 : w_2.cell? ⟨g4, 2, none⟩ = some (.slice B2 m2 d2) := (blk_cell HXg4.out 2).trans rfl) | ((with_reducible refine gate_dst (N := 5) rfl ?_); refine box_event ?hg (N := 5) ?hd (cs := #[.int .u8 fc, .slice Af fn cf]) (t := 38) ?hr ?_; (case hd => rfl); (case hg => rfl); (case hr => first | (go_simp; done) | (go_simp; rfl)); intro g5 hgb w_3 hbox hb; have HXg5 := Aside0.mk hbox; have HB_ := Aside0.mk (below_step HB.out hb); have HXg3_ := Aside0.mk ((hb.block g3 (blk_lt HXg3.out)).trans HXg3.out); have HXg4_ := Aside0.mk ((hb.block g4 (blk_lt HXg4.out)).trans HXg4.out); clear HB HXg3 HXg4; have HB := HB_; have HXg3 := HXg3_; have HXg4 := HXg4_; clear HB_ HXg3_ HXg4_; clear hgb hbox hb; have cg3_0 : w_3.cell? ⟨g3, 0, none⟩ = some (.int .i64 k) := (blk_cell HXg3.out 0).trans rfl; have cg3_1 : w_3.cell? ⟨g3, 1, none⟩ = some (.slice A1 n1 c1) := (blk_cell HXg3.out 1).trans rfl; have cg3_2 : w_3.cell? ⟨g3, 2, none⟩ = some (.slice A2 n2 c2) := (blk_cell HXg3.out 2).trans rfl; have cg4_0 : w_3.cell? ⟨g4, 0, none⟩ = some (.int .i64 j) := (blk_cell HXg4.out 0).trans rfl; have cg4_1 : w_3.cell? ⟨g4, 1, none⟩ = some (.slice B1 m1 d1) := (blk_cell HXg4.out 1).trans rfl; have cg4_2 : w_3.cell? ⟨g4, 2, none⟩ = some (.slice B2 m2 d2) := (blk_cell HXg4.out 2).trans rfl; have cg5_0 : w_3.cell? ⟨g5, 0, none⟩ = some (.int .u8 fc) := (blk_cell HXg5.out 0).trans rfl; have cg5_1 : w_3.cell? ⟨g5, 1, none⟩ = some (.slice Af fn cf) := (blk_cell HXg5.out 1).trans rfl) | (go_at_call 37; with_reducible refine (awake_calls _).mono ?_; rintro e w_4 ⟨rfl, hb⟩; skip; have HB_ := Aside0.mk (below_step HB.out hb); have HXg3_ := Aside0.mk ((hb.block g3 (blk_lt HXg3.out)).trans HXg3.out); have HXg4_ := Aside0.mk ((hb.block g4 (blk_lt HXg4.out)).trans HXg4.out); have HXg5_ := Aside0.mk ((hb.block g5 (blk_lt HXg5.out)).trans HXg5.out); clear HB HXg3 HXg4 HXg5; have HB := HB_; have HXg3 := HXg3_; have HXg4 := HXg4_; have HXg5 := HXg5_; clear HB_ HXg3_ HXg4_ HXg5_; clear hb; have cg3_0 : w_4.cell? ⟨g3, 0, none⟩ = some (.int .i64 k) := (blk_cell HXg3.out 0).trans rfl; have cg3_1 : w_4.cell? ⟨g3, 1, none⟩ = some (.slice A1 n1 c1) := (blk_cell HXg3.out 1).trans rfl; have cg3_2 : w_4.cell? ⟨g3, 2, none⟩ = some (.slice A2 n2 c2) := (blk_cell HXg3.out 2).trans rfl; have cg4_0 : w_4.cell? ⟨g4, 0, none⟩ = some (.int .i64 j) := (blk_cell HXg4.out 0).trans rfl; have cg4_1 : w_4.cell? ⟨g4, 1, none⟩ = some (.slice B1 m1 d1) := (blk_cell HXg4.out 1).trans rfl; have cg4_2 : w_4.cell? ⟨g4, 2, none⟩ = some (.slice B2 m2 d2) := (blk_cell HXg4.out 2).trans rfl; have cg5_0 : w_4.cell? ⟨g5, 0, none⟩ = some (.int .u8 fc) := (blk_cell HXg5.out 0).trans rfl; have cg5_1 : w_4.cell? ⟨g5, 1, none⟩ = some (.slice Af fn cf) := (blk_cell HXg5.out 1).trans rfl) | (go_at_call 38; with_reducible refine (Large_calls k A1 n1 c1 ns HN1.out A2 n2 c2 ts HN2.out false _ (Kd.C_below HC1.out HB.out) HCC1.out (Kd.C_below HC2.out HB.out) HCC2.out HT2.out HLR.out).mono ?_; rintro e w_5 ⟨rfl, hb⟩; skip; have HB_ := Aside0.mk (below_step HB.out hb); have HXg3_ := Aside0.mk ((hb.block g3 (blk_lt HXg3.out)).trans HXg3.out); have HXg4_ := Aside0.mk ((hb.block g4 (blk_lt HXg4.out)).trans HXg4.out); have HXg5_ := Aside0.mk ((hb.block g5 (blk_lt HXg5.out)).trans HXg5.out); clear HB HXg3 HXg4 HXg5; have HB := HB_; have HXg3 := HXg3_; have HXg4 := HXg4_; have HXg5 := HXg5_; clear HB_ HXg3_ HXg4_ HXg5_; clear hb; have cg3_0 : w_5.cell? ⟨g3, 0, none⟩ = some (.int .i64 k) := (blk_cell HXg3.out 0).trans rfl; have cg3_1 : w_5.cell? ⟨g3, 1, none⟩ = some (.slice A1 n1 c1) := (blk_cell HXg3.out 1).trans rfl; have cg3_2 : w_5.cell? ⟨g3, 2, none⟩ = some (.slice A2 n2 c2) := (blk_cell HXg3.out 2).trans rfl; have cg4_0 : w_5.cell? ⟨g4, 0, none⟩ = some (.int .i64 j) := (blk_cell HXg4.out 0).trans rfl; have cg4_1 : w_5.cell? ⟨g4, 1, none⟩ = some (.slice B1 m1 d1) := (blk_cell HXg4.out 1).trans rfl; have cg4_2 : w_5.cell? ⟨g4, 2, none⟩ = some (.slice B2 m2 d2) := (blk_cell HXg4.out 2).trans rfl; have cg5_0 : w_5.cell? ⟨g5, 0, none⟩ = some (.int .u8 fc) := (blk_cell HXg5.out 0).trans rfl; have cg5_1 : w_5.cell? ⟨g5, 1, none⟩ = some (.slice Af fn cf) := (blk_cell HXg5.out 1).trans rfl) | (go_at_call 38; with_reducible refine (Large_calls j B1 m1 d1 ms HM1.out B2 m2 d2 us HM2.out false _ (Kd.C_below HD1.out HB.out) HDD1.out (Kd.C_below HD2.out HB.out) HDD2.out HU2.out HLQ.out).mono ?_; rintro e w_6 ⟨rfl, hb⟩; skip; have HB_ := Aside0.mk (below_step HB.out hb); have HXg3_ := Aside0.mk ((hb.block g3 (blk_lt HXg3.out)).trans HXg3.out); have HXg4_ := Aside0.mk ((hb.block g4 (blk_lt HXg4.out)).trans HXg4.out); have HXg5_ := Aside0.mk ((hb.block g5 (blk_lt HXg5.out)).trans HXg5.out); clear HB HXg3 HXg4 HXg5; have HB := HB_; have HXg3 := HXg3_; have HXg4 := HXg4_; have HXg5 := HXg5_; clear HB_ HXg3_ HXg4_ HXg5_; clear hb; have cg3_0 : w_6.cell? ⟨g3, 0, none⟩ = some (.int .i64 k) := (blk_cell HXg3.out 0).trans rfl; have cg3_1 : w_6.cell? ⟨g3, 1, none⟩ = some (.slice A1 n1 c1) := (blk_cell HXg3.out 1).trans rfl; have cg3_2 : w_6.cell? ⟨g3, 2, none⟩ = some (.slice A2 n2 c2) := (blk_cell HXg3.out 2).trans rfl; have cg4_0 : w_6.cell? ⟨g4, 0, none⟩ = some (.int .i64 j) := (blk_cell HXg4.out 0).trans rfl; have cg4_1 : w_6.cell? ⟨g4, 1, none⟩ = some (.slice B1 m1 d1) := (blk_cell HXg4.out 1).trans rfl; have cg4_2 : w_6.cell? ⟨g4, 2, none⟩ = some (.slice B2 m2 d2) := (blk_cell HXg4.out 2).trans rfl; have cg5_0 : w_6.cell? ⟨g5, 0, none⟩ = some (.int .u8 fc) := (blk_cell HXg5.out 0).trans rfl; have cg5_1 : w_6.cell? ⟨g5, 1, none⟩ = some (.slice Af fn cf) := (blk_cell HXg5.out 1).trans rfl) | (go_at_call 39; with_reducible refine (Frame_calls k A1 n1 c1 ns HN1.out A2 n2 c2 ts HN2.out f0 fb fe _ (Kd.C_below HC1.out HB.out) HCC1.out (Kd.C_below HC2.out HB.out) HCC2.out HWF.out HF.out).mono ?_; rintro e w_7 ⟨v, rfl, ho, hb⟩; obtain ⟨Ap, cp, rfl⟩ := Kd.R_slice ho; rw [HPN.out] at ho ⊢; skip; have HB_ := Aside0.mk (below_step HB.out hb); have HXg3_ := Aside0.mk ((hb.block g3 (blk_lt HXg3.out)).trans HXg3.out); have HXg4_ := Aside0.mk ((hb.block g4 (blk_lt HXg4.out)).trans HXg4.out); have HXg5_ := Aside0.mk ((hb.block g5 (blk_lt HXg5.out)).trans HXg5.out); clear HB HXg3 HXg4 HXg5; have HB := HB_; have HXg3 := HXg3_; have HXg4 := HXg4_; have HXg5 := HXg5_; clear HB_ HXg3_ HXg4_ HXg5_; have HAp := Aside0.mk (show Kd.C (Kd.int .u8) w_7 Ap pn fb from R_at ho); have HApC := Aside0.mk (show pn ≤ cp from (Kd.R_reads' ho).2.1); clear hb; have cg3_0 : w_7.cell? ⟨g3, 0, none⟩ = some (.int .i64 k) := (blk_cell HXg3.out 0).trans rfl; have cg3_1 : w_7.cell? ⟨g3, 1, none⟩ = some (.slice A1 n1 c1) := (blk_cell HXg3.out 1).trans rfl; have cg3_2 : w_7.cell? ⟨g3, 2, none⟩ = some (.slice A2 n2 c2) := (blk_cell HXg3.out 2).trans rfl; have cg4_0 : w_7.cell? ⟨g4, 0, none⟩ = some (.int .i64 j) := (blk_cell HXg4.out 0).trans rfl; have cg4_1 : w_7.cell? ⟨g4, 1, none⟩ = some (.slice B1 m1 d1) := (blk_cell HXg4.out 1).trans rfl; have cg4_2 : w_7.cell? ⟨g4, 2, none⟩ = some (.slice B2 m2 d2) := (blk_cell HXg4.out 2).trans rfl; have cg5_0 : w_7.cell? ⟨g5, 0, none⟩ = some (.int .u8 fc) := (blk_cell HXg5.out 0).trans rfl; have cg5_1 : w_7.cell? ⟨g5, 1, none⟩ = some (.slice Af fn cf) := (blk_cell HXg5.out 1).trans rfl) | ((with_reducible refine gate_dst (N := 7) rfl ?_); refine box_event ?hg (N := 7) ?hd (cs := #[.int .u8 0, .slice none 0 0]) (t := 38) ?hr ?_; (case hd => rfl); (case hg => rfl); (case hr => first | (go_simp; done) | (go_simp; rfl)); intro g7 hgb w_8 hbox hb; have HZ_ := Aside0.mk hbox; have HGE_ := Aside0.mk (Nat.le_of_eq hgb.symm); have HBa_ := Aside0.mk hb; clear hgb hb hbox) | ((with_reducible refine gate_ (.store 38 (.tmp 7) (.tmp 36)) rfl ?_); refine store_event 38 (.tmp 7) (.tmp 36) rfl rfl rfl (g := g7) #[.int .u8 0, .slice none 0 0] #[.int .u8 f0, .slice Ap pn cp] [.int .u8 f0, .slice Ap pn cp] rfl rfl rfl size38 HZ_.out (by simp) (by rfl) rfl ?_; intro w_9 hbox hs; have hb := hs.below HBa_.out HGE_.out; have HB_ := Aside0.mk (below_step HB.out hb); have HXg3_ := Aside0.mk ((hb.block g3 (blk_lt HXg3.out)).trans HXg3.out); have HXg4_ := Aside0.mk ((hb.block g4 (blk_lt HXg4.out)).trans HXg4.out); have HXg5_ := Aside0.mk ((hb.block g5 (blk_lt HXg5.out)).trans HXg5.out); have HAp_ := Aside0.mk (Kd.C_below HAp.out hb); clear HB HXg3 HXg4 HXg5 HAp; have HB := HB_; have HXg3 := HXg3_; have HXg4 := HXg4_; have HXg5 := HXg5_; have HAp := HAp_; clear HB_ HXg3_ HXg4_ HXg5_ HAp_; have HXg7 := Aside0.mk hbox; clear hbox hs hb HZ_ HGE_ HBa_; have cg3_0 : w_9.cell? ⟨g3, 0, none⟩ = some (.int .i64 k) := (blk_cell HXg3.out 0).trans rfl; have cg3_1 : w_9.cell? ⟨g3, 1, none⟩ = some (.slice A1 n1 c1) := (blk_cell HXg3.out 1).trans rfl; have cg3_2 : w_9.cell? ⟨g3, 2, none⟩ = some (.slice A2 n2 c2) := (blk_cell HXg3.out 2).trans rfl; have cg4_0 : w_9.cell? ⟨g4, 0, none⟩ = some (.int .i64 j) := (blk_cell HXg4.out 0).trans rfl; have cg4_1 : w_9.cell? ⟨g4, 1, none⟩ = some (.slice B1 m1 d1) := (blk_cell HXg4.out 1).trans rfl; have cg4_2 : w_9.cell? ⟨g4, 2, none⟩ = some (.slice B2 m2 d2) := (blk_cell HXg4.out 2).trans rfl; have cg5_0 : w_9.cell? ⟨g5, 0, none⟩ = some (.int .u8 fc) := (blk_cell HXg5.out 0).trans rfl; have cg5_1 : w_9.cell? ⟨g5, 1, none⟩ = some (.slice Af fn cf) := (blk_cell HXg5.out 1).trans rfl; have cg7_0 : w_9.cell? ⟨g7, 0, none⟩ = some (.int .u8 f0) := (blk_cell HXg7.out 0).trans rfl; have cg7_1 : w_9.cell? ⟨g7, 1, none⟩ = some (.slice Ap pn cp) := (blk_cell HXg7.out 1).trans rfl) | (go_at_call 44; with_reducible refine (RFrame_calls k A1 n1 c1 ns HN1.out A2 n2 c2 ts HN2.out f0 fb fe _ (Kd.C_below HC1.out HB.out) HCC1.out (Kd.C_below HC2.out HB.out) HCC2.out HL.out.2 HWF.out HF.out).mono ?_; rintro e w_10 ⟨v, rfl, ho, hb⟩; obtain ⟨Ar, cr, rfl⟩ := Kd.R_slice ho; rw [HPN.out] at ho ⊢; skip; have HB_ := Aside0.mk (below_step HB.out hb); have HXg3_ := Aside0.mk ((hb.block g3 (blk_lt HXg3.out)).trans HXg3.out); have HXg4_ := Aside0.mk ((hb.block g4 (blk_lt HXg4.out)).trans HXg4.out); have HXg5_ := Aside0.mk ((hb.block g5 (blk_lt HXg5.out)).trans HXg5.out); have HAp_ := Aside0.mk (Kd.C_below HAp.out hb); have HXg7_ := Aside0.mk ((hb.block g7 (blk_lt HXg7.out)).trans HXg7.out); clear HB HXg3 HXg4 HXg5 HAp HXg7; have HB := HB_; have HXg3 := HXg3_; have HXg4 := HXg4_; have HXg5 := HXg5_; have HAp := HAp_; have HXg7 := HXg7_; clear HB_ HXg3_ HXg4_ HXg5_ HAp_ HXg7_; have HAr := Aside0.mk (show Kd.C (Kd.int .u8) w_10 Ar pn fb from R_at ho); have HArC := Aside0.mk (show pn ≤ cr from (Kd.R_reads' ho).2.1); clear hb; have cg3_0 : w_10.cell? ⟨g3, 0, none⟩ = some (.int .i64 k) := (blk_cell HXg3.out 0).trans rfl; have cg3_1 : w_10.cell? ⟨g3, 1, none⟩ = some (.slice A1 n1 c1) := (blk_cell HXg3.out 1).trans rfl; have cg3_2 : w_10.cell? ⟨g3, 2, none⟩ = some (.slice A2 n2 c2) := (blk_cell HXg3.out 2).trans rfl; have cg4_0 : w_10.cell? ⟨g4, 0, none⟩ = some (.int .i64 j) := (blk_cell HXg4.out 0).trans rfl; have cg4_1 : w_10.cell? ⟨g4, 1, none⟩ = some (.slice B1 m1 d1) := (blk_cell HXg4.out 1).trans rfl; have cg4_2 : w_10.cell? ⟨g4, 2, none⟩ = some (.slice B2 m2 d2) := (blk_cell HXg4.out 2).trans rfl; have cg5_0 : w_10.cell? ⟨g5, 0, none⟩ = some (.int .u8 fc) := (blk_cell HXg5.out 0).trans rfl; have cg5_1 : w_10.cell? ⟨g5, 1, none⟩ = some (.slice Af fn cf) := (blk_cell HXg5.out 1).trans rfl; have cg7_0 : w_10.cell? ⟨g7, 0, none⟩ = some (.int .u8 f0) := (blk_cell HXg7.out 0).trans rfl; have cg7_1 : w_10.cell? ⟨g7, 1, none⟩ = some (.slice Ap pn cp) := (blk_cell HXg7.out 1).trans rfl) | ((with_reducible refine gate_dst (N := 9) rfl ?_); refine box_event ?hg (N := 9) ?hd (cs := #[.int .u8 0, .slice none 0 0]) (t := 41) ?hr ?_; (case hd => rfl); (case hg => rfl); (case hr => first | (go_simp; done) | (go_simp; rfl)); intro g9 hgb w_11 hbox hb; have HZ_ := Aside0.mk hbox; have HGE_ := Aside0.mk (Nat.le_of_eq hgb.symm); have HBa_ := Aside0.mk hb; clear hgb hb hbox) | ((with_reducible refine gate_ (.store 41 (.tmp 9) (.tmp 41)) rfl ?_); refine store_event 41 (.tmp 9) (.tmp 41) rfl rfl rfl (g := g9) #[.int .u8 0, .slice none 0 0] #[.int .u8 f0, .slice Ar pn cr] [.int .u8 f0, .slice Ar pn cr] rfl rfl rfl size41 HZ_.out (by simp) (by rfl) rfl ?_; intro w_12 hbox hs; have hb := hs.below HBa_.out HGE_.out; have HB_ := Aside0.mk (below_step HB.out hb); have HXg3_ := Aside0.mk ((hb.block g3 (blk_lt HXg3.out)).trans HXg3.out); have HXg4_ := Aside0.mk ((hb.block g4 (blk_lt HXg4.out)).trans HXg4.out); have HXg5_ := Aside0.mk ((hb.block g5 (blk_lt HXg5.out)).trans HXg5.out); have HAp_ := Aside0.mk (Kd.C_below HAp.out hb); have HXg7_ := Aside0.mk ((hb.block g7 (blk_lt HXg7.out)).trans HXg7.out); have HAr_ := Aside0.mk (Kd.C_below HAr.out hb); clear HB HXg3 HXg4 HXg5 HAp HXg7 HAr; have HB := HB_; have HXg3 := HXg3_; have HXg4 := HXg4_; have HXg5 := HXg5_; have HAp := HAp_; have HXg7 := HXg7_; have HAr := HAr_; clear HB_ HXg3_ HXg4_ HXg5_ HAp_ HXg7_ HAr_; have HXg9 := Aside0.mk hbox; clear hbox hs hb HZ_ HGE_ HBa_; have cg3_0 : w_12.cell? ⟨g3, 0, none⟩ = some (.int .i64 k) := (blk_cell HXg3.out 0).trans rfl; have cg3_1 : w_12.cell? ⟨g3, 1, none⟩ = some (.slice A1 n1 c1) := (blk_cell HXg3.out 1).trans rfl; have cg3_2 : w_12.cell? ⟨g3, 2, none⟩ = some (.slice A2 n2 c2) := (blk_cell HXg3.out 2).trans rfl; have cg4_0 : w_12.cell? ⟨g4, 0, none⟩ = some (.int .i64 j) := (blk_cell HXg4.out 0).trans rfl; have cg4_1 : w_12.cell? ⟨g4, 1, none⟩ = some (.slice B1 m1 d1) := (blk_cell HXg4.out 1).trans rfl; have cg4_2 : w_12.cell? ⟨g4, 2, none⟩ = some (.slice B2 m2 d2) := (blk_cell HXg4.out 2).trans rfl; have cg5_0 : w_12.cell? ⟨g5, 0, none⟩ = some (.int .u8 fc) := (blk_cell HXg5.out 0).trans rfl; have cg5_1 : w_12.cell? ⟨g5, 1, none⟩ = some (.slice Af fn cf) := (blk_cell HXg5.out 1).trans rfl; have cg7_0 : w_12.cell? ⟨g7, 0, none⟩ = some (.int .u8 f0) := (blk_cell HXg7.out 0).trans rfl; have cg7_1 : w_12.cell? ⟨g7, 1, none⟩ = some (.slice Ap pn cp) := (blk_cell HXg7.out 1).trans rfl; have cg9_0 : w_12.cell? ⟨g9, 0, none⟩ = some (.int .u8 f0) := (blk_cell HXg9.out 0).trans rfl; have cg9_1 : w_12.cell? ⟨g9, 1, none⟩ = some (.slice Ar pn cr) := (blk_cell HXg9.out 1).trans rfl) | (go_at_call 43; with_reducible refine (MBytes_calls k A1 n1 c1 ns HN1.out A2 n2 c2 ts HN2.out pb pe _ (Kd.C_below HC1.out HB.out) HCC1.out (Kd.C_below HC2.out HB.out) HCC2.out HWF.out HMB.out).mono ?_; rintro e w_13 ⟨v, rfl, ho, hb⟩; obtain ⟨Ab, cb, rfl⟩ := Kd.R_slice ho; rw [HBN.out] at ho ⊢; skip; have HB_ := Aside0.mk (below_step HB.out hb); have HXg3_ := Aside0.mk ((hb.block g3 (blk_lt HXg3.out)).trans HXg3.out); have HXg4_ := Aside0.mk ((hb.block g4 (blk_lt HXg4.out)).trans HXg4.out); have HXg5_ := Aside0.mk ((hb.block g5 (blk_lt HXg5.out)).trans HXg5.out); have HAp_ := Aside0.mk (Kd.C_below HAp.out hb); have HXg7_ := Aside0.mk ((hb.block g7 (blk_lt HXg7.out)).trans HXg7.out); have HAr_ := Aside0.mk (Kd.C_below HAr.out hb); have HXg9_ := Aside0.mk ((hb.block g9 (blk_lt HXg9.out)).trans HXg9.out); clear HB HXg3 HXg4 HXg5 HAp HXg7 HAr HXg9; have HB := HB_; have HXg3 := HXg3_; have HXg4 := HXg4_; have HXg5 := HXg5_; have HAp := HAp_; have HXg7 := HXg7_; have HAr := HAr_; have HXg9 := HXg9_; clear HB_ HXg3_ HXg4_ HXg5_ HAp_ HXg7_ HAr_ HXg9_; have HAb := Aside0.mk (show Kd.C (Kd.int .u8) w_13 Ab bn pb from R_at ho); have HAbC := Aside0.mk (show bn ≤ cb from (Kd.R_reads' ho).2.1); clear hb; have cg3_0 : w_13.cell? ⟨g3, 0, none⟩ = some (.int .i64 k) := (blk_cell HXg3.out 0).trans rfl; have cg3_1 : w_13.cell? ⟨g3, 1, none⟩ = some (.slice A1 n1 c1) := (blk_cell HXg3.out 1).trans rfl; have cg3_2 : w_13.cell? ⟨g3, 2, none⟩ = some (.slice A2 n2 c2) := (blk_cell HXg3.out 2).trans rfl; have cg4_0 : w_13.cell? ⟨g4, 0, none⟩ = some (.int .i64 j) := (blk_cell HXg4.out 0).trans rfl; have cg4_1 : w_13.cell? ⟨g4, 1, none⟩ = some (.slice B1 m1 d1) := (blk_cell HXg4.out 1).trans rfl; have cg4_2 : w_13.cell? ⟨g4, 2, none⟩ = some (.slice B2 m2 d2) := (blk_cell HXg4.out 2).trans rfl; have cg5_0 : w_13.cell? ⟨g5, 0, none⟩ = some (.int .u8 fc) := (blk_cell HXg5.out 0).trans rfl; have cg5_1 : w_13.cell? ⟨g5, 1, none⟩ = some (.slice Af fn cf) := (blk_cell HXg5.out 1).trans rfl; have cg7_0 : w_13.cell? ⟨g7, 0, none⟩ = some (.int .u8 f0) := (blk_cell HXg7.out 0).trans rfl; have cg7_1 : w_13.cell? ⟨g7, 1, none⟩ = some (.slice Ap pn cp) := (blk_cell HXg7.out 1).trans rfl; have cg9_0 : w_13.cell? ⟨g9, 0, none⟩ = some (.int .u8 f0) := (blk_cell HXg9.out 0).trans rfl; have cg9_1 : w_13.cell? ⟨g9, 1, none⟩ = some (.slice Ar pn cr) := (blk_cell HXg9.out 1).trans rfl) | (go_at_call 45; with_reducible refine (RBytes_calls k A1 n1 c1 ns HN1.out A2 n2 c2 ts HN2.out pb pe _ (Kd.C_below HC1.out HB.out) HCC1.out (Kd.C_below HC2.out HB.out) HCC2.out HL.out.2 HWF.out HMB.out).mono ?_; rintro e w_14 ⟨v, rfl, ho, hb⟩; obtain ⟨Ac, cc, rfl⟩ := Kd.R_slice ho; rw [HBN.out] at ho ⊢; skip; have HB_ := Aside0.mk (below_step HB.out hb); have HXg3_ := Aside0.mk ((hb.block g3 (blk_lt HXg3.out)).trans HXg3.out); have HXg4_ := Aside0.mk ((hb.block g4 (blk_lt HXg4.out)).trans HXg4.out); have HXg5_ := Aside0.mk ((hb.block g5 (blk_lt HXg5.out)).trans HXg5.out); have HAp_ := Aside0.mk (Kd.C_below HAp.out hb); have HXg7_ := Aside0.mk ((hb.block g7 (blk_lt HXg7.out)).trans HXg7.out); have HAr_ := Aside0.mk (Kd.C_below HAr.out hb); have HXg9_ := Aside0.mk ((hb.block g9 (blk_lt HXg9.out)).trans HXg9.out); have HAb_ := Aside0.mk (Kd.C_below HAb.out hb); clear HB HXg3 HXg4 HXg5 HAp HXg7 HAr HXg9 HAb; have HB := HB_; have HXg3 := HXg3_; have HXg4 := HXg4_; have HXg5 := HXg5_; have HAp := HAp_; have HXg7 := HXg7_; have HAr := HAr_; have HXg9 := HXg9_; have HAb := HAb_; clear HB_ HXg3_ HXg4_ HXg5_ HAp_ HXg7_ HAr_ HXg9_ HAb_; have HAc := Aside0.mk (show Kd.C (Kd.int .u8) w_14 Ac bn pb from R_at ho); have HAcC := Aside0.mk (show bn ≤ cc from (Kd.R_reads' ho).2.1); clear hb; have cg3_0 : w_14.cell? ⟨g3, 0, none⟩ = some (.int .i64 k) := (blk_cell HXg3.out 0).trans rfl; have cg3_1 : w_14.cell? ⟨g3, 1, none⟩ = some (.slice A1 n1 c1) := (blk_cell HXg3.out 1).trans rfl; have cg3_2 : w_14.cell? ⟨g3, 2, none⟩ = some (.slice A2 n2 c2) := (blk_cell HXg3.out 2).trans rfl; have cg4_0 : w_14.cell? ⟨g4, 0, none⟩ = some (.int .i64 j) := (blk_cell HXg4.out 0).trans rfl; have cg4_1 : w_14.cell? ⟨g4, 1, none⟩ = some (.slice B1 m1 d1) := (blk_cell HXg4.out 1).trans rfl; have cg4_2 : w_14.cell? ⟨g4, 2, none⟩ = some (.slice B2 m2 d2) := (blk_cell HXg4.out 2).trans rfl; have cg5_0 : w_14.cell? ⟨g5, 0, none⟩ = some (.int .u8 fc) := (blk_cell HXg5.out 0).trans rfl; have cg5_1 : w_14.cell? ⟨g5, 1, none⟩ = some (.slice Af fn cf) := (blk_cell HXg5.out 1).trans rfl; have cg7_0 : w_14.cell? ⟨g7, 0, none⟩ = some (.int .u8 f0) := (blk_cell HXg7.out 0).trans rfl; have cg7_1 : w_14.cell? ⟨g7, 1, none⟩ = some (.slice Ap pn cp) := (blk_cell HXg7.out 1).trans rfl; have cg9_0 : w_14.cell? ⟨g9, 0, none⟩ = some (.int .u8 f0) := (blk_cell HXg9.out 0).trans rfl; have cg9_1 : w_14.cell? ⟨g9, 1, none⟩ = some (.slice Ar pn cr) := (blk_cell HXg9.out 1).trans rfl) | (go_at_call 41; with_reducible refine (Of_calls fc Af fn cf body HFN.out q0 q1 q2 q3 _ (Kd.C_below HCF.out HB.out) HCCF.out HBY.out HFC.out HQ.out).mono ?_; rintro e w_15 ⟨v1, v2, rfl, ho1, ho2, hb⟩; obtain ⟨E1, e1, rfl⟩ := Kd.R_slice ho1; obtain ⟨E2, e2, rfl⟩ := Kd.R_slice ho2; rw [HX1.out] at ho1 ⊢; rw [HX2.out] at ho2 ⊢; skip; have HB_ := Aside0.mk (below_step HB.out hb); have HXg3_ := Aside0.mk ((hb.block g3 (blk_lt HXg3.out)).trans HXg3.out); have HXg4_ := Aside0.mk ((hb.block g4 (blk_lt HXg4.out)).trans HXg4.out); have HXg5_ := Aside0.mk ((hb.block g5 (blk_lt HXg5.out)).trans HXg5.out); have HAp_ := Aside0.mk (Kd.C_below HAp.out hb); have HXg7_ := Aside0.mk ((hb.block g7 (blk_lt HXg7.out)).trans HXg7.out); have HAr_ := Aside0.mk (Kd.C_below HAr.out hb); have HXg9_ := Aside0.mk ((hb.block g9 (blk_lt HXg9.out)).trans HXg9.out); have HAb_ := Aside0.mk (Kd.C_below HAb.out hb); have HAc_ := Aside0.mk (Kd.C_below HAc.out hb); clear HB HXg3 HXg4 HXg5 HAp HXg7 HAr HXg9 HAb HAc; have HB := HB_; have HXg3 := HXg3_; have HXg4 := HXg4_; have HXg5 := HXg5_; have HAp := HAp_; have HXg7 := HXg7_; have HAr := HAr_; have HXg9 := HXg9_; have HAb := HAb_; have HAc := HAc_; clear HB_ HXg3_ HXg4_ HXg5_ HAp_ HXg7_ HAr_ HXg9_ HAb_ HAc_; have HE1 := Aside0.mk (show Kd.C (Kd.int .u64) w_15 E1 x1 q1 from R_at ho1); have HE1C := Aside0.mk (show x1 ≤ e1 from (Kd.R_reads' ho1).2.1); have HE2 := Aside0.mk (show Kd.C Kd.string w_15 E2 x2 q2 from R_at ho2); have HE2C := Aside0.mk (show x2 ≤ e2 from (Kd.R_reads' ho2).2.1); clear hb; have cg3_0 : w_15.cell? ⟨g3, 0, none⟩ = some (.int .i64 k) := (blk_cell HXg3.out 0).trans rfl; have cg3_1 : w_15.cell? ⟨g3, 1, none⟩ = some (.slice A1 n1 c1) := (blk_cell HXg3.out 1).trans rfl; have cg3_2 : w_15.cell? ⟨g3, 2, none⟩ = some (.slice A2 n2 c2) := (blk_cell HXg3.out 2).trans rfl; have cg4_0 : w_15.cell? ⟨g4, 0, none⟩ = some (.int .i64 j) := (blk_cell HXg4.out 0).trans rfl; have cg4_1 : w_15.cell? ⟨g4, 1, none⟩ = some (.slice B1 m1 d1) := (blk_cell HXg4.out 1).trans rfl; have cg4_2 : w_15.cell? ⟨g4, 2, none⟩ = some (.slice B2 m2 d2) := (blk_cell HXg4.out 2).trans rfl; have cg5_0 : w_15.cell? ⟨g5, 0, none⟩ = some (.int .u8 fc) := (blk_cell HXg5.out 0).trans rfl; have cg5_1 : w_15.cell? ⟨g5, 1, none⟩ = some (.slice Af fn cf) := (blk_cell HXg5.out 1).trans rfl; have cg7_0 : w_15.cell? ⟨g7, 0, none⟩ = some (.int .u8 f0) := (blk_cell HXg7.out 0).trans rfl; have cg7_1 : w_15.cell? ⟨g7, 1, none⟩ = some (.slice Ap pn cp) := (blk_cell HXg7.out 1).trans rfl; have cg9_0 : w_15.cell? ⟨g9, 0, none⟩ = some (.int .u8 f0) := (blk_cell HXg9.out 0).trans rfl; have cg9_1 : w_15.cell? ⟨g9, 1, none⟩ = some (.slice Ar pn cr) := (blk_cell HXg9.out 1).trans rfl) | ((with_reducible refine gate_dst (N := 15) rfl ?_); refine box_event ?hg (N := 15) ?hd (cs := #[.int .i64 0, .slice none 0 0, .slice none 0 0]) (t := 67) ?hr ?_; (case hd => rfl); (case hg => rfl); (case hr => first | (go_simp; done) | (go_simp; rfl)); intro g15 hgb w_16 hbox hb; have HZ_ := Aside0.mk hbox; have HGE_ := Aside0.mk (Nat.le_of_eq hgb.symm); have HBa_ := Aside0.mk hb; clear hgb hb hbox) | ((with_reducible refine gate_ (.store 67 (.tmp 15) (.tmp 56)) rfl ?_); refine store_event 67 (.tmp 15) (.tmp 56) rfl rfl rfl (g := g15) #[.int .i64 0, .slice none 0 0, .slice none 0 0] #[.int .i64 q0, .slice E1 x1 e1, .slice E2 x2 e2] [.int .i64 q0, .slice E1 x1 e1, .slice E2 x2 e2] rfl rfl rfl size67 HZ_.out (by simp) (by rfl) rfl ?_; intro w_17 hbox hs; have hb := hs.below HBa_.out HGE_.out; have HB_ := Aside0.mk (below_step HB.out hb); have HXg3_ := Aside0.mk ((hb.block g3 (blk_lt HXg3.out)).trans HXg3.out); have HXg4_ := Aside0.mk ((hb.block g4 (blk_lt HXg4.out)).trans HXg4.out); have HXg5_ := Aside0.mk ((hb.block g5 (blk_lt HXg5.out)).trans HXg5.out); have HAp_ := Aside0.mk (Kd.C_below HAp.out hb); have HXg7_ := Aside0.mk ((hb.block g7 (blk_lt HXg7.out)).trans HXg7.out); have HAr_ := Aside0.mk (Kd.C_below HAr.out hb); have HXg9_ := Aside0.mk ((hb.block g9 (blk_lt HXg9.out)).trans HXg9.out); have HAb_ := Aside0.mk (Kd.C_below HAb.out hb); have HAc_ := Aside0.mk (Kd.C_below HAc.out hb); have HE1_ := Aside0.mk (Kd.C_below HE1.out hb); have HE2_ := Aside0.mk (Kd.C_below HE2.out hb); clear HB HXg3 HXg4 HXg5 HAp HXg7 HAr HXg9 HAb HAc HE1 HE2; have HB := HB_; have HXg3 := HXg3_; have HXg4 := HXg4_; have HXg5 := HXg5_; have HAp := HAp_; have HXg7 := HXg7_; have HAr := HAr_; have HXg9 := HXg9_; have HAb := HAb_; have HAc := HAc_; have HE1 := HE1_; have HE2 := HE2_; clear HB_ HXg3_ HXg4_ HXg5_ HAp_ HXg7_ HAr_ HXg9_ HAb_ HAc_ HE1_ HE2_; have HXg15 := Aside0.mk hbox; clear hbox hs hb HZ_ HGE_ HBa_; have cg3_0 : w_17.cell? ⟨g3, 0, none⟩ = some (.int .i64 k) := (blk_cell HXg3.out 0).trans rfl; have cg3_1 : w_17.cell? ⟨g3, 1, none⟩ = some (.slice A1 n1 c1) := (blk_cell HXg3.out 1).trans rfl; have cg3_2 : w_17.cell? ⟨g3, 2, none⟩ = some (.slice A2 n2 c2) := (blk_cell HXg3.out 2).trans rfl; have cg4_0 : w_17.cell? ⟨g4, 0, none⟩ = some (.int .i64 j) := (blk_cell HXg4.out 0).trans rfl; have cg4_1 : w_17.cell? ⟨g4, 1, none⟩ = some (.slice B1 m1 d1) := (blk_cell HXg4.out 1).trans rfl; have cg4_2 : w_17.cell? ⟨g4, 2, none⟩ = some (.slice B2 m2 d2) := (blk_cell HXg4.out 2).trans rfl; have cg5_0 : w_17.cell? ⟨g5, 0, none⟩ = some (.int .u8 fc) := (blk_cell HXg5.out 0).trans rfl; have cg5_1 : w_17.cell? ⟨g5, 1, none⟩ = some (.slice Af fn cf) := (blk_cell HXg5.out 1).trans rfl; have cg7_0 : w_17.cell? ⟨g7, 0, none⟩ = some (.int .u8 f0) := (blk_cell HXg7.out 0).trans rfl; have cg7_1 : w_17.cell? ⟨g7, 1, none⟩ = some (.slice Ap pn cp) := (blk_cell HXg7.out 1).trans rfl; have cg9_0 : w_17.cell? ⟨g9, 0, none⟩ = some (.int .u8 f0) := (blk_cell HXg9.out 0).trans rfl; have cg9_1 : w_17.cell? ⟨g9, 1, none⟩ = some (.slice Ar pn cr) := (blk_cell HXg9.out 1).trans rfl; have cg15_0 : w_17.cell? ⟨g15, 0, none⟩ = some (.int .i64 q0) := (blk_cell HXg15.out 0).trans rfl; have cg15_1 : w_17.cell? ⟨g15, 1, none⟩ = some (.slice E1 x1 e1) := (blk_cell HXg15.out 1).trans rfl; have cg15_2 : w_17.cell? ⟨g15, 2, none⟩ = some (.slice E2 x2 e2) := (blk_cell HXg15.out 2).trans rfl) | (go_at_call 46; with_reducible refine (ROf_calls fc Af fn cf body HFN.out q0 q1 q2 q3 _ (Kd.C_below HCF.out HB.out) HCCF.out HBY.out HFC.out HF2.out HQ.out).mono ?_; rintro e w_18 ⟨v1, v2, rfl, ho1, ho2, hb⟩; obtain ⟨G1, h1, rfl⟩ := Kd.R_slice ho1; obtain ⟨G2, h2, rfl⟩ := Kd.R_slice ho2; rw [HX1.out] at ho1 ⊢; rw [HX2.out] at ho2 ⊢; skip; have HB_ := Aside0.mk (below_step HB.out hb); have HXg3_ := Aside0.mk ((hb.block g3 (blk_lt HXg3.out)).trans HXg3.out); have HXg4_ := Aside0.mk ((hb.block g4 (blk_lt HXg4.out)).trans HXg4.out); have HXg5_ := Aside0.mk ((hb.block g5 (blk_lt HXg5.out)).trans HXg5.out); have HAp_ := Aside0.mk (Kd.C_below HAp.out hb); have HXg7_ := Aside0.mk ((hb.block g7 (blk_lt HXg7.out)).trans HXg7.out); have HAr_ := Aside0.mk (Kd.C_below HAr.out hb); have HXg9_ := Aside0.mk ((hb.block g9 (blk_lt HXg9.out)).trans HXg9.out); have HAb_ := Aside0.mk (Kd.C_below HAb.out hb); have HAc_ := Aside0.mk (Kd.C_below HAc.out hb); have HE1_ := Aside0.mk (Kd.C_below HE1.out hb); have HE2_ := Aside0.mk (Kd.C_below HE2.out hb); have HXg15_ := Aside0.mk ((hb.block g15 (blk_lt HXg15.out)).trans HXg15.out); clear HB HXg3 HXg4 HXg5 HAp HXg7 HAr HXg9 HAb HAc HE1 HE2 HXg15; have HB := HB_; have HXg3 := HXg3_; have HXg4 := HXg4_; have HXg5 := HXg5_; have HAp := HAp_; have HXg7 := HXg7_; have HAr := HAr_; have HXg9 := HXg9_; have HAb := HAb_; have HAc := HAc_; have HE1 := HE1_; have HE2 := HE2_; have HXg15 := HXg15_; clear HB_ HXg3_ HXg4_ HXg5_ HAp_ HXg7_ HAr_ HXg9_ HAb_ HAc_ HE1_ HE2_ HXg15_; have HG1 := Aside0.mk (show Kd.C (Kd.int .u64) w_18 G1 x1 q1 from R_at ho1); have HG1C := Aside0.mk (show x1 ≤ h1 from (Kd.R_reads' ho1).2.1); have HG2 := Aside0.mk (show Kd.C Kd.string w_18 G2 x2 q2 from R_at ho2); have HG2C := Aside0.mk (show x2 ≤ h2 from (Kd.R_reads' ho2).2.1); clear hb; have cg3_0 : w_18.cell? ⟨g3, 0, none⟩ = some (.int .i64 k) := (blk_cell HXg3.out 0).trans rfl; have cg3_1 : w_18.cell? ⟨g3, 1, none⟩ = some (.slice A1 n1 c1) := (blk_cell HXg3.out 1).trans rfl; have cg3_2 : w_18.cell? ⟨g3, 2, none⟩ = some (.slice A2 n2 c2) := (blk_cell HXg3.out 2).trans rfl; have cg4_0 : w_18.cell? ⟨g4, 0, none⟩ = some (.int .i64 j) := (blk_cell HXg4.out 0).trans rfl; have cg4_1 : w_18.cell? ⟨g4, 1, none⟩ = some (.slice B1 m1 d1) := (blk_cell HXg4.out 1).trans rfl; have cg4_2 : w_18.cell? ⟨g4, 2, none⟩ = some (.slice B2 m2 d2) := (blk_cell HXg4.out 2).trans rfl; have cg5_0 : w_18.cell? ⟨g5, 0, none⟩ = some (.int .u8 fc) := (blk_cell HXg5.out 0).trans rfl; have cg5_1 : w_18.cell? ⟨g5, 1, none⟩ = some (.slice Af fn cf) := (blk_cell HXg5.out 1).trans rfl; have cg7_0 : w_18.cell? ⟨g7, 0, none⟩ = some (.int .u8 f0) := (blk_cell HXg7.out 0).trans rfl; have cg7_1 : w_18.cell? ⟨g7, 1, none⟩ = some (.slice Ap pn cp) := (blk_cell HXg7.out 1).trans rfl; have cg9_0 : w_18.cell? ⟨g9, 0, none⟩ = some (.int .u8 f0) := (blk_cell HXg9.out 0).trans rfl; have cg9_1 : w_18.cell? ⟨g9, 1, none⟩ = some (.slice Ar pn cr) := (blk_cell HXg9.out 1).trans rfl; have cg15_0 : w_18.cell? ⟨g15, 0, none⟩ = some (.int .i64 q0) := (blk_cell HXg15.out 0).trans rfl; have cg15_1 : w_18.cell? ⟨g15, 1, none⟩ = some (.slice E1 x1 e1) := (blk_cell HXg15.out 1).trans rfl; have cg15_2 : w_18.cell? ⟨g15, 2, none⟩ = some (.slice E2 x2 e2) := (blk_cell HXg15.out 2).trans rfl) | ((with_reducible refine gate_dst (N := 17) rfl ?_); refine box_event ?hg (N := 17) ?hd (cs := #[.int .i64 0, .slice none 0 0, .slice none 0 0]) (t := 69) ?hr ?_; (case hd => rfl); (case hg => rfl); (case hr => first | (go_simp; done) | (go_simp; rfl)); intro g17 hgb w_19 hbox hb; have HZ_ := Aside0.mk hbox; have HGE_ := Aside0.mk (Nat.le_of_eq hgb.symm); have HBa_ := Aside0.mk hb; clear hgb hb hbox) | ((with_reducible refine gate_ (.store 69 (.tmp 17) (.tmp 61)) rfl ?_); refine store_event 69 (.tmp 17) (.tmp 61) rfl rfl rfl (g := g17) #[.int .i64 0, .slice none 0 0, .slice none 0 0] #[.int .i64 q0, .slice G1 x1 h1, .slice G2 x2 h2] [.int .i64 q0, .slice G1 x1 h1, .slice G2 x2 h2] rfl rfl rfl size69 HZ_.out (by simp) (by rfl) rfl ?_; intro w_20 hbox hs; have hb := hs.below HBa_.out HGE_.out; have HB_ := Aside0.mk (below_step HB.out hb); have HXg3_ := Aside0.mk ((hb.block g3 (blk_lt HXg3.out)).trans HXg3.out); have HXg4_ := Aside0.mk ((hb.block g4 (blk_lt HXg4.out)).trans HXg4.out); have HXg5_ := Aside0.mk ((hb.block g5 (blk_lt HXg5.out)).trans HXg5.out); have HAp_ := Aside0.mk (Kd.C_below HAp.out hb); have HXg7_ := Aside0.mk ((hb.block g7 (blk_lt HXg7.out)).trans HXg7.out); have HAr_ := Aside0.mk (Kd.C_below HAr.out hb); have HXg9_ := Aside0.mk ((hb.block g9 (blk_lt HXg9.out)).trans HXg9.out); have HAb_ := Aside0.mk (Kd.C_below HAb.out hb); have HAc_ := Aside0.mk (Kd.C_below HAc.out hb); have HE1_ := Aside0.mk (Kd.C_below HE1.out hb); have HE2_ := Aside0.mk (Kd.C_below HE2.out hb); have HXg15_ := Aside0.mk ((hb.block g15 (blk_lt HXg15.out)).trans HXg15.out); have HG1_ := Aside0.mk (Kd.C_below HG1.out hb); have HG2_ := Aside0.mk (Kd.C_below HG2.out hb); clear HB HXg3 HXg4 HXg5 HAp HXg7 HAr HXg9 HAb HAc HE1 HE2 HXg15 HG1 HG2; have HB := HB_; have HXg3 := HXg3_; have HXg4 := HXg4_; have HXg5 := HXg5_; have HAp := HAp_; have HXg7 := HXg7_; have HAr := HAr_; have HXg9 := HXg9_; have HAb := HAb_; have HAc := HAc_; have HE1 := HE1_; have HE2 := HE2_; have HXg15 := HXg15_; have HG1 := HG1_; have HG2 := HG2_; clear HB_ HXg3_ HXg4_ HXg5_ HAp_ HXg7_ HAr_ HXg9_ HAb_ HAc_ HE1_ HE2_ HXg15_ HG1_ HG2_; have HXg17 := Aside0.mk hbox; clear hbox hs hb HZ_ HGE_ HBa_; have cg3_0 : w_20.cell? ⟨g3, 0, none⟩ = some (.int .i64 k) := (blk_cell HXg3.out 0).trans rfl; have cg3_1 : w_20.cell? ⟨g3, 1, none⟩ = some (.slice A1 n1 c1) := (blk_cell HXg3.out 1).trans rfl; have cg3_2 : w_20.cell? ⟨g3, 2, none⟩ = some (.slice A2 n2 c2) := (blk_cell HXg3.out 2).trans rfl; have cg4_0 : w_20.cell? ⟨g4, 0, none⟩ = some (.int .i64 j) := (blk_cell HXg4.out 0).trans rfl; have cg4_1 : w_20.cell? ⟨g4, 1, none⟩ = some (.slice B1 m1 d1) := (blk_cell HXg4.out 1).trans rfl; have cg4_2 : w_20.cell? ⟨g4, 2, none⟩ = some (.slice B2 m2 d2) := (blk_cell HXg4.out 2).trans rfl; have cg5_0 : w_20.cell? ⟨g5, 0, none⟩ = some (.int .u8 fc) := (blk_cell HXg5.out 0).trans rfl; have cg5_1 : w_20.cell? ⟨g5, 1, none⟩ = some (.slice Af fn cf) := (blk_cell HXg5.out 1).trans rfl; have cg7_0 : w_20.cell? ⟨g7, 0, none⟩ = some (.int .u8 f0) := (blk_cell HXg7.out 0).trans rfl; have cg7_1 : w_20.cell? ⟨g7, 1, none⟩ = some (.slice Ap pn cp) := (blk_cell HXg7.out 1).trans rfl; have cg9_0 : w_20.cell? ⟨g9, 0, none⟩ = some (.int .u8 f0) := (blk_cell HXg9.out 0).trans rfl; have cg9_1 : w_20.cell? ⟨g9, 1, none⟩ = some (.slice Ar pn cr) := (blk_cell HXg9.out 1).trans rfl; have cg15_0 : w_20.cell? ⟨g15, 0, none⟩ = some (.int .i64 q0) := (blk_cell HXg15.out 0).trans rfl; have cg15_1 : w_20.cell? ⟨g15, 1, none⟩ = some (.slice E1 x1 e1) := (blk_cell HXg15.out 1).trans rfl; have cg15_2 : w_20.cell? ⟨g15, 2, none⟩ = some (.slice E2 x2 e2) := (blk_cell HXg15.out 2).trans rfl; have cg17_0 : w_20.cell? ⟨g17, 0, none⟩ = some (.int .i64 q0) := (blk_cell HXg17.out 0).trans rfl; have cg17_1 : w_20.cell? ⟨g17, 1, none⟩ = some (.slice G1 x1 h1) := (blk_cell HXg17.out 1).trans rfl; have cg17_2 : w_20.cell? ⟨g17, 2, none⟩ = some (.slice G2 x2 h2) := (blk_cell HXg17.out 2).trans rfl))
      have hb := below_drew1 (Below.refl w_20.heap.size w_20)
      have HB_ := Aside0.mk (below_step HB.out hb)
      have HXg3_ := Aside0.mk ((hb.block g3 (blk_lt HXg3.out)).trans HXg3.out)
      have HXg4_ := Aside0.mk ((hb.block g4 (blk_lt HXg4.out)).trans HXg4.out)
      have HAp_ := Aside0.mk (Kd.C_below HAp.out hb)
      have HXg7_ := Aside0.mk ((hb.block g7 (blk_lt HXg7.out)).trans HXg7.out)
      have HAr_ := Aside0.mk (Kd.C_below HAr.out hb)
      have HXg9_ := Aside0.mk ((hb.block g9 (blk_lt HXg9.out)).trans HXg9.out)
      have HAb_ := Aside0.mk (Kd.C_below HAb.out hb)
      have HAc_ := Aside0.mk (Kd.C_below HAc.out hb)
      have HE1_ := Aside0.mk (Kd.C_below HE1.out hb)
      have HE2_ := Aside0.mk (Kd.C_below HE2.out hb)
      have HXg15_ := Aside0.mk ((hb.block g15 (blk_lt HXg15.out)).trans HXg15.out)
      have HG1_ := Aside0.mk (Kd.C_below HG1.out hb)
      have HG2_ := Aside0.mk (Kd.C_below HG2.out hb)
      have HXg17_ := Aside0.mk ((hb.block g17 (blk_lt HXg17.out)).trans HXg17.out)
      clear HB HXg3 HXg4 HAp HXg7 HAr HXg9 HAb HAc HE1 HE2 HXg15 HG1 HG2 HXg17
      have HB := HB_
      have HXg3 := HXg3_
      have HXg4 := HXg4_
      have HAp := HAp_
      have HXg7 := HXg7_
      have HAr := HAr_
      have HXg9 := HXg9_
      have HAb := HAb_
      have HAc := HAc_
      have HE1 := HE1_
      have HE2 := HE2_
      have HXg15 := HXg15_
      have HG1 := HG1_
      have HG2 := HG2_
      have HXg17 := HXg17_
      clear HB_ HXg3_ HXg4_ HAp_ HXg7_ HAr_ HXg9_ HAb_ HAc_ HE1_ HE2_ HXg15_ HG1_ HG2_ HXg17_
      clear hb
      refine start_ (n := 47) (S := fun w' => w'.cell? ⟨g3, 0, none⟩ = some (.int .i64 k) ∧ w'.cell? ⟨g3, 1, none⟩ = some (.slice A1 n1 c1) ∧ w'.cell? ⟨g3, 2, none⟩ = some (.slice A2 n2 c2) ∧ w'.cell? ⟨g4, 0, none⟩ = some (.int .i64 j) ∧ w'.cell? ⟨g4, 1, none⟩ = some (.slice B1 m1 d1) ∧ w'.cell? ⟨g4, 2, none⟩ = some (.slice B2 m2 d2) ∧ w'.cell? ⟨g7, 0, none⟩ = some (.int .u8 f0) ∧ w'.cell? ⟨g7, 1, none⟩ = some (.slice Ap pn cp) ∧ w'.cell? ⟨g9, 0, none⟩ = some (.int .u8 f0) ∧ w'.cell? ⟨g9, 1, none⟩ = some (.slice Ar pn cr) ∧ w'.cell? ⟨g15, 0, none⟩ = some (.int .i64 q0) ∧ w'.cell? ⟨g15, 1, none⟩ = some (.slice E1 x1 e1) ∧ w'.cell? ⟨g15, 2, none⟩ = some (.slice E2 x2 e2) ∧ w'.cell? ⟨g17, 0, none⟩ = some (.int .i64 q0) ∧ w'.cell? ⟨g17, 1, none⟩ = some (.slice G1 x1 h1) ∧ w'.cell? ⟨g17, 2, none⟩ = some (.slice G2 x2 h2)) (ds := []) #[false, false, false, false, false, false, false, false, false, false, false, false, false, false, false, false, false, false, false, false, false, false, false, false, false, false, false, false, false, false, false, false, false, false, false, false, false, false, false, false, false, false, false, false, false, false, false] (by kernel_rfl) rfl rfl ⟨(blk_cell HXg3.out 0).trans rfl, (blk_cell HXg3.out 1).trans rfl, (blk_cell HXg3.out 2).trans rfl, (blk_cell HXg4.out 0).trans rfl, (blk_cell HXg4.out 1).trans rfl, (blk_cell HXg4.out 2).trans rfl, (blk_cell HXg7.out 0).trans rfl, (blk_cell HXg7.out 1).trans rfl, (blk_cell HXg9.out 0).trans rfl, (blk_cell HXg9.out 1).trans rfl, (blk_cell HXg15.out 0).trans rfl, (blk_cell HXg15.out 1).trans rfl, (blk_cell HXg15.out 2).trans rfl, (blk_cell HXg17.out 0).trans rfl, (blk_cell HXg17.out 1).trans rfl, (blk_cell HXg17.out 2).trans rfl⟩ (fun hHeld => ?_)
      generalize World.drew w_20 = w8 at HB HXg3 HXg4 HAp HXg7 HAr HXg9 HAb HAc HE1 HE2 HXg15 HG1 HG2 HXg17 hHeld ⊢
      refine take_ (i := 0) (N := some 63) (v := ?_) (a' := ?_) #[true, false, false, false, false, false, false, false, false, false, false, false, false, false, false, false, false, false, false, false, false, false, false, false, false, false, false, false, false, false, false, false, false, false, false, false, false, false, false, false, false, false, false, false, false, false, false] rfl rfl (by kernel_rfl) (fun _ _ _ h => h) (Or.inl ⟨by rfl, ?_⟩) hHeld ?_ ?_
      rotate_left
      · rintro w' ⟨s0, s1, s2, s3, s4, s5, s6, s7, s8, s9, s10, s11, s12, s13, s14, s15⟩
        go_simp
        with_reducible rfl
      rotate_left
      · simp only [Act.put, List.setIfInBounds_toArray, List.set_cons_zero, List.set_cons_succ, i64_w, i32_w]
        rfl
      refine take_ (i := 2) (N := some 65) (v := ?_) (a' := ?_) #[true, false, true, false, false, false, false, false, false, false, false, false, false, false, false, false, false, false, false, false, false, false, false, false, false, false, false, false, false, false, false, false, false, false, false, false, false, false, false, false, false, false, false, false, false, false, false] rfl rfl (by kernel_rfl) (fun _ _ _ h => h) (Or.inl ⟨by rfl, ?_⟩) hHeld ?_ ?_
      rotate_left
      · rintro w' ⟨s0, s1, s2, s3, s4, s5, s6, s7, s8, s9, s10, s11, s12, s13, s14, s15⟩
        go_simp
        with_reducible rfl
      rotate_left
      · simp only [Act.put, List.setIfInBounds_toArray, List.set_cons_zero, List.set_cons_succ, i64_w, i32_w]
        rfl
      refine one_ (i := 1) (N := some 64) #[true, true, true, false, false, false, false, false, false, false, false, false, false, false, false, false, false, false, false, false, false, false, false, false, false, false, false, false, false, false, false, false, false, false, false, false, false, false, false, false, false, false, false, false, false, false, false] rfl rfl (by kernel_rfl) (by decide) (fun K hK => ?_)
      refine goes_ Try.func40 (by kernel_rfl) rfl #[.agg #[.int .i64 k, .slice A1 n1 c1, .slice A2 n2 c2]] (by rfl) rfl rfl (by simp only [List.map_toArray, List.map_cons, List.map_nil]; rfl) ?_
      with_reducible refine (Right_calls k A1 n1 c1 ns HN1.out A2 n2 c2 ts HN2.out rr _ (Kd.C_below HC1.out HB.out) HCC1.out (Kd.C_below HC2.out HB.out) HCC2.out HWF.out HRR.out).mono ?_
      rintro e wK ⟨rfl, hb⟩
      refine ⟨_, rfl, ?_⟩
      have HB_ := Aside0.mk (below_step HB.out hb)
      have HXg3_ := Aside0.mk ((hb.block g3 (blk_lt HXg3.out)).trans HXg3.out)
      have HXg4_ := Aside0.mk ((hb.block g4 (blk_lt HXg4.out)).trans HXg4.out)
      have HAp_ := Aside0.mk (Kd.C_below HAp.out hb)
      have HXg7_ := Aside0.mk ((hb.block g7 (blk_lt HXg7.out)).trans HXg7.out)
      have HAr_ := Aside0.mk (Kd.C_below HAr.out hb)
      have HXg9_ := Aside0.mk ((hb.block g9 (blk_lt HXg9.out)).trans HXg9.out)
      have HAb_ := Aside0.mk (Kd.C_below HAb.out hb)
      have HAc_ := Aside0.mk (Kd.C_below HAc.out hb)
      have HE1_ := Aside0.mk (Kd.C_below HE1.out hb)
      have HE2_ := Aside0.mk (Kd.C_below HE2.out hb)
      have HXg15_ := Aside0.mk ((hb.block g15 (blk_lt HXg15.out)).trans HXg15.out)
      have HG1_ := Aside0.mk (Kd.C_below HG1.out hb)
      have HG2_ := Aside0.mk (Kd.C_below HG2.out hb)
      have HXg17_ := Aside0.mk ((hb.block g17 (blk_lt HXg17.out)).trans HXg17.out)
      clear HB HXg3 HXg4 HAp HXg7 HAr HXg9 HAb HAc HE1 HE2 HXg15 HG1 HG2 HXg17
      have HB := HB_
      have HXg3 := HXg3_
      have HXg4 := HXg4_
      have HAp := HAp_
      have HXg7 := HXg7_
      have HAr := HAr_
      have HXg9 := HXg9_
      have HAb := HAb_
      have HAc := HAc_
      have HE1 := HE1_
      have HE2 := HE2_
      have HXg15 := HXg15_
      have HG1 := HG1_
      have HG2 := HG2_
      have HXg17 := HXg17_
      clear HB_ HXg3_ HXg4_ HAp_ HXg7_ HAr_ HXg9_ HAb_ HAc_ HE1_ HE2_ HXg15_ HG1_ HG2_ HXg17_
      clear hb
      refine hK.out _ _ ⟨(blk_cell HXg3.out 0).trans rfl, (blk_cell HXg3.out 1).trans rfl, (blk_cell HXg3.out 2).trans rfl, (blk_cell HXg4.out 0).trans rfl, (blk_cell HXg4.out 1).trans rfl, (blk_cell HXg4.out 2).trans rfl, (blk_cell HXg7.out 0).trans rfl, (blk_cell HXg7.out 1).trans rfl, (blk_cell HXg9.out 0).trans rfl, (blk_cell HXg9.out 1).trans rfl, (blk_cell HXg15.out 0).trans rfl, (blk_cell HXg15.out 1).trans rfl, (blk_cell HXg15.out 2).trans rfl, (blk_cell HXg17.out 0).trans rfl, (blk_cell HXg17.out 1).trans rfl, (blk_cell HXg17.out 2).trans rfl⟩ (fun hHeld => ?_)
      clear hK K
      refine norm_ (a' := ?_) ?_ ?_
      rotate_left
      · show Act.put _ (some 64) _ = _
        simp only [Act.put, List.setIfInBounds_toArray, List.set_cons_zero, List.set_cons_succ, i64_w, i32_w]
        rfl
      refine one_ (i := 3) (N := some 66) #[true, true, true, true, false, false, false, false, false, false, false, false, false, false, false, false, false, false, false, false, false, false, false, false, false, false, false, false, false, false, false, false, false, false, false, false, false, false, false, false, false, false, false, false, false, false, false] rfl rfl (by kernel_rfl) (by decide) (fun K hK => ?_)
      refine goes_ Try.func47 (by kernel_rfl) rfl #[.agg #[.int .i64 k, .slice A1 n1 c1, .slice A2 n2 c2]] (by rfl) rfl rfl (by simp only [List.map_toArray, List.map_cons, List.map_nil]; rfl) ?_
      with_reducible refine (RRight_calls k A1 n1 c1 ns HN1.out A2 n2 c2 ts HN2.out rr _ (Kd.C_below HC1.out HB.out) HCC1.out (Kd.C_below HC2.out HB.out) HCC2.out HL.out.2 HWF.out HRR.out).mono ?_
      rintro e wA ⟨rfl, hb⟩
      refine ⟨_, rfl, ?_⟩
      have HB_ := Aside0.mk (below_step HB.out hb)
      have HXg3_ := Aside0.mk ((hb.block g3 (blk_lt HXg3.out)).trans HXg3.out)
      have HXg4_ := Aside0.mk ((hb.block g4 (blk_lt HXg4.out)).trans HXg4.out)
      have HAp_ := Aside0.mk (Kd.C_below HAp.out hb)
      have HXg7_ := Aside0.mk ((hb.block g7 (blk_lt HXg7.out)).trans HXg7.out)
      have HAr_ := Aside0.mk (Kd.C_below HAr.out hb)
      have HXg9_ := Aside0.mk ((hb.block g9 (blk_lt HXg9.out)).trans HXg9.out)
      have HAb_ := Aside0.mk (Kd.C_below HAb.out hb)
      have HAc_ := Aside0.mk (Kd.C_below HAc.out hb)
      have HE1_ := Aside0.mk (Kd.C_below HE1.out hb)
      have HE2_ := Aside0.mk (Kd.C_below HE2.out hb)
      have HXg15_ := Aside0.mk ((hb.block g15 (blk_lt HXg15.out)).trans HXg15.out)
      have HG1_ := Aside0.mk (Kd.C_below HG1.out hb)
      have HG2_ := Aside0.mk (Kd.C_below HG2.out hb)
      have HXg17_ := Aside0.mk ((hb.block g17 (blk_lt HXg17.out)).trans HXg17.out)
      clear HB HXg3 HXg4 HAp HXg7 HAr HXg9 HAb HAc HE1 HE2 HXg15 HG1 HG2 HXg17
      have HB := HB_
      have HXg3 := HXg3_
      have HXg4 := HXg4_
      have HAp := HAp_
      have HXg7 := HXg7_
      have HAr := HAr_
      have HXg9 := HXg9_
      have HAb := HAb_
      have HAc := HAc_
      have HE1 := HE1_
      have HE2 := HE2_
      have HXg15 := HXg15_
      have HG1 := HG1_
      have HG2 := HG2_
      have HXg17 := HXg17_
      clear HB_ HXg3_ HXg4_ HAp_ HXg7_ HAr_ HXg9_ HAb_ HAc_ HE1_ HE2_ HXg15_ HG1_ HG2_ HXg17_
      clear hb
      have HZ := Aside0.mk (Below.refl wA.heap.size wA)
      refine hK.out _ _ ⟨(blk_cell HXg3.out 0).trans rfl, (blk_cell HXg3.out 1).trans rfl, (blk_cell HXg3.out 2).trans rfl, (blk_cell HXg4.out 0).trans rfl, (blk_cell HXg4.out 1).trans rfl, (blk_cell HXg4.out 2).trans rfl, (blk_cell HXg7.out 0).trans rfl, (blk_cell HXg7.out 1).trans rfl, (blk_cell HXg9.out 0).trans rfl, (blk_cell HXg9.out 1).trans rfl, (blk_cell HXg15.out 0).trans rfl, (blk_cell HXg15.out 1).trans rfl, (blk_cell HXg15.out 2).trans rfl, (blk_cell HXg17.out 0).trans rfl, (blk_cell HXg17.out 1).trans rfl, (blk_cell HXg17.out 2).trans rfl⟩ (fun hHeld => ?_)
      clear hK K
      refine norm_ (a' := ?_) ?_ ?_
      rotate_left
      · show Act.put _ (some 66) _ = _
        simp only [Act.put, List.setIfInBounds_toArray, List.set_cons_zero, List.set_cons_succ, i64_w, i32_w]
        rfl
      refine pure_ (i := 4) (N := some 67) (v := ?_) (a' := ?_) #[true, true, true, true, true, false, false, false, false, false, false, false, false, false, false, false, false, false, false, false, false, false, false, false, false, false, false, false, false, false, false, false, false, false, false, false, false, false, false, false, false, false, false, false, false, false, false] rfl rfl (by kernel_rfl) (fun _ _ _ h => h) (Or.inl ⟨by rfl, ?_⟩) ?_ ?_
      rotate_left
      · intro w'
        go_simp
        with_reducible rfl
      rotate_left
      · simp only [Act.put, List.setIfInBounds_toArray, List.set_cons_zero, List.set_cons_succ, i64_w, i32_w]
        rfl
      refine pure_ (i := 5) (N := some 68) (v := ?_) (a' := ?_) #[true, true, true, true, true, true, false, false, false, false, false, false, false, false, false, false, false, false, false, false, false, false, false, false, false, false, false, false, false, false, false, false, false, false, false, false, false, false, false, false, false, false, false, false, false, false, false] rfl rfl (by kernel_rfl) (fun _ _ _ h => h) (Or.inl ⟨by rfl, ?_⟩) ?_ ?_
      rotate_left
      · intro w'
        go_simp
        with_reducible rfl
      rotate_left
      · simp only [Act.put, List.setIfInBounds_toArray, List.set_cons_zero, List.set_cons_succ, i64_w, i32_w]
        rfl
      refine take_ (i := 6) (N := some 69) (v := ?_) (a' := ?_) #[true, true, true, true, true, true, true, false, false, false, false, false, false, false, false, false, false, false, false, false, false, false, false, false, false, false, false, false, false, false, false, false, false, false, false, false, false, false, false, false, false, false, false, false, false, false, false] rfl rfl (by kernel_rfl) (fun _ _ _ h => h) (Or.inl ⟨by rfl, ?_⟩) hHeld ?_ ?_
      rotate_left
      · rintro w' ⟨s0, s1, s2, s3, s4, s5, s6, s7, s8, s9, s10, s11, s12, s13, s14, s15⟩
        go_simp
        with_reducible rfl
      rotate_left
      · simp only [Act.put, List.setIfInBounds_toArray, List.set_cons_zero, List.set_cons_succ, i64_w, i32_w]
        rfl
      refine take_ (i := 8) (N := some 71) (v := ?_) (a' := ?_) #[true, true, true, true, true, true, true, false, true, false, false, false, false, false, false, false, false, false, false, false, false, false, false, false, false, false, false, false, false, false, false, false, false, false, false, false, false, false, false, false, false, false, false, false, false, false, false] rfl rfl (by kernel_rfl) (fun _ _ _ h => h) (Or.inl ⟨by rfl, ?_⟩) hHeld ?_ ?_
      rotate_left
      · rintro w' ⟨s0, s1, s2, s3, s4, s5, s6, s7, s8, s9, s10, s11, s12, s13, s14, s15⟩
        go_simp
        with_reducible rfl
      rotate_left
      · simp only [Act.put, List.setIfInBounds_toArray, List.set_cons_zero, List.set_cons_succ, i64_w, i32_w]
        rfl
      refine join_ (σ := Value × Value) 37 #[true, true, true, true, true, true, true, true, true, true, false, false, false, false, false, false, false, false, false, false, false, false, false, false, false, false, false, false, false, false, false, false, false, false, false, false, false, false, false, false, false, false, false, false, false, false, false] (fun s => [(70, s.1), (72, s.2)]) (fun s w' => ∃ (g70 g72 : Nat), s = (.slice (some ⟨g70, 0, none⟩) 1 1, .slice (some ⟨g72, 0, none⟩) 1 1) ∧ Kd.C k41 w' (some ⟨g70, 0, none⟩) 1 [⟨f0, fb⟩] ∧ Kd.C k41 w' (some ⟨g72, 0, none⟩) 1 [⟨f0, fb⟩] ∧ Below wA.heap.size wA w') ?_ ?_
      rotate_left
      · intro hCont
        refine two_ (i := 7) (j := 9) (Ni := some 70) (Nj := some 72) #[true, true, true, true, true, true, true, true, true, false, false, false, false, false, false, false, false, false, false, false, false, false, false, false, false, false, false, false, false, false, false, false, false, false, false, false, false, false, false, false, false, false, false, false, false, false, false] #[true, true, true, true, true, true, true, false, true, true, false, false, false, false, false, false, false, false, false, false, false, false, false, false, false, false, false, false, false, false, false, false, false, false, false, false, false, false, false, false, false, false, false, false, false, false, false] rfl rfl rfl rfl (by kernel_rfl) (by decide) (by decide) (fun K hK => ?_) (fun K hK => ?_)
        · skip
          refine value_ (w1 := ?_) (v := ?_) (by rfl) rfl ?_ ?_
          rotate_left 2
          · go_simp
            constructor
            · rfl
            · rfl
          obtain ⟨g70, wk1_7, hg_, hwn, hb, hc_⟩ : ∃ g wn, (wA).heap.size = g ∧ World.alloc wA (.cells #[.int .u8 f0, .slice Ap pn cp] 41) = wn ∧ Below wA.heap.size wA wn ∧ wn.heap[g]? = some (.cells #[.int .u8 f0, .slice Ap pn cp] 41) := ⟨_, _, rfl, rfl, below_alloc (Below.refl _ _) _, heap_alloc_new wA _⟩
          rw [hg_, hwn]
          have H70 := Aside0.mk (C41_one HPN.out HApC.out (Kd.C_below (Kd.C_below HAp.out HZ.out) hb) hc_)
          have HZ_ := Aside0.mk (below_step HZ.out hb)
          clear HZ
          have HZ := HZ_
          clear HZ_
          clear hg_ hwn hb hc_
          refine hK.out _ _ ⟨pw_cell_below HZ.out ((blk_cell HXg3.out 0).trans rfl), pw_cell_below HZ.out ((blk_cell HXg3.out 1).trans rfl), pw_cell_below HZ.out ((blk_cell HXg3.out 2).trans rfl), pw_cell_below HZ.out ((blk_cell HXg4.out 0).trans rfl), pw_cell_below HZ.out ((blk_cell HXg4.out 1).trans rfl), pw_cell_below HZ.out ((blk_cell HXg4.out 2).trans rfl), pw_cell_below HZ.out ((blk_cell HXg7.out 0).trans rfl), pw_cell_below HZ.out ((blk_cell HXg7.out 1).trans rfl), pw_cell_below HZ.out ((blk_cell HXg9.out 0).trans rfl), pw_cell_below HZ.out ((blk_cell HXg9.out 1).trans rfl), pw_cell_below HZ.out ((blk_cell HXg15.out 0).trans rfl), pw_cell_below HZ.out ((blk_cell HXg15.out 1).trans rfl), pw_cell_below HZ.out ((blk_cell HXg15.out 2).trans rfl), pw_cell_below HZ.out ((blk_cell HXg17.out 0).trans rfl), pw_cell_below HZ.out ((blk_cell HXg17.out 1).trans rfl), pw_cell_below HZ.out ((blk_cell HXg17.out 2).trans rfl)⟩ (fun hHeld => ?_)
          clear hK K
          refine norm_ (a' := ?_) ?_ ?_
          rotate_left
          · show Act.put _ (some 70) _ = _
            simp only [Act.put, List.setIfInBounds_toArray, List.set_cons_zero, List.set_cons_succ, i64_w, i32_w]
            rfl
          refine one_ (i := 9) (N := some 72) #[true, true, true, true, true, true, true, true, true, true, false, false, false, false, false, false, false, false, false, false, false, false, false, false, false, false, false, false, false, false, false, false, false, false, false, false, false, false, false, false, false, false, false, false, false, false, false] rfl rfl (by kernel_rfl) (by decide) (fun K hK => ?_)
          refine value_ (w1 := ?_) (v := ?_) (by rfl) rfl ?_ ?_
          rotate_left 2
          · go_simp
            constructor
            · rfl
            · rfl
          obtain ⟨g72, wk1_7_9, hg_, hwn, hb, hc_⟩ : ∃ g wn, (wk1_7).heap.size = g ∧ World.alloc wk1_7 (.cells #[.int .u8 f0, .slice Ar pn cr] 41) = wn ∧ Below wk1_7.heap.size wk1_7 wn ∧ wn.heap[g]? = some (.cells #[.int .u8 f0, .slice Ar pn cr] 41) := ⟨_, _, rfl, rfl, below_alloc (Below.refl _ _) _, heap_alloc_new wk1_7 _⟩
          rw [hg_, hwn]
          have H72 := Aside0.mk (C41_one HPN.out HArC.out (Kd.C_below (Kd.C_below HAr.out HZ.out) hb) hc_)
          have HZ_ := Aside0.mk (below_step HZ.out hb)
          have H70_ := Aside0.mk (Kd.C_below H70.out hb)
          clear HZ H70
          have HZ := HZ_
          have H70 := H70_
          clear HZ_ H70_
          clear hg_ hwn hb hc_
          refine hK.out _ _ ⟨pw_cell_below HZ.out ((blk_cell HXg3.out 0).trans rfl), pw_cell_below HZ.out ((blk_cell HXg3.out 1).trans rfl), pw_cell_below HZ.out ((blk_cell HXg3.out 2).trans rfl), pw_cell_below HZ.out ((blk_cell HXg4.out 0).trans rfl), pw_cell_below HZ.out ((blk_cell HXg4.out 1).trans rfl), pw_cell_below HZ.out ((blk_cell HXg4.out 2).trans rfl), pw_cell_below HZ.out ((blk_cell HXg7.out 0).trans rfl), pw_cell_below HZ.out ((blk_cell HXg7.out 1).trans rfl), pw_cell_below HZ.out ((blk_cell HXg9.out 0).trans rfl), pw_cell_below HZ.out ((blk_cell HXg9.out 1).trans rfl), pw_cell_below HZ.out ((blk_cell HXg15.out 0).trans rfl), pw_cell_below HZ.out ((blk_cell HXg15.out 1).trans rfl), pw_cell_below HZ.out ((blk_cell HXg15.out 2).trans rfl), pw_cell_below HZ.out ((blk_cell HXg17.out 0).trans rfl), pw_cell_below HZ.out ((blk_cell HXg17.out 1).trans rfl), pw_cell_below HZ.out ((blk_cell HXg17.out 2).trans rfl)⟩ (fun hHeld => ?_)
          clear hK K
          refine norm_ (a' := ?_) ?_ ?_
          rotate_left
          · show Act.put _ (some 72) _ = _
            simp only [Act.put, List.setIfInBounds_toArray, List.set_cons_zero, List.set_cons_succ, i64_w, i32_w]
            rfl
          exact norm_ (by simp only [putAll, Act.put, List.setIfInBounds_toArray, List.set_cons_zero, List.set_cons_succ]) (hCont (.slice (some ⟨g70, 0, none⟩) 1 1, .slice (some ⟨g72, 0, none⟩) 1 1) _ ⟨g70, g72, rfl, H70.out, H72.out, HZ.out⟩)
        · skip
          refine value_ (w1 := ?_) (v := ?_) (by rfl) rfl ?_ ?_
          rotate_left 2
          · go_simp
            constructor
            · rfl
            · rfl
          obtain ⟨g72, wk1_9, hg_, hwn, hb, hc_⟩ : ∃ g wn, (wA).heap.size = g ∧ World.alloc wA (.cells #[.int .u8 f0, .slice Ar pn cr] 41) = wn ∧ Below wA.heap.size wA wn ∧ wn.heap[g]? = some (.cells #[.int .u8 f0, .slice Ar pn cr] 41) := ⟨_, _, rfl, rfl, below_alloc (Below.refl _ _) _, heap_alloc_new wA _⟩
          rw [hg_, hwn]
          have H72 := Aside0.mk (C41_one HPN.out HArC.out (Kd.C_below (Kd.C_below HAr.out HZ.out) hb) hc_)
          have HZ_ := Aside0.mk (below_step HZ.out hb)
          clear HZ
          have HZ := HZ_
          clear HZ_
          clear hg_ hwn hb hc_
          refine hK.out _ _ ⟨pw_cell_below HZ.out ((blk_cell HXg3.out 0).trans rfl), pw_cell_below HZ.out ((blk_cell HXg3.out 1).trans rfl), pw_cell_below HZ.out ((blk_cell HXg3.out 2).trans rfl), pw_cell_below HZ.out ((blk_cell HXg4.out 0).trans rfl), pw_cell_below HZ.out ((blk_cell HXg4.out 1).trans rfl), pw_cell_below HZ.out ((blk_cell HXg4.out 2).trans rfl), pw_cell_below HZ.out ((blk_cell HXg7.out 0).trans rfl), pw_cell_below HZ.out ((blk_cell HXg7.out 1).trans rfl), pw_cell_below HZ.out ((blk_cell HXg9.out 0).trans rfl), pw_cell_below HZ.out ((blk_cell HXg9.out 1).trans rfl), pw_cell_below HZ.out ((blk_cell HXg15.out 0).trans rfl), pw_cell_below HZ.out ((blk_cell HXg15.out 1).trans rfl), pw_cell_below HZ.out ((blk_cell HXg15.out 2).trans rfl), pw_cell_below HZ.out ((blk_cell HXg17.out 0).trans rfl), pw_cell_below HZ.out ((blk_cell HXg17.out 1).trans rfl), pw_cell_below HZ.out ((blk_cell HXg17.out 2).trans rfl)⟩ (fun hHeld => ?_)
          clear hK K
          refine norm_ (a' := ?_) ?_ ?_
          rotate_left
          · show Act.put _ (some 72) _ = _
            simp only [Act.put, List.setIfInBounds_toArray, List.set_cons_zero, List.set_cons_succ, i64_w, i32_w]
            rfl
          refine one_ (i := 7) (N := some 70) #[true, true, true, true, true, true, true, true, true, true, false, false, false, false, false, false, false, false, false, false, false, false, false, false, false, false, false, false, false, false, false, false, false, false, false, false, false, false, false, false, false, false, false, false, false, false, false] rfl rfl (by kernel_rfl) (by decide) (fun K hK => ?_)
          refine value_ (w1 := ?_) (v := ?_) (by rfl) rfl ?_ ?_
          rotate_left 2
          · go_simp
            constructor
            · rfl
            · rfl
          obtain ⟨g70, wk1_9_7, hg_, hwn, hb, hc_⟩ : ∃ g wn, (wk1_9).heap.size = g ∧ World.alloc wk1_9 (.cells #[.int .u8 f0, .slice Ap pn cp] 41) = wn ∧ Below wk1_9.heap.size wk1_9 wn ∧ wn.heap[g]? = some (.cells #[.int .u8 f0, .slice Ap pn cp] 41) := ⟨_, _, rfl, rfl, below_alloc (Below.refl _ _) _, heap_alloc_new wk1_9 _⟩
          rw [hg_, hwn]
          have H70 := Aside0.mk (C41_one HPN.out HApC.out (Kd.C_below (Kd.C_below HAp.out HZ.out) hb) hc_)
          have HZ_ := Aside0.mk (below_step HZ.out hb)
          have H72_ := Aside0.mk (Kd.C_below H72.out hb)
          clear HZ H72
          have HZ := HZ_
          have H72 := H72_
          clear HZ_ H72_
          clear hg_ hwn hb hc_
          refine hK.out _ _ ⟨pw_cell_below HZ.out ((blk_cell HXg3.out 0).trans rfl), pw_cell_below HZ.out ((blk_cell HXg3.out 1).trans rfl), pw_cell_below HZ.out ((blk_cell HXg3.out 2).trans rfl), pw_cell_below HZ.out ((blk_cell HXg4.out 0).trans rfl), pw_cell_below HZ.out ((blk_cell HXg4.out 1).trans rfl), pw_cell_below HZ.out ((blk_cell HXg4.out 2).trans rfl), pw_cell_below HZ.out ((blk_cell HXg7.out 0).trans rfl), pw_cell_below HZ.out ((blk_cell HXg7.out 1).trans rfl), pw_cell_below HZ.out ((blk_cell HXg9.out 0).trans rfl), pw_cell_below HZ.out ((blk_cell HXg9.out 1).trans rfl), pw_cell_below HZ.out ((blk_cell HXg15.out 0).trans rfl), pw_cell_below HZ.out ((blk_cell HXg15.out 1).trans rfl), pw_cell_below HZ.out ((blk_cell HXg15.out 2).trans rfl), pw_cell_below HZ.out ((blk_cell HXg17.out 0).trans rfl), pw_cell_below HZ.out ((blk_cell HXg17.out 1).trans rfl), pw_cell_below HZ.out ((blk_cell HXg17.out 2).trans rfl)⟩ (fun hHeld => ?_)
          clear hK K
          refine norm_ (a' := ?_) ?_ ?_
          rotate_left
          · show Act.put _ (some 70) _ = _
            simp only [Act.put, List.setIfInBounds_toArray, List.set_cons_zero, List.set_cons_succ, i64_w, i32_w]
            rfl
          exact norm_ (by simp only [putAll, Act.put, List.setIfInBounds_toArray, List.set_cons_zero, List.set_cons_succ]) (hCont (.slice (some ⟨g70, 0, none⟩) 1 1, .slice (some ⟨g72, 0, none⟩) 1 1) _ ⟨g70, g72, rfl, H70.out, H72.out, HZ.out⟩)
      rintro ⟨s1_, s2_⟩ wB ⟨g70, g72, hs_, h1_, h2_, hb⟩
      injection hs_ with e1_ e2_
      subst e1_ e2_
      have H70 := Aside0.mk h1_
      have H72 := Aside0.mk h2_
      have HB_ := Aside0.mk (below_step HB.out hb)
      have HXg3_ := Aside0.mk ((hb.block g3 (blk_lt HXg3.out)).trans HXg3.out)
      have HXg4_ := Aside0.mk ((hb.block g4 (blk_lt HXg4.out)).trans HXg4.out)
      have HAp_ := Aside0.mk (Kd.C_below HAp.out hb)
      have HXg7_ := Aside0.mk ((hb.block g7 (blk_lt HXg7.out)).trans HXg7.out)
      have HAr_ := Aside0.mk (Kd.C_below HAr.out hb)
      have HXg9_ := Aside0.mk ((hb.block g9 (blk_lt HXg9.out)).trans HXg9.out)
      have HAb_ := Aside0.mk (Kd.C_below HAb.out hb)
      have HAc_ := Aside0.mk (Kd.C_below HAc.out hb)
      have HE1_ := Aside0.mk (Kd.C_below HE1.out hb)
      have HE2_ := Aside0.mk (Kd.C_below HE2.out hb)
      have HXg15_ := Aside0.mk ((hb.block g15 (blk_lt HXg15.out)).trans HXg15.out)
      have HG1_ := Aside0.mk (Kd.C_below HG1.out hb)
      have HG2_ := Aside0.mk (Kd.C_below HG2.out hb)
      have HXg17_ := Aside0.mk ((hb.block g17 (blk_lt HXg17.out)).trans HXg17.out)
      clear HB HXg3 HXg4 HAp HXg7 HAr HXg9 HAb HAc HE1 HE2 HXg15 HG1 HG2 HXg17
      have HB := HB_
      have HXg3 := HXg3_
      have HXg4 := HXg4_
      have HAp := HAp_
      have HXg7 := HXg7_
      have HAr := HAr_
      have HXg9 := HXg9_
      have HAb := HAb_
      have HAc := HAc_
      have HE1 := HE1_
      have HE2 := HE2_
      have HXg15 := HXg15_
      have HG1 := HG1_
      have HG2 := HG2_
      have HXg17 := HXg17_
      clear HB_ HXg3_ HXg4_ HAp_ HXg7_ HAr_ HXg9_ HAb_ HAc_ HE1_ HE2_ HXg15_ HG1_ HG2_ HXg17_
      clear h1_ h2_ hb HZ
      have hHeld : wB.cell? ⟨g3, 0, none⟩ = some (.int .i64 k) ∧ wB.cell? ⟨g3, 1, none⟩ = some (.slice A1 n1 c1) ∧ wB.cell? ⟨g3, 2, none⟩ = some (.slice A2 n2 c2) ∧ wB.cell? ⟨g4, 0, none⟩ = some (.int .i64 j) ∧ wB.cell? ⟨g4, 1, none⟩ = some (.slice B1 m1 d1) ∧ wB.cell? ⟨g4, 2, none⟩ = some (.slice B2 m2 d2) ∧ wB.cell? ⟨g7, 0, none⟩ = some (.int .u8 f0) ∧ wB.cell? ⟨g7, 1, none⟩ = some (.slice Ap pn cp) ∧ wB.cell? ⟨g9, 0, none⟩ = some (.int .u8 f0) ∧ wB.cell? ⟨g9, 1, none⟩ = some (.slice Ar pn cr) ∧ wB.cell? ⟨g15, 0, none⟩ = some (.int .i64 q0) ∧ wB.cell? ⟨g15, 1, none⟩ = some (.slice E1 x1 e1) ∧ wB.cell? ⟨g15, 2, none⟩ = some (.slice E2 x2 e2) ∧ wB.cell? ⟨g17, 0, none⟩ = some (.int .i64 q0) ∧ wB.cell? ⟨g17, 1, none⟩ = some (.slice G1 x1 h1) ∧ wB.cell? ⟨g17, 2, none⟩ = some (.slice G2 x2 h2) := ⟨(blk_cell HXg3.out 0).trans rfl, (blk_cell HXg3.out 1).trans rfl, (blk_cell HXg3.out 2).trans rfl, (blk_cell HXg4.out 0).trans rfl, (blk_cell HXg4.out 1).trans rfl, (blk_cell HXg4.out 2).trans rfl, (blk_cell HXg7.out 0).trans rfl, (blk_cell HXg7.out 1).trans rfl, (blk_cell HXg9.out 0).trans rfl, (blk_cell HXg9.out 1).trans rfl, (blk_cell HXg15.out 0).trans rfl, (blk_cell HXg15.out 1).trans rfl, (blk_cell HXg15.out 2).trans rfl, (blk_cell HXg17.out 0).trans rfl, (blk_cell HXg17.out 1).trans rfl, (blk_cell HXg17.out 2).trans rfl⟩
      refine norm_ (a' := ?_) ?_ ?_
      rotate_left
      · simp only [putAll, Act.put, List.setIfInBounds_toArray, List.set_cons_zero, List.set_cons_succ]
        rfl
      refine one_ (i := 10) (N := some 73) #[true, true, true, true, true, true, true, true, true, true, true, false, false, false, false, false, false, false, false, false, false, false, false, false, false, false, false, false, false, false, false, false, false, false, false, false, false, false, false, false, false, false, false, false, false, false, false] rfl rfl (by kernel_rfl) (by decide) (fun K hK => ?_)
      refine goes_ Try.func30 (by kernel_rfl) rfl #[.slice (some ⟨g70, 0, none⟩) 1 1, .slice (some ⟨g72, 0, none⟩) 1 1] (by rfl) rfl rfl (by simp only [List.map_toArray, List.map_cons, List.map_nil]; rfl) ?_
      with_reducible refine (Same41_calls (some ⟨g70, 0, none⟩) 1 1 [⟨f0, fb⟩] rfl (some ⟨g72, 0, none⟩) 1 1 [⟨f0, fb⟩] rfl true _ H70.out (Nat.le_refl _) H72.out (Nat.le_refl _) (by omega) HP6.out (decide_eq_true rfl)).mono ?_
      rintro e wC ⟨rfl, hb⟩
      refine ⟨_, rfl, ?_⟩
      have HB_ := Aside0.mk (below_step HB.out hb)
      have HXg3_ := Aside0.mk ((hb.block g3 (blk_lt HXg3.out)).trans HXg3.out)
      have HXg4_ := Aside0.mk ((hb.block g4 (blk_lt HXg4.out)).trans HXg4.out)
      have HAp_ := Aside0.mk (Kd.C_below HAp.out hb)
      have HXg7_ := Aside0.mk ((hb.block g7 (blk_lt HXg7.out)).trans HXg7.out)
      have HAr_ := Aside0.mk (Kd.C_below HAr.out hb)
      have HXg9_ := Aside0.mk ((hb.block g9 (blk_lt HXg9.out)).trans HXg9.out)
      have HAb_ := Aside0.mk (Kd.C_below HAb.out hb)
      have HAc_ := Aside0.mk (Kd.C_below HAc.out hb)
      have HE1_ := Aside0.mk (Kd.C_below HE1.out hb)
      have HE2_ := Aside0.mk (Kd.C_below HE2.out hb)
      have HXg15_ := Aside0.mk ((hb.block g15 (blk_lt HXg15.out)).trans HXg15.out)
      have HG1_ := Aside0.mk (Kd.C_below HG1.out hb)
      have HG2_ := Aside0.mk (Kd.C_below HG2.out hb)
      have HXg17_ := Aside0.mk ((hb.block g17 (blk_lt HXg17.out)).trans HXg17.out)
      clear HB HXg3 HXg4 HAp HXg7 HAr HXg9 HAb HAc HE1 HE2 HXg15 HG1 HG2 HXg17
      have HB := HB_
      have HXg3 := HXg3_
      have HXg4 := HXg4_
      have HAp := HAp_
      have HXg7 := HXg7_
      have HAr := HAr_
      have HXg9 := HXg9_
      have HAb := HAb_
      have HAc := HAc_
      have HE1 := HE1_
      have HE2 := HE2_
      have HXg15 := HXg15_
      have HG1 := HG1_
      have HG2 := HG2_
      have HXg17 := HXg17_
      clear HB_ HXg3_ HXg4_ HAp_ HXg7_ HAr_ HXg9_ HAb_ HAc_ HE1_ HE2_ HXg15_ HG1_ HG2_ HXg17_
      clear hb H70 H72
      refine hK.out _ _ ⟨(blk_cell HXg3.out 0).trans rfl, (blk_cell HXg3.out 1).trans rfl, (blk_cell HXg3.out 2).trans rfl, (blk_cell HXg4.out 0).trans rfl, (blk_cell HXg4.out 1).trans rfl, (blk_cell HXg4.out 2).trans rfl, (blk_cell HXg7.out 0).trans rfl, (blk_cell HXg7.out 1).trans rfl, (blk_cell HXg9.out 0).trans rfl, (blk_cell HXg9.out 1).trans rfl, (blk_cell HXg15.out 0).trans rfl, (blk_cell HXg15.out 1).trans rfl, (blk_cell HXg15.out 2).trans rfl, (blk_cell HXg17.out 0).trans rfl, (blk_cell HXg17.out 1).trans rfl, (blk_cell HXg17.out 2).trans rfl⟩ (fun hHeld => ?_)
      clear hK K
      refine norm_ (a' := ?_) ?_ ?_
      rotate_left
      · show Act.put _ (some 73) _ = _
        simp only [Act.put, List.setIfInBounds_toArray, List.set_cons_zero, List.set_cons_succ, i64_w, i32_w]
        rfl
      refine pure_ (i := 11) (N := some 74) (v := ?_) (a' := ?_) #[true, true, true, true, true, true, true, true, true, true, true, true, false, false, false, false, false, false, false, false, false, false, false, false, false, false, false, false, false, false, false, false, false, false, false, false, false, false, false, false, false, false, false, false, false, false, false] rfl rfl (by kernel_rfl) (fun _ _ _ h => h) (Or.inl ⟨by rfl, ?_⟩) ?_ ?_
      rotate_left
      · intro w'
        go_simp
        with_reducible rfl
      rotate_left
      · simp only [Act.put, List.setIfInBounds_toArray, List.set_cons_zero, List.set_cons_succ, i64_w, i32_w]
        rfl
      refine pure_ (i := 12) (N := some 75) (v := ?_) (a' := ?_) #[true, true, true, true, true, true, true, true, true, true, true, true, true, false, false, false, false, false, false, false, false, false, false, false, false, false, false, false, false, false, false, false, false, false, false, false, false, false, false, false, false, false, false, false, false, false, false] rfl rfl (by kernel_rfl) (fun _ _ _ h => h) (Or.inl ⟨by rfl, ?_⟩) ?_ ?_
      rotate_left
      · intro w'
        go_simp
        with_reducible rfl
      rotate_left
      · simp only [Act.put, List.setIfInBounds_toArray, List.set_cons_zero, List.set_cons_succ, i64_w, i32_w]
        rfl
      refine pure_ (i := 13) (N := some 76) (v := ?_) (a' := ?_) #[true, true, true, true, true, true, true, true, true, true, true, true, true, true, false, false, false, false, false, false, false, false, false, false, false, false, false, false, false, false, false, false, false, false, false, false, false, false, false, false, false, false, false, false, false, false, false] rfl rfl (by kernel_rfl) (fun _ _ _ h => h) (Or.inl ⟨by rfl, ?_⟩) ?_ ?_
      rotate_left
      · intro w'
        go_simp
        with_reducible rfl
      rotate_left
      · simp only [Act.put, List.setIfInBounds_toArray, List.set_cons_zero, List.set_cons_succ, i64_w, i32_w]
        rfl
      refine pure_ (i := 14) (N := some 77) (v := ?_) (a' := ?_) #[true, true, true, true, true, true, true, true, true, true, true, true, true, true, true, false, false, false, false, false, false, false, false, false, false, false, false, false, false, false, false, false, false, false, false, false, false, false, false, false, false, false, false, false, false, false, false] rfl rfl (by kernel_rfl) (fun _ _ _ h => h) (Or.inl ⟨by rfl, ?_⟩) ?_ ?_
      rotate_left
      · intro w'
        go_simp
        with_reducible rfl
      rotate_left
      · simp only [Act.put, List.setIfInBounds_toArray, List.set_cons_zero, List.set_cons_succ, i64_w, i32_w]
        rfl
      refine pure_ (i := 15) (N := some 78) (v := ?_) (a' := ?_) #[true, true, true, true, true, true, true, true, true, true, true, true, true, true, true, true, false, false, false, false, false, false, false, false, false, false, false, false, false, false, false, false, false, false, false, false, false, false, false, false, false, false, false, false, false, false, false] rfl rfl (by kernel_rfl) (fun _ _ _ h => h) (Or.inl ⟨by rfl, ?_⟩) ?_ ?_
      rotate_left
      · intro w'
        go_simp
        with_reducible rfl
      rotate_left
      · simp only [Act.put, List.setIfInBounds_toArray, List.set_cons_zero, List.set_cons_succ, i64_w, i32_w]
        rfl
      refine pure_ (i := 16) (N := some 79) (v := ?_) (a' := ?_) #[true, true, true, true, true, true, true, true, true, true, true, true, true, true, true, true, true, false, false, false, false, false, false, false, false, false, false, false, false, false, false, false, false, false, false, false, false, false, false, false, false, false, false, false, false, false, false] rfl rfl (by kernel_rfl) (fun _ _ _ h => h) (Or.inl ⟨by rfl, ?_⟩) ?_ ?_
      rotate_left
      · intro w'
        go_simp
        with_reducible rfl
      rotate_left
      · simp only [Act.put, List.setIfInBounds_toArray, List.set_cons_zero, List.set_cons_succ, i64_w, i32_w]
        rfl
      refine pure_ (i := 17) (N := some 80) (v := ?_) (a' := ?_) #[true, true, true, true, true, true, true, true, true, true, true, true, true, true, true, true, true, true, false, false, false, false, false, false, false, false, false, false, false, false, false, false, false, false, false, false, false, false, false, false, false, false, false, false, false, false, false] rfl rfl (by kernel_rfl) (fun _ _ _ h => h) (Or.inl ⟨by rfl, ?_⟩) ?_ ?_
      rotate_left
      · intro w'
        go_simp
        with_reducible rfl
      rotate_left
      · simp only [Act.put, List.setIfInBounds_toArray, List.set_cons_zero, List.set_cons_succ, i64_w, i32_w]
        rfl
      refine pure_ (i := 18) (N := some 81) (v := ?_) (a' := ?_) #[true, true, true, true, true, true, true, true, true, true, true, true, true, true, true, true, true, true, true, false, false, false, false, false, false, false, false, false, false, false, false, false, false, false, false, false, false, false, false, false, false, false, false, false, false, false, false] rfl rfl (by kernel_rfl) (fun _ _ _ h => h) (Or.inl ⟨by rfl, ?_⟩) ?_ ?_
      rotate_left
      · intro w'
        go_simp
        with_reducible rfl
      rotate_left
      · simp only [Act.put, List.setIfInBounds_toArray, List.set_cons_zero, List.set_cons_succ, i64_w, i32_w]
        rfl
      refine pure_ (i := 19) (N := some 82) (v := ?_) (a' := ?_) #[true, true, true, true, true, true, true, true, true, true, true, true, true, true, true, true, true, true, true, true, false, false, false, false, false, false, false, false, false, false, false, false, false, false, false, false, false, false, false, false, false, false, false, false, false, false, false] rfl rfl (by kernel_rfl) (fun _ _ _ h => h) (Or.inl ⟨by rfl, ?_⟩) ?_ ?_
      rotate_left
      · intro w'
        go_simp
        with_reducible rfl
      rotate_left
      · simp only [Act.put, List.setIfInBounds_toArray, List.set_cons_zero, List.set_cons_succ, i64_w, i32_w]
        rfl
      refine one_ (i := 20) (N := some 83) #[true, true, true, true, true, true, true, true, true, true, true, true, true, true, true, true, true, true, true, true, true, false, false, false, false, false, false, false, false, false, false, false, false, false, false, false, false, false, false, false, false, false, false, false, false, false, false] rfl rfl (by kernel_rfl) (by decide) (fun K hK => ?_)
      refine goes_ Try.func23 (by kernel_rfl) rfl #[.slice Ab bn cb, .slice Ac bn cc] (by rfl) rfl rfl (by simp only [List.map_toArray, List.map_cons, List.map_nil]; rfl) ?_
      with_reducible refine (Same8_calls Ab bn cb pb HBN.out Ac bn cc pb HBN.out true _ HAb.out HAbC.out HAc.out HAcC.out HPL.out (decide_eq_true rfl)).mono ?_
      rintro e wD ⟨rfl, hb⟩
      refine ⟨_, rfl, ?_⟩
      have HB_ := Aside0.mk (below_step HB.out hb)
      have HXg3_ := Aside0.mk ((hb.block g3 (blk_lt HXg3.out)).trans HXg3.out)
      have HXg4_ := Aside0.mk ((hb.block g4 (blk_lt HXg4.out)).trans HXg4.out)
      have HAp_ := Aside0.mk (Kd.C_below HAp.out hb)
      have HXg7_ := Aside0.mk ((hb.block g7 (blk_lt HXg7.out)).trans HXg7.out)
      have HAr_ := Aside0.mk (Kd.C_below HAr.out hb)
      have HXg9_ := Aside0.mk ((hb.block g9 (blk_lt HXg9.out)).trans HXg9.out)
      have HAb_ := Aside0.mk (Kd.C_below HAb.out hb)
      have HAc_ := Aside0.mk (Kd.C_below HAc.out hb)
      have HE1_ := Aside0.mk (Kd.C_below HE1.out hb)
      have HE2_ := Aside0.mk (Kd.C_below HE2.out hb)
      have HXg15_ := Aside0.mk ((hb.block g15 (blk_lt HXg15.out)).trans HXg15.out)
      have HG1_ := Aside0.mk (Kd.C_below HG1.out hb)
      have HG2_ := Aside0.mk (Kd.C_below HG2.out hb)
      have HXg17_ := Aside0.mk ((hb.block g17 (blk_lt HXg17.out)).trans HXg17.out)
      clear HB HXg3 HXg4 HAp HXg7 HAr HXg9 HAb HAc HE1 HE2 HXg15 HG1 HG2 HXg17
      have HB := HB_
      have HXg3 := HXg3_
      have HXg4 := HXg4_
      have HAp := HAp_
      have HXg7 := HXg7_
      have HAr := HAr_
      have HXg9 := HXg9_
      have HAb := HAb_
      have HAc := HAc_
      have HE1 := HE1_
      have HE2 := HE2_
      have HXg15 := HXg15_
      have HG1 := HG1_
      have HG2 := HG2_
      have HXg17 := HXg17_
      clear HB_ HXg3_ HXg4_ HAp_ HXg7_ HAr_ HXg9_ HAb_ HAc_ HE1_ HE2_ HXg15_ HG1_ HG2_ HXg17_
      clear hb
      refine hK.out _ _ ⟨(blk_cell HXg3.out 0).trans rfl, (blk_cell HXg3.out 1).trans rfl, (blk_cell HXg3.out 2).trans rfl, (blk_cell HXg4.out 0).trans rfl, (blk_cell HXg4.out 1).trans rfl, (blk_cell HXg4.out 2).trans rfl, (blk_cell HXg7.out 0).trans rfl, (blk_cell HXg7.out 1).trans rfl, (blk_cell HXg9.out 0).trans rfl, (blk_cell HXg9.out 1).trans rfl, (blk_cell HXg15.out 0).trans rfl, (blk_cell HXg15.out 1).trans rfl, (blk_cell HXg15.out 2).trans rfl, (blk_cell HXg17.out 0).trans rfl, (blk_cell HXg17.out 1).trans rfl, (blk_cell HXg17.out 2).trans rfl⟩ (fun hHeld => ?_)
      clear hK K
      refine norm_ (a' := ?_) ?_ ?_
      rotate_left
      · show Act.put _ (some 83) _ = _
        simp only [Act.put, List.setIfInBounds_toArray, List.set_cons_zero, List.set_cons_succ, i64_w, i32_w]
        rfl
      refine pure_ (i := 21) (N := some 84) (v := ?_) (a' := ?_) #[true, true, true, true, true, true, true, true, true, true, true, true, true, true, true, true, true, true, true, true, true, true, false, false, false, false, false, false, false, false, false, false, false, false, false, false, false, false, false, false, false, false, false, false, false, false, false] rfl rfl (by kernel_rfl) (fun _ _ _ h => h) (Or.inl ⟨by rfl, ?_⟩) ?_ ?_
      rotate_left
      · intro w'
        go_simp
        with_reducible rfl
      rotate_left
      · simp only [Act.put, List.setIfInBounds_toArray, List.set_cons_zero, List.set_cons_succ, i64_w, i32_w]
        rfl
      refine pure_ (i := 22) (N := some 85) (v := ?_) (a' := ?_) #[true, true, true, true, true, true, true, true, true, true, true, true, true, true, true, true, true, true, true, true, true, true, true, false, false, false, false, false, false, false, false, false, false, false, false, false, false, false, false, false, false, false, false, false, false, false, false] rfl rfl (by kernel_rfl) (fun _ _ _ h => h) (Or.inl ⟨by rfl, ?_⟩) ?_ ?_
      rotate_left
      · intro w'
        go_simp
        with_reducible rfl
      rotate_left
      · simp only [Act.put, List.setIfInBounds_toArray, List.set_cons_zero, List.set_cons_succ, i64_w, i32_w]
        rfl
      refine pure_ (i := 23) (N := some 86) (v := ?_) (a' := ?_) #[true, true, true, true, true, true, true, true, true, true, true, true, true, true, true, true, true, true, true, true, true, true, true, true, false, false, false, false, false, false, false, false, false, false, false, false, false, false, false, false, false, false, false, false, false, false, false] rfl rfl (by kernel_rfl) (fun _ _ _ h => h) (Or.inl ⟨by rfl, ?_⟩) ?_ ?_
      rotate_left
      · intro w'
        go_simp
        with_reducible rfl
      rotate_left
      · simp only [Act.put, List.setIfInBounds_toArray, List.set_cons_zero, List.set_cons_succ, i64_w, i32_w]
        rfl
      refine pure_ (i := 24) (N := some 87) (v := ?_) (a' := ?_) #[true, true, true, true, true, true, true, true, true, true, true, true, true, true, true, true, true, true, true, true, true, true, true, true, true, false, false, false, false, false, false, false, false, false, false, false, false, false, false, false, false, false, false, false, false, false, false] rfl rfl (by kernel_rfl) (fun _ _ _ h => h) (Or.inl ⟨by rfl, ?_⟩) ?_ ?_
      rotate_left
      · intro w'
        go_simp
        with_reducible rfl
      rotate_left
      · simp only [Act.put, List.setIfInBounds_toArray, List.set_cons_zero, List.set_cons_succ, i64_w, i32_w]
        rfl
      refine pure_ (i := 25) (N := some 88) (v := ?_) (a' := ?_) #[true, true, true, true, true, true, true, true, true, true, true, true, true, true, true, true, true, true, true, true, true, true, true, true, true, true, false, false, false, false, false, false, false, false, false, false, false, false, false, false, false, false, false, false, false, false, false] rfl rfl (by kernel_rfl) (fun _ _ _ h => h) (Or.inl ⟨by rfl, ?_⟩) ?_ ?_
      rotate_left
      · intro w'
        go_simp
        with_reducible rfl
      rotate_left
      · simp only [Act.put, List.setIfInBounds_toArray, List.set_cons_zero, List.set_cons_succ, i64_w, i32_w]
        rfl
      refine pure_ (i := 26) (N := some 89) (v := ?_) (a' := ?_) #[true, true, true, true, true, true, true, true, true, true, true, true, true, true, true, true, true, true, true, true, true, true, true, true, true, true, true, false, false, false, false, false, false, false, false, false, false, false, false, false, false, false, false, false, false, false, false] rfl rfl (by kernel_rfl) (fun _ _ _ h => h) (Or.inl ⟨by rfl, ?_⟩) ?_ ?_
      rotate_left
      · intro w'
        go_simp
        with_reducible rfl
      rotate_left
      · simp only [Act.put, List.setIfInBounds_toArray, List.set_cons_zero, List.set_cons_succ, i64_w, i32_w]
        rfl
      refine pure_ (i := 27) (N := some 90) (v := ?_) (a' := ?_) #[true, true, true, true, true, true, true, true, true, true, true, true, true, true, true, true, true, true, true, true, true, true, true, true, true, true, true, true, false, false, false, false, false, false, false, false, false, false, false, false, false, false, false, false, false, false, false] rfl rfl (by kernel_rfl) (fun _ _ _ h => h) (Or.inl ⟨by rfl, ?_⟩) ?_ ?_
      rotate_left
      · intro w'
        go_simp
        with_reducible rfl
      rotate_left
      · simp only [Act.put, List.setIfInBounds_toArray, List.set_cons_zero, List.set_cons_succ, i64_w, i32_w]
        rfl
      refine take_ (i := 28) (N := some 91) (v := ?_) (a' := ?_) #[true, true, true, true, true, true, true, true, true, true, true, true, true, true, true, true, true, true, true, true, true, true, true, true, true, true, true, true, true, false, false, false, false, false, false, false, false, false, false, false, false, false, false, false, false, false, false] rfl rfl (by kernel_rfl) (fun _ _ _ h => h) (Or.inl ⟨by rfl, ?_⟩) hHeld ?_ ?_
      rotate_left
      · rintro w' ⟨s0, s1, s2, s3, s4, s5, s6, s7, s8, s9, s10, s11, s12, s13, s14, s15⟩
        go_simp
        with_reducible rfl
      rotate_left
      · simp only [Act.put, List.setIfInBounds_toArray, List.set_cons_zero, List.set_cons_succ, i64_w, i32_w]
        rfl
      refine take_ (i := 29) (N := some 92) (v := ?_) (a' := ?_) #[true, true, true, true, true, true, true, true, true, true, true, true, true, true, true, true, true, true, true, true, true, true, true, true, true, true, true, true, true, true, false, false, false, false, false, false, false, false, false, false, false, false, false, false, false, false, false] rfl rfl (by kernel_rfl) (fun _ _ _ h => h) (Or.inl ⟨by rfl, ?_⟩) hHeld ?_ ?_
      rotate_left
      · rintro w' ⟨s0, s1, s2, s3, s4, s5, s6, s7, s8, s9, s10, s11, s12, s13, s14, s15⟩
        go_simp
        with_reducible rfl
      rotate_left
      · simp only [Act.put, List.setIfInBounds_toArray, List.set_cons_zero, List.set_cons_succ, i64_w, i32_w]
        rfl
      refine one_ (i := 30) (N := some 93) #[true, true, true, true, true, true, true, true, true, true, true, true, true, true, true, true, true, true, true, true, true, true, true, true, true, true, true, true, true, true, true, false, false, false, false, false, false, false, false, false, false, false, false, false, false, false, false] rfl rfl (by kernel_rfl) (by decide) (fun K hK => ?_)
      refine goes_ Try.func48 (by kernel_rfl) rfl #[.agg #[.int .i64 q0, .slice E1 x1 e1, .slice E2 x2 e2], .agg #[.int .i64 q0, .slice G1 x1 h1, .slice G2 x2 h2]] (by rfl) rfl rfl (by simp only [List.map_toArray, List.map_cons, List.map_nil]; rfl) ?_
      with_reducible refine (RSame_calls q0 E1 x1 e1 q1 HX1.out E2 x2 e2 q2 HX2.out q0 G1 x1 h1 q1 HX1.out G2 x2 h2 q2 HX2.out true _ HE1.out HE1C.out HE2.out HE2C.out HG1.out HG1C.out HG2.out HG2C.out HXL.out (decide_eq_true ⟨rfl, rfl, rfl⟩)).mono ?_
      rintro e wE ⟨rfl, hb⟩
      refine ⟨_, rfl, ?_⟩
      have HB_ := Aside0.mk (below_step HB.out hb)
      have HXg3_ := Aside0.mk ((hb.block g3 (blk_lt HXg3.out)).trans HXg3.out)
      have HXg4_ := Aside0.mk ((hb.block g4 (blk_lt HXg4.out)).trans HXg4.out)
      have HAp_ := Aside0.mk (Kd.C_below HAp.out hb)
      have HXg7_ := Aside0.mk ((hb.block g7 (blk_lt HXg7.out)).trans HXg7.out)
      have HAr_ := Aside0.mk (Kd.C_below HAr.out hb)
      have HXg9_ := Aside0.mk ((hb.block g9 (blk_lt HXg9.out)).trans HXg9.out)
      have HAb_ := Aside0.mk (Kd.C_below HAb.out hb)
      have HAc_ := Aside0.mk (Kd.C_below HAc.out hb)
      have HE1_ := Aside0.mk (Kd.C_below HE1.out hb)
      have HE2_ := Aside0.mk (Kd.C_below HE2.out hb)
      have HXg15_ := Aside0.mk ((hb.block g15 (blk_lt HXg15.out)).trans HXg15.out)
      have HG1_ := Aside0.mk (Kd.C_below HG1.out hb)
      have HG2_ := Aside0.mk (Kd.C_below HG2.out hb)
      have HXg17_ := Aside0.mk ((hb.block g17 (blk_lt HXg17.out)).trans HXg17.out)
      clear HB HXg3 HXg4 HAp HXg7 HAr HXg9 HAb HAc HE1 HE2 HXg15 HG1 HG2 HXg17
      have HB := HB_
      have HXg3 := HXg3_
      have HXg4 := HXg4_
      have HAp := HAp_
      have HXg7 := HXg7_
      have HAr := HAr_
      have HXg9 := HXg9_
      have HAb := HAb_
      have HAc := HAc_
      have HE1 := HE1_
      have HE2 := HE2_
      have HXg15 := HXg15_
      have HG1 := HG1_
      have HG2 := HG2_
      have HXg17 := HXg17_
      clear HB_ HXg3_ HXg4_ HAp_ HXg7_ HAr_ HXg9_ HAb_ HAc_ HE1_ HE2_ HXg15_ HG1_ HG2_ HXg17_
      clear hb
      refine hK.out _ _ ⟨(blk_cell HXg3.out 0).trans rfl, (blk_cell HXg3.out 1).trans rfl, (blk_cell HXg3.out 2).trans rfl, (blk_cell HXg4.out 0).trans rfl, (blk_cell HXg4.out 1).trans rfl, (blk_cell HXg4.out 2).trans rfl, (blk_cell HXg7.out 0).trans rfl, (blk_cell HXg7.out 1).trans rfl, (blk_cell HXg9.out 0).trans rfl, (blk_cell HXg9.out 1).trans rfl, (blk_cell HXg15.out 0).trans rfl, (blk_cell HXg15.out 1).trans rfl, (blk_cell HXg15.out 2).trans rfl, (blk_cell HXg17.out 0).trans rfl, (blk_cell HXg17.out 1).trans rfl, (blk_cell HXg17.out 2).trans rfl⟩ (fun hHeld => ?_)
      clear hK K
      refine norm_ (a' := ?_) ?_ ?_
      rotate_left
      · show Act.put _ (some 93) _ = _
        simp only [Act.put, List.setIfInBounds_toArray, List.set_cons_zero, List.set_cons_succ, i64_w, i32_w]
        rfl
      refine pure_ (i := 31) (N := some 94) (v := ?_) (a' := ?_) #[true, true, true, true, true, true, true, true, true, true, true, true, true, true, true, true, true, true, true, true, true, true, true, true, true, true, true, true, true, true, true, true, false, false, false, false, false, false, false, false, false, false, false, false, false, false, false] rfl rfl (by kernel_rfl) (fun _ _ _ h => h) (Or.inl ⟨by rfl, ?_⟩) ?_ ?_
      rotate_left
      · intro w'
        go_simp
        with_reducible rfl
      rotate_left
      · simp only [Act.put, List.setIfInBounds_toArray, List.set_cons_zero, List.set_cons_succ, i64_w, i32_w]
        rfl
      refine pure_ (i := 32) (N := some 95) (v := ?_) (a' := ?_) #[true, true, true, true, true, true, true, true, true, true, true, true, true, true, true, true, true, true, true, true, true, true, true, true, true, true, true, true, true, true, true, true, true, false, false, false, false, false, false, false, false, false, false, false, false, false, false] rfl rfl (by kernel_rfl) (fun _ _ _ h => h) (Or.inl ⟨by rfl, ?_⟩) ?_ ?_
      rotate_left
      · intro w'
        go_simp
        with_reducible rfl
      rotate_left
      · simp only [Act.put, List.setIfInBounds_toArray, List.set_cons_zero, List.set_cons_succ, i64_w, i32_w]
        rfl
      refine pure_ (i := 33) (N := some 96) (v := ?_) (a' := ?_) #[true, true, true, true, true, true, true, true, true, true, true, true, true, true, true, true, true, true, true, true, true, true, true, true, true, true, true, true, true, true, true, true, true, true, false, false, false, false, false, false, false, false, false, false, false, false, false] rfl rfl (by kernel_rfl) (fun _ _ _ h => h) (Or.inl ⟨by rfl, ?_⟩) ?_ ?_
      rotate_left
      · intro w'
        go_simp
        with_reducible rfl
      rotate_left
      · simp only [Act.put, List.setIfInBounds_toArray, List.set_cons_zero, List.set_cons_succ, i64_w, i32_w]
        rfl
      refine pure_ (i := 34) (N := some 97) (v := ?_) (a' := ?_) #[true, true, true, true, true, true, true, true, true, true, true, true, true, true, true, true, true, true, true, true, true, true, true, true, true, true, true, true, true, true, true, true, true, true, true, false, false, false, false, false, false, false, false, false, false, false, false] rfl rfl (by kernel_rfl) (fun _ _ _ h => h) (Or.inl ⟨by rfl, ?_⟩) ?_ ?_
      rotate_left
      · intro w'
        go_simp
        with_reducible rfl
      rotate_left
      · simp only [Act.put, List.setIfInBounds_toArray, List.set_cons_zero, List.set_cons_succ, i64_w, i32_w]
        rfl
      refine pure_ (i := 35) (N := some 98) (v := ?_) (a' := ?_) #[true, true, true, true, true, true, true, true, true, true, true, true, true, true, true, true, true, true, true, true, true, true, true, true, true, true, true, true, true, true, true, true, true, true, true, true, false, false, false, false, false, false, false, false, false, false, false] rfl rfl (by kernel_rfl) (fun _ _ _ h => h) (Or.inl ⟨by rfl, ?_⟩) ?_ ?_
      rotate_left
      · intro w'
        go_simp
        with_reducible rfl
      rotate_left
      · simp only [Act.put, List.setIfInBounds_toArray, List.set_cons_zero, List.set_cons_succ, i64_w, i32_w]
        rfl
      refine pure_ (i := 36) (N := some 99) (v := ?_) (a' := ?_) #[true, true, true, true, true, true, true, true, true, true, true, true, true, true, true, true, true, true, true, true, true, true, true, true, true, true, true, true, true, true, true, true, true, true, true, true, true, false, false, false, false, false, false, false, false, false, false] rfl rfl (by kernel_rfl) (fun _ _ _ h => h) (Or.inl ⟨by rfl, ?_⟩) ?_ ?_
      rotate_left
      · intro w'
        go_simp
        with_reducible rfl
      rotate_left
      · simp only [Act.put, List.setIfInBounds_toArray, List.set_cons_zero, List.set_cons_succ, i64_w, i32_w]
        rfl
      refine pure_ (i := 37) (N := some 100) (v := ?_) (a' := ?_) #[true, true, true, true, true, true, true, true, true, true, true, true, true, true, true, true, true, true, true, true, true, true, true, true, true, true, true, true, true, true, true, true, true, true, true, true, true, true, false, false, false, false, false, false, false, false, false] rfl rfl (by kernel_rfl) (fun _ _ _ h => h) (Or.inl ⟨by rfl, ?_⟩) ?_ ?_
      rotate_left
      · intro w'
        go_simp
        with_reducible rfl
      rotate_left
      · simp only [Act.put, List.setIfInBounds_toArray, List.set_cons_zero, List.set_cons_succ, i64_w, i32_w]
        rfl
      refine take_ (i := 38) (N := some 101) (v := ?_) (a' := ?_) #[true, true, true, true, true, true, true, true, true, true, true, true, true, true, true, true, true, true, true, true, true, true, true, true, true, true, true, true, true, true, true, true, true, true, true, true, true, true, true, false, false, false, false, false, false, false, false] rfl rfl (by kernel_rfl) (fun _ _ _ h => h) (Or.inl ⟨by rfl, ?_⟩) hHeld ?_ ?_
      rotate_left
      · rintro w' ⟨s0, s1, s2, s3, s4, s5, s6, s7, s8, s9, s10, s11, s12, s13, s14, s15⟩
        go_simp
        with_reducible rfl
      rotate_left
      · simp only [Act.put, List.setIfInBounds_toArray, List.set_cons_zero, List.set_cons_succ, i64_w, i32_w]
        rfl
      refine take_ (i := 39) (N := some 102) (v := ?_) (a' := ?_) #[true, true, true, true, true, true, true, true, true, true, true, true, true, true, true, true, true, true, true, true, true, true, true, true, true, true, true, true, true, true, true, true, true, true, true, true, true, true, true, true, false, false, false, false, false, false, false] rfl rfl (by kernel_rfl) (fun _ _ _ h => h) (Or.inl ⟨by rfl, ?_⟩) hHeld ?_ ?_
      rotate_left
      · rintro w' ⟨s0, s1, s2, s3, s4, s5, s6, s7, s8, s9, s10, s11, s12, s13, s14, s15⟩
        go_simp
        with_reducible rfl
      rotate_left
      · simp only [Act.put, List.setIfInBounds_toArray, List.set_cons_zero, List.set_cons_succ, i64_w, i32_w]
        rfl
      refine take_ (i := 41) (N := some 104) (v := ?_) (a' := ?_) #[true, true, true, true, true, true, true, true, true, true, true, true, true, true, true, true, true, true, true, true, true, true, true, true, true, true, true, true, true, true, true, true, true, true, true, true, true, true, true, true, false, true, false, false, false, false, false] rfl rfl (by kernel_rfl) (fun _ _ _ h => h) (Or.inl ⟨by rfl, ?_⟩) hHeld ?_ ?_
      rotate_left
      · rintro w' ⟨s0, s1, s2, s3, s4, s5, s6, s7, s8, s9, s10, s11, s12, s13, s14, s15⟩
        go_simp
        with_reducible rfl
      rotate_left
      · simp only [Act.put, List.setIfInBounds_toArray, List.set_cons_zero, List.set_cons_succ, i64_w, i32_w]
        rfl
      refine take_ (i := 42) (N := some 105) (v := ?_) (a' := ?_) #[true, true, true, true, true, true, true, true, true, true, true, true, true, true, true, true, true, true, true, true, true, true, true, true, true, true, true, true, true, true, true, true, true, true, true, true, true, true, true, true, false, true, true, false, false, false, false] rfl rfl (by kernel_rfl) (fun _ _ _ h => h) (Or.inl ⟨by rfl, ?_⟩) hHeld ?_ ?_
      rotate_left
      · rintro w' ⟨s0, s1, s2, s3, s4, s5, s6, s7, s8, s9, s10, s11, s12, s13, s14, s15⟩
        go_simp
        with_reducible rfl
      rotate_left
      · simp only [Act.put, List.setIfInBounds_toArray, List.set_cons_zero, List.set_cons_succ, i64_w, i32_w]
        rfl
      refine one_ (i := 40) (N := some 103) #[true, true, true, true, true, true, true, true, true, true, true, true, true, true, true, true, true, true, true, true, true, true, true, true, true, true, true, true, true, true, true, true, true, true, true, true, true, true, true, true, true, true, true, false, false, false, false] rfl rfl (by kernel_rfl) (by decide) (fun K hK => ?_)
      refine goes_ Try.func42 (by kernel_rfl) rfl #[.agg #[.int .i64 k, .slice A1 n1 c1, .slice A2 n2 c2], .agg #[.int .i64 j, .slice B1 m1 d1, .slice B2 m2 d2]] (by rfl) rfl rfl (by simp only [List.map_toArray, List.map_cons, List.map_nil]; rfl) ?_
      with_reducible refine (MSame_calls k A1 n1 c1 ns HN1.out A2 n2 c2 ts HN2.out j B1 m1 d1 ms HM1.out B2 m2 d2 us HM2.out sr _ (Kd.C_below HC1.out HB.out) HCC1.out (Kd.C_below HC2.out HB.out) HCC2.out (Kd.C_below HD1.out HB.out) HDD1.out (Kd.C_below HD2.out HB.out) HDD2.out HL.out HSR.out).mono ?_
      rintro e wF ⟨rfl, hb⟩
      refine ⟨_, rfl, ?_⟩
      have HB_ := Aside0.mk (below_step HB.out hb)
      have HXg3_ := Aside0.mk ((hb.block g3 (blk_lt HXg3.out)).trans HXg3.out)
      have HXg4_ := Aside0.mk ((hb.block g4 (blk_lt HXg4.out)).trans HXg4.out)
      have HAp_ := Aside0.mk (Kd.C_below HAp.out hb)
      have HXg7_ := Aside0.mk ((hb.block g7 (blk_lt HXg7.out)).trans HXg7.out)
      have HAr_ := Aside0.mk (Kd.C_below HAr.out hb)
      have HXg9_ := Aside0.mk ((hb.block g9 (blk_lt HXg9.out)).trans HXg9.out)
      have HAb_ := Aside0.mk (Kd.C_below HAb.out hb)
      have HAc_ := Aside0.mk (Kd.C_below HAc.out hb)
      have HE1_ := Aside0.mk (Kd.C_below HE1.out hb)
      have HE2_ := Aside0.mk (Kd.C_below HE2.out hb)
      have HXg15_ := Aside0.mk ((hb.block g15 (blk_lt HXg15.out)).trans HXg15.out)
      have HG1_ := Aside0.mk (Kd.C_below HG1.out hb)
      have HG2_ := Aside0.mk (Kd.C_below HG2.out hb)
      have HXg17_ := Aside0.mk ((hb.block g17 (blk_lt HXg17.out)).trans HXg17.out)
      clear HB HXg3 HXg4 HAp HXg7 HAr HXg9 HAb HAc HE1 HE2 HXg15 HG1 HG2 HXg17
      have HB := HB_
      have HXg3 := HXg3_
      have HXg4 := HXg4_
      have HAp := HAp_
      have HXg7 := HXg7_
      have HAr := HAr_
      have HXg9 := HXg9_
      have HAb := HAb_
      have HAc := HAc_
      have HE1 := HE1_
      have HE2 := HE2_
      have HXg15 := HXg15_
      have HG1 := HG1_
      have HG2 := HG2_
      have HXg17 := HXg17_
      clear HB_ HXg3_ HXg4_ HAp_ HXg7_ HAr_ HXg9_ HAb_ HAc_ HE1_ HE2_ HXg15_ HG1_ HG2_ HXg17_
      clear hb
      refine hK.out _ _ ⟨(blk_cell HXg3.out 0).trans rfl, (blk_cell HXg3.out 1).trans rfl, (blk_cell HXg3.out 2).trans rfl, (blk_cell HXg4.out 0).trans rfl, (blk_cell HXg4.out 1).trans rfl, (blk_cell HXg4.out 2).trans rfl, (blk_cell HXg7.out 0).trans rfl, (blk_cell HXg7.out 1).trans rfl, (blk_cell HXg9.out 0).trans rfl, (blk_cell HXg9.out 1).trans rfl, (blk_cell HXg15.out 0).trans rfl, (blk_cell HXg15.out 1).trans rfl, (blk_cell HXg15.out 2).trans rfl, (blk_cell HXg17.out 0).trans rfl, (blk_cell HXg17.out 1).trans rfl, (blk_cell HXg17.out 2).trans rfl⟩ (fun hHeld => ?_)
      clear hK K
      refine norm_ (a' := ?_) ?_ ?_
      rotate_left
      · show Act.put _ (some 103) _ = _
        simp only [Act.put, List.setIfInBounds_toArray, List.set_cons_zero, List.set_cons_succ, i64_w, i32_w]
        rfl
      refine one_ (i := 43) (N := some 106) #[true, true, true, true, true, true, true, true, true, true, true, true, true, true, true, true, true, true, true, true, true, true, true, true, true, true, true, true, true, true, true, true, true, true, true, true, true, true, true, true, true, true, true, true, false, false, false] rfl rfl (by kernel_rfl) (by decide) (fun K hK => ?_)
      refine goes_ Try.func48 (by kernel_rfl) rfl #[.agg #[.int .i64 k, .slice A1 n1 c1, .slice A2 n2 c2], .agg #[.int .i64 j, .slice B1 m1 d1, .slice B2 m2 d2]] (by rfl) rfl rfl (by simp only [List.map_toArray, List.map_cons, List.map_nil]; rfl) ?_
      with_reducible refine (RSame_calls k A1 n1 c1 ns HN1.out A2 n2 c2 ts HN2.out j B1 m1 d1 ms HM1.out B2 m2 d2 us HM2.out sr _ (Kd.C_below HC1.out HB.out) HCC1.out (Kd.C_below HC2.out HB.out) HCC2.out (Kd.C_below HD1.out HB.out) HDD1.out (Kd.C_below HD2.out HB.out) HDD2.out HL.out HSR.out).mono ?_
      rintro e wG ⟨rfl, hb⟩
      refine ⟨_, rfl, ?_⟩
      have HB_ := Aside0.mk (below_step HB.out hb)
      have HXg3_ := Aside0.mk ((hb.block g3 (blk_lt HXg3.out)).trans HXg3.out)
      have HXg4_ := Aside0.mk ((hb.block g4 (blk_lt HXg4.out)).trans HXg4.out)
      have HAp_ := Aside0.mk (Kd.C_below HAp.out hb)
      have HXg7_ := Aside0.mk ((hb.block g7 (blk_lt HXg7.out)).trans HXg7.out)
      have HAr_ := Aside0.mk (Kd.C_below HAr.out hb)
      have HXg9_ := Aside0.mk ((hb.block g9 (blk_lt HXg9.out)).trans HXg9.out)
      have HAb_ := Aside0.mk (Kd.C_below HAb.out hb)
      have HAc_ := Aside0.mk (Kd.C_below HAc.out hb)
      have HE1_ := Aside0.mk (Kd.C_below HE1.out hb)
      have HE2_ := Aside0.mk (Kd.C_below HE2.out hb)
      have HXg15_ := Aside0.mk ((hb.block g15 (blk_lt HXg15.out)).trans HXg15.out)
      have HG1_ := Aside0.mk (Kd.C_below HG1.out hb)
      have HG2_ := Aside0.mk (Kd.C_below HG2.out hb)
      have HXg17_ := Aside0.mk ((hb.block g17 (blk_lt HXg17.out)).trans HXg17.out)
      clear HB HXg3 HXg4 HAp HXg7 HAr HXg9 HAb HAc HE1 HE2 HXg15 HG1 HG2 HXg17
      have HB := HB_
      have HXg3 := HXg3_
      have HXg4 := HXg4_
      have HAp := HAp_
      have HXg7 := HXg7_
      have HAr := HAr_
      have HXg9 := HXg9_
      have HAb := HAb_
      have HAc := HAc_
      have HE1 := HE1_
      have HE2 := HE2_
      have HXg15 := HXg15_
      have HG1 := HG1_
      have HG2 := HG2_
      have HXg17 := HXg17_
      clear HB_ HXg3_ HXg4_ HAp_ HXg7_ HAr_ HXg9_ HAb_ HAc_ HE1_ HE2_ HXg15_ HG1_ HG2_ HXg17_
      clear hb
      refine hK.out _ _ ⟨(blk_cell HXg3.out 0).trans rfl, (blk_cell HXg3.out 1).trans rfl, (blk_cell HXg3.out 2).trans rfl, (blk_cell HXg4.out 0).trans rfl, (blk_cell HXg4.out 1).trans rfl, (blk_cell HXg4.out 2).trans rfl, (blk_cell HXg7.out 0).trans rfl, (blk_cell HXg7.out 1).trans rfl, (blk_cell HXg9.out 0).trans rfl, (blk_cell HXg9.out 1).trans rfl, (blk_cell HXg15.out 0).trans rfl, (blk_cell HXg15.out 1).trans rfl, (blk_cell HXg15.out 2).trans rfl, (blk_cell HXg17.out 0).trans rfl, (blk_cell HXg17.out 1).trans rfl, (blk_cell HXg17.out 2).trans rfl⟩ (fun hHeld => ?_)
      clear hK K
      refine norm_ (a' := ?_) ?_ ?_
      rotate_left
      · show Act.put _ (some 106) _ = _
        simp only [Act.put, List.setIfInBounds_toArray, List.set_cons_zero, List.set_cons_succ, i64_w, i32_w]
        rfl
      refine pure_ (i := 44) (N := some 107) (v := ?_) (a' := ?_) #[true, true, true, true, true, true, true, true, true, true, true, true, true, true, true, true, true, true, true, true, true, true, true, true, true, true, true, true, true, true, true, true, true, true, true, true, true, true, true, true, true, true, true, true, true, false, false] rfl rfl (by kernel_rfl) (fun _ _ _ h => h) (Or.inl ⟨by rfl, ?_⟩) ?_ ?_
      rotate_left
      · intro w'
        go_simp
        with_reducible rfl
      rotate_left
      · simp only [Act.put, List.setIfInBounds_toArray, List.set_cons_zero, List.set_cons_succ, i64_w, i32_w]
        rfl
      refine pure_ (i := 45) (N := some 108) (v := ?_) (a' := ?_) #[true, true, true, true, true, true, true, true, true, true, true, true, true, true, true, true, true, true, true, true, true, true, true, true, true, true, true, true, true, true, true, true, true, true, true, true, true, true, true, true, true, true, true, true, true, true, false] rfl rfl (by kernel_rfl) (fun _ _ _ h => h) (Or.inl ⟨by rfl, ?_⟩) ?_ ?_
      rotate_left
      · intro w'
        go_simp
        with_reducible rfl
      rotate_left
      · simp only [Act.put, List.setIfInBounds_toArray, List.set_cons_zero, List.set_cons_succ, i64_w, i32_w]
        rfl
      refine pure_ (i := 46) (N := some 6) (v := ?_) (a' := ?_) #[true, true, true, true, true, true, true, true, true, true, true, true, true, true, true, true, true, true, true, true, true, true, true, true, true, true, true, true, true, true, true, true, true, true, true, true, true, true, true, true, true, true, true, true, true, true, true] rfl rfl (by kernel_rfl) (fun _ _ _ h => h) (Or.inl ⟨by rfl, ?_⟩) ?_ ?_
      rotate_left
      · intro w'
        go_simp
        with_reducible rfl
      rotate_left
      · simp only [Act.put, List.setIfInBounds_toArray, List.set_cons_zero, List.set_cons_succ, i64_w, i32_w]
        rfl
      refine done_ (by kernel_rfl) ?_

      go_wp2
      go_ret
      exact ⟨rfl, HB.out⟩
end Go.Proofs.Ytagmefjpnmjcjab.Mh
