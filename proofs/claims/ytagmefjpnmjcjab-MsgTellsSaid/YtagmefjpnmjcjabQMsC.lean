/- Cut to what this claim names. -/
import Derived.Test.YtagmefjpnmjcjabQMsB
import Derived.Test.YtagmefjpnmjcjabQMsx3
import Derived.Test.YtagmefjpnmjcjabQMsF
/- The messages' contracts with named lengths: Same, Large. -/
namespace Go.Proofs.Ytagmefjpnmjcjab.Mh
open Go.RowKit Go.Proofs.YtagmefjpnmjcjabW.PrintWords Go.Proofs.YtagmefjpnmjcjabW.PrintLast Go.Proofs.YtagmefjpnmjcjabW.PrintMore
open Go.Proofs.Ytagmefjpnmjcjab.Ms
open Go.Proofs.Ytagmefjpnmjcjab.FrNum (wrap_succ rd_drop Bytes)
set_option linter.unusedVariables false
set_option linter.unusedSimpArgs false
theorem equalU_loop (a b : List Int) (hab : a.length = b.length) (ha : a.length < 9223372036854775807) (d : Nat) : ∀ (k i : Nat), i ≤ a.length → a.length - i = d → d < k → slices_Equal_uint64_uint64.l0 k a b (a.length : Int) (i : Int) = some (decide (a.drop i = b.drop i)) := by
  induction d with
  | zero =>
    intro k i h1 hd hk
    obtain ⟨k, rfl⟩ : ∃ m, k = m + 1 := ⟨k - 1, by omega⟩
    simp only [slices_Equal_uint64_uint64.l0]
    rw [if_neg (by omega), List.drop_eq_nil_of_le (by omega), List.drop_eq_nil_of_le (by omega)]
    rfl
  | succ d ih =>
    intro k i h1 hd hk
    obtain ⟨k, rfl⟩ : ∃ m, k = m + 1 := ⟨k - 1, by omega⟩
    simp only [slices_Equal_uint64_uint64.l0]
    rw [if_pos (by omega), if_pos (by omega), if_pos (by omega), if_pos (by omega), rd_drop a i (by omega), rd_drop b i (by omega)]
    by_cases e : rd a (i : Int) = rd b (i : Int)
    · rw [if_pos e, wrap_succ i (by omega), ih k (i + 1) (by omega) (by omega) (by omega)]
      congr 1
      rw [decide_eq_decide, e]
      simp
    · rw [if_neg e]
      congr 1
      symm
      apply decide_eq_false
      intro h
      injection h with h _
      exact e h
theorem equalU_eq (k : Nat) (a b : List Int) (ha : a.length < 9223372036854775807) (hk : a.length < k) : slices_Equal_uint64_uint64.f k a b = some (decide (a = b)) := by
  unfold slices_Equal_uint64_uint64.f
  by_cases h : a.length = b.length
  · rw [if_pos (by omega)]
    have := equalU_loop a b h ha a.length k 0 (by omega) (by omega) hk
    simpa using this
  · rw [if_neg (by omega)]
    congr 1
    symm
    exact decide_eq_false (fun e => h (by rw [e]))
theorem str_eq_iff (a b : ByteArray) : a.toList = b.toList ↔ a = b := ⟨fun h => by
  rw [Lib.toList_data, Lib.toList_data] at h
  exact ByteArray.ext (Array.ext' h), fun h => by rw [h]⟩
theorem equalS_loop (a b : List ByteArray) (hab : a.length = b.length) (ha : a.length < 9223372036854775807) (d : Nat) : ∀ (k i : Nat), i ≤ a.length → a.length - i = d → d < k → slices_Equal_string_string.l0 k a b (a.length : Int) (i : Int) = some (decide (a.drop i = b.drop i)) := by
  induction d with
  | zero =>
    intro k i h1 hd hk
    obtain ⟨k, rfl⟩ : ∃ m, k = m + 1 := ⟨k - 1, by omega⟩
    simp only [slices_Equal_string_string.l0]
    rw [if_neg (by omega), List.drop_eq_nil_of_le (by omega), List.drop_eq_nil_of_le (by omega)]
    rfl
  | succ d ih =>
    intro k i h1 hd hk
    obtain ⟨k, rfl⟩ : ∃ m, k = m + 1 := ⟨k - 1, by omega⟩
    simp only [slices_Equal_string_string.l0]
    rw [if_pos (by omega), if_pos (by omega), if_pos (by omega), if_pos (by omega), rdS_drop a i (by omega), rdS_drop b i (by omega)]
    by_cases e : rdOf ByteArray.empty a (i : Int) = rdOf ByteArray.empty b (i : Int)
    · rw [if_pos (by rw [e]), wrap_succ i (by omega), ih k (i + 1) (by omega) (by omega) (by omega)]
      congr 1
      rw [decide_eq_decide, e]
      simp
    · rw [if_neg (fun h => e ((str_eq_iff _ _).1 h))]
      congr 1
      symm
      apply decide_eq_false
      intro h
      injection h with h _
      exact e h
theorem equalS_eq (k : Nat) (a b : List ByteArray) (ha : a.length < 9223372036854775807) (hk : a.length < k) : slices_Equal_string_string.f k a b = some (decide (a = b)) := by
  unfold slices_Equal_string_string.f
  by_cases h : a.length = b.length
  · rw [if_pos (by omega)]
    have := equalS_loop a b h ha a.length k 0 (by omega) (by omega) hk
    simpa using this
  · rw [if_neg (by omega)]
    congr 1
    symm
    exact decide_eq_false (fun e => h (by rw [e]))
theorem msame_eq (k : Nat) (a : Int) (ns : List Int) (ts : List ByteArray) (b : Int) (ms : List Int) (us : List ByteArray) (h1 : ns.length < 9223372036854775807) (h2 : ts.length < 9223372036854775807) (hk : ns.length + ts.length < k) :
    msg_Same.f k a ns ts b ms us = some (decide (a = b ∧ ns = ms ∧ ts = us)) := by
  unfold msg_Same.f
  by_cases e : a = b
  · rw [if_pos e, equalU_eq k ns ms h1 (by omega)]
    simp only [Option.bind_some]
    by_cases e1 : ns = ms
    · rw [if_pos (decide_eq_true e1), equalS_eq k ts us h2 (by omega)]
      simp [e, e1]
    · rw [if_neg (by simpa using e1)]
      simp [e1]
  · rw [if_neg e]
    simp [e]
theorem MSame_calls (a : Int) (A1 : Option Addr) (n1 c1 : Nat) (ns : List Int) (hn1 : ns.length = n1) (A2 : Option Addr) (n2 c2 : Nat) (ts : List ByteArray) (hn2 : ts.length = n2)
    (b : Int) (B1 : Option Addr) (m1 d1 : Nat) (ms : List Int) (hm1 : ms.length = m1) (B2 : Option Addr) (m2 d2 : Nat) (us : List ByteArray) (hm2 : us.length = m2) (r : Bool) (w : World)
    (hC1 : Kd.C (Kd.int .u64) w A1 n1 ns) (hc1 : n1 ≤ c1) (hC2 : Kd.C Kd.string w A2 n2 ts) (hc2 : n2 ≤ c2) (hD1 : Kd.C (Kd.int .u64) w B1 m1 ms) (hd1 : m1 ≤ d1) (hD2 : Kd.C Kd.string w B2 m2 us) (hd2 : m2 ≤ d2) (hl : n1 ≤ 1000000 ∧ n2 ≤ 1000000) (h : decide (a = b ∧ ns = ms ∧ ts = us) = r) :
    Calls Try.prog 42 #[.agg #[.int .i64 a, .slice A1 n1 c1, .slice A2 n2 c2], .agg #[.int .i64 b, .slice B1 m1 d1, .slice B2 m2 d2]] w fun e w' => e = .returned (.bool r) ∧ Below w.heap.size w w' := by
  subst hn1 hn2 hm1 hm2
  exact msg_Same.calls (ns.length + ts.length + 1) a A1 c1 ns A2 c2 ts b B1 d1 ms B2 d2 us r w hC1 hc1 hC2 hc2 hD1 hd1 hD2 hd2 (by rw [msame_eq _ a ns ts b ms us (by omega) (by omega) (by omega), h])
/-- Is a message more than statements look at? -/
def largeS (ns : List Int) (ts : List ByteArray) : Bool := decide (100 < ns.length) || decide (100 < ts.length) || ts.any (fun t => decide (2000 < t.size))
theorem large_loop (a : Int) (ns : List Int) (ts : List ByteArray) (hl : ts.length ≤ 9223372036854775807) (d : Nat) : ∀ (k i : Nat), i ≤ ts.length → ts.length - i = d → d < k → signalmanref03_Large.l0 k (i : Int) a ns ts = some ((ts.drop i).any (fun t => decide (2000 < t.size))) := by
  induction d with
  | zero =>
    intro k i h1 hd hk
    obtain ⟨k, rfl⟩ : ∃ m, k = m + 1 := ⟨k - 1, by omega⟩
    simp only [signalmanref03_Large.l0]
    rw [if_neg (by omega), List.drop_eq_nil_of_le (by omega)]
    rfl
  | succ d ih =>
    intro k i h1 hd hk
    obtain ⟨k, rfl⟩ : ∃ m, k = m + 1 := ⟨k - 1, by omega⟩
    simp only [signalmanref03_Large.l0]
    rw [if_pos (by omega), if_pos (by omega), rdS_drop ts i (by omega), List.any_cons]
    by_cases e : ((rdOf ByteArray.empty ts (i : Int)).size : Int) > 2000
    · rw [if_pos e, decide_eq_true (by omega)]
      rfl
    · rw [if_neg e, wrap_succ i (by omega), ih k (i + 1) (by omega) (by omega) (by omega), decide_eq_false (by omega)]
      rfl
theorem large_eq (k : Nat) (a : Int) (ns : List Int) (ts : List ByteArray) (hl : ts.length ≤ 9223372036854775807) (hk : ts.length + 1 < k) : signalmanref03_Large.f k a ns ts = some (largeS ns ts) := by
  obtain ⟨k, rfl⟩ : ∃ m, k = m + 1 := ⟨k - 1, by omega⟩
  unfold signalmanref03_Large.f largeS
  by_cases c : (ns.length : Int) > 100
  · rw [if_pos c]
    simp only [signalmanref03_Large.j0]
    rw [if_pos trivial, decide_eq_true (show 100 < ns.length by omega)]
    rfl
  · rw [if_neg c, decide_eq_false (show ¬ 100 < ns.length by omega)]
    simp only [signalmanref03_Large.j0]
    by_cases c2 : (ts.length : Int) > 100
    · rw [if_pos (decide_eq_true c2), decide_eq_true (show 100 < ts.length by omega)]
      rfl
    · rw [if_neg (by simpa using c2), decide_eq_false (show ¬ 100 < ts.length by omega)]
      have := large_loop a ns ts hl ts.length k 0 (by omega) (by omega) (by omega)
      simpa using this
theorem largeS_small {ns : List Int} {ts : List ByteArray} (h : largeS ns ts = false) : ns.length ≤ 100 ∧ ts.length ≤ 100 := by
  simp only [largeS, Bool.or_eq_false_iff, decide_eq_false_iff_not] at h
  omega
theorem Large_calls (a : Int) (A1 : Option Addr) (n1 c1 : Nat) (ns : List Int) (hn1 : ns.length = n1) (A2 : Option Addr) (n2 c2 : Nat) (ts : List ByteArray) (hn2 : ts.length = n2) (r : Bool) (w : World)
    (hC1 : Kd.C (Kd.int .u64) w A1 n1 ns) (hc1 : n1 ≤ c1) (hC2 : Kd.C Kd.string w A2 n2 ts) (hc2 : n2 ≤ c2) (hl : n2 ≤ 9223372036854775807) (h : largeS ns ts = r) :
    Calls Try.prog 38 #[.agg #[.int .i64 a, .slice A1 n1 c1, .slice A2 n2 c2]] w fun e w' => e = .returned (.bool r) ∧ Below w.heap.size w w' := by
  subst hn1 hn2
  exact signalmanref03_Large.calls (ts.length + 2) a A1 c1 ns A2 c2 ts r w hC1 hc1 hC2 hc2 (by rw [large_eq _ a ns ts hl (by omega), h])
end Go.Proofs.Ytagmefjpnmjcjab.Mh

/- That signalmanlaw03 is awake, by hand. -/
namespace Go.Proofs.Ytagmefjpnmjcjab.Mh
open Go.RowKit Go.Proofs.YtagmefjpnmjcjabW.PrintWords Go.Proofs.YtagmefjpnmjcjabW.PrintLast Go.Proofs.YtagmefjpnmjcjabW.PrintMore
open Go.Proofs.Ytagmefjpnmjcjab.FrNum (Bytes)
open Go.Proofs.Ytagmefjpnmjcjab.Fh (Same8_calls C_lit8 bts_of)
attribute [local go_sem] max2_int min2_int max_two min_two
set_option linter.unusedVariables false
set_option linter.unusedSimpArgs false
theorem C_lit64 (W : World) (l : List Int) (n : Nat) (hn : l.length = n) (hl : n ≤ 1000000) {cs : Array Value} (hcs : cs = (l.map (Value.int .u64)).toArray) : Kd.C (Kd.int .u64) (W.alloc (.cells cs 23)) (some ⟨W.heap.size, 0, none⟩) n l := by
  subst hn
  subst hcs
  refine ⟨rfl, by omega, fun _ => ⟨_, rfl, fun j p hj => ⟨[.int .u64 p], rfl, rfl, fun i u hu => ?_⟩⟩⟩
  have hi : i = 0 := by
    rcases i with _ | i
    · rfl
    · simp at hu
  subst hi
  have hu : Value.int .u64 p = u := by simpa using hu
  subst hu
  rw [show (Addr.add ⟨W.heap.size, 0, none⟩ (j * (Kd.int .u64).sz + 0)) = ⟨W.heap.size, j, none⟩ by rw [add_at]; simp [Kd.int, Kd.scalar]]
  rw [blk_cell (heap_alloc_new W _) j, List.getElem?_toArray, List.getElem?_map, hj]
  rfl
theorem C_nil0 {α : Type} (d : Kd α) (W : World) : Kd.C d W none 0 [] := Kd.C_nil d W
theorem wf_lit (l : List Int) (h : l.all (fun n => decide (0 ≤ n) && decide (n ≤ 18446744073709551615)) = true) : ∀ n ∈ l, 0 ≤ n ∧ n ≤ 18446744073709551615 := by
  intro n hn
  have := List.all_eq_true.1 h n hn
  simpa using this
theorem aw1 : frameS 8 [2, 9] [] = (8, [0, 0, 0, 2, 9], 0) := by kernel_rfl
theorem aw2 : ofS 8 [0, 0, 0, 2, 9] = ((8, [2, 9], []), 0) := by kernel_rfl
theorem aw3 : mbytesS 4 [] [] = ([0, 1, 4], 0) := by kernel_rfl
theorem aw4 : frameS 8 [2, 256] [] = (0, [], 1) := by kernel_rfl
theorem aw5 : ofS 4 [0] = ((0, [], []), 2) := by kernel_rfl
theorem aw6 : rightS 8 [2, 9] [] = true := by kernel_rfl
set_option maxHeartbeats 8000000 in
set_option maxRecDepth 100000 in
theorem awake_calls (w : World) : Calls Try.prog 37 #[] w fun e w' => e = .returned (.bool true) ∧ Below w.heap.size w w' := by
  have HB := Aside0.mk (Below.refl w.heap.size w)
  have hu38 := Try.underlying38
  have hu67 := Try.underlying67
  go_enter Try.func37, Try.ntmps37
  go_wp2_with (first | ((with_reducible refine gate_dst (N := 1) rfl ?_); refine box_event ?hg (N := 1) ?hd (cs := #[.int .i64 0, .slice none 0 0, .slice none 0 0]) (t := 67) ?hr ?_; (case hd => rfl); (case hg => rfl); (case hr => first | (go_simp; done) | (go_simp; rfl)); intro g1 hgb w_1 hbox hb; have HZ_ := Aside0.mk hbox; have HGE_ := Aside0.mk (Nat.le_of_eq hgb.symm); have HBa_ := Aside0.mk hb; clear hgb hb hbox) | ((with_reducible refine gate_ (.store 67 (.tmp 1) (.tmp 13)) rfl ?_); refine store_event 67 (.tmp 1) (.tmp 13) rfl rfl rfl (g := g1) #[.int .i64 0, .slice none 0 0, .slice none 0 0] #[.int .i64 8, .slice (some ⟨w.heap.size, 0, none⟩) 2 2, .slice none 0 0] [.int .i64 8, .slice (some ⟨w.heap.size, 0, none⟩) 2 2, .slice none 0 0] rfl rfl rfl size67 HZ_.out (by simp) (by rfl) rfl ?_; intro w_2 hbox hs; have hb := hs.below HBa_.out HGE_.out; replace hb := below_step (below_alloc (Below.refl _ _) _) hb; have HB_ := Aside0.mk (below_step HB.out hb); clear HB; have HB := HB_; clear HB_; have HXg1 := Aside0.mk hbox; have HL := Aside0.mk (Kd.C_below (C_lit64 w [2, 9] 2 rfl (by decide) rfl) (hs.below HBa_.out HGE_.out)); clear hbox hs hb HZ_ HGE_ HBa_; have cg1_0 : w_2.cell? ⟨g1, 0, none⟩ = some (.int .i64 8) := (blk_cell HXg1.out 0).trans rfl; have cg1_1 : w_2.cell? ⟨g1, 1, none⟩ = some (.slice (some ⟨w.heap.size, 0, none⟩) 2 2) := (blk_cell HXg1.out 1).trans rfl; have cg1_2 : w_2.cell? ⟨g1, 2, none⟩ = some (.slice none 0 0) := (blk_cell HXg1.out 2).trans rfl) | (go_at_call 39; with_reducible refine (Frame_calls 8 (some ⟨w.heap.size, 0, none⟩) 2 2 [2, 9] rfl none 0 0 [] rfl 8 [0, 0, 0, 2, 9] 0 _ HL.out (Nat.le_refl _) (C_nil0 _ _) (Nat.le_refl _) (wf_lit _ rfl) aw1).mono ?_; rintro e w_3 ⟨v, rfl, ho, hb⟩; obtain ⟨Ap, cp, rfl⟩ := Kd.R_slice ho; rw [show ([0, 0, 0, 2, 9] : List Int).length = 5 from rfl] at ho ⊢; skip; have HB_ := Aside0.mk (below_step HB.out hb); have HXg1_ := Aside0.mk ((hb.block g1 (blk_lt HXg1.out)).trans HXg1.out); have HL_ := Aside0.mk (Kd.C_below HL.out hb); clear HB HXg1 HL; have HB := HB_; have HXg1 := HXg1_; have HL := HL_; clear HB_ HXg1_ HL_; have HP := Aside0.mk (show Kd.C (Kd.int .u8) w_3 Ap 5 [0, 0, 0, 2, 9] from R_at ho); have HPC := Aside0.mk (show 5 ≤ cp from (Kd.R_reads' ho).2.1); clear hb; have cg1_0 : w_3.cell? ⟨g1, 0, none⟩ = some (.int .i64 8) := (blk_cell HXg1.out 0).trans rfl; have cg1_1 : w_3.cell? ⟨g1, 1, none⟩ = some (.slice (some ⟨w.heap.size, 0, none⟩) 2 2) := (blk_cell HXg1.out 1).trans rfl; have cg1_2 : w_3.cell? ⟨g1, 2, none⟩ = some (.slice none 0 0) := (blk_cell HXg1.out 2).trans rfl) | ((with_reducible refine gate_dst (N := 2) rfl ?_); refine box_event ?hg (N := 2) ?hd (cs := #[.int .u8 0, .slice none 0 0]) (t := 38) ?hr ?_; (case hd => rfl); (case hg => rfl); (case hr => first | (go_simp; done) | (go_simp; rfl)); intro g2 hgb w_4 hbox hb; have HZ_ := Aside0.mk hbox; have HGE_ := Aside0.mk (Nat.le_of_eq hgb.symm); have HBa_ := Aside0.mk hb; clear hgb hb hbox) | ((with_reducible refine gate_ (.store 38 (.tmp 2) (.tmp 17)) rfl ?_); refine store_event 38 (.tmp 2) (.tmp 17) rfl rfl rfl (g := g2) #[.int .u8 0, .slice none 0 0] #[.int .u8 8, .slice Ap 5 cp] [.int .u8 8, .slice Ap 5 cp] rfl rfl rfl size38 HZ_.out (by simp) (by rfl) rfl ?_; intro w_5 hbox hs; have hb := hs.below HBa_.out HGE_.out; have HB_ := Aside0.mk (below_step HB.out hb); have HXg1_ := Aside0.mk ((hb.block g1 (blk_lt HXg1.out)).trans HXg1.out); have HL_ := Aside0.mk (Kd.C_below HL.out hb); have HP_ := Aside0.mk (Kd.C_below HP.out hb); clear HB HXg1 HL HP; have HB := HB_; have HXg1 := HXg1_; have HL := HL_; have HP := HP_; clear HB_ HXg1_ HL_ HP_; have HXg2 := Aside0.mk hbox; clear hbox hs hb HZ_ HGE_ HBa_; have cg1_0 : w_5.cell? ⟨g1, 0, none⟩ = some (.int .i64 8) := (blk_cell HXg1.out 0).trans rfl; have cg1_1 : w_5.cell? ⟨g1, 1, none⟩ = some (.slice (some ⟨w.heap.size, 0, none⟩) 2 2) := (blk_cell HXg1.out 1).trans rfl; have cg1_2 : w_5.cell? ⟨g1, 2, none⟩ = some (.slice none 0 0) := (blk_cell HXg1.out 2).trans rfl; have cg2_0 : w_5.cell? ⟨g2, 0, none⟩ = some (.int .u8 8) := (blk_cell HXg2.out 0).trans rfl; have cg2_1 : w_5.cell? ⟨g2, 1, none⟩ = some (.slice Ap 5 cp) := (blk_cell HXg2.out 1).trans rfl) | (go_at_call 41; with_reducible refine (Of_calls 8 Ap 5 cp [0, 0, 0, 2, 9] rfl 8 [2, 9] [] 0 _ HP.out HPC.out (bts_of rfl) (by decide) aw2).mono ?_; rintro e w_6 ⟨v1, v2, rfl, ho1, ho2, hb⟩; obtain ⟨B1, d1, rfl⟩ := Kd.R_slice ho1; obtain ⟨B2, d2, rfl⟩ := Kd.R_slice ho2; rw [show ([2, 9] : List Int).length = 2 from rfl] at ho1 ⊢; rw [show ([] : List ByteArray).length = 0 from rfl] at ho2 ⊢; skip; have HB_ := Aside0.mk (below_step HB.out hb); have HXg1_ := Aside0.mk ((hb.block g1 (blk_lt HXg1.out)).trans HXg1.out); have HL_ := Aside0.mk (Kd.C_below HL.out hb); have HP_ := Aside0.mk (Kd.C_below HP.out hb); have HXg2_ := Aside0.mk ((hb.block g2 (blk_lt HXg2.out)).trans HXg2.out); clear HB HXg1 HL HP HXg2; have HB := HB_; have HXg1 := HXg1_; have HL := HL_; have HP := HP_; have HXg2 := HXg2_; clear HB_ HXg1_ HL_ HP_ HXg2_; have HM1 := Aside0.mk (show Kd.C (Kd.int .u64) w_6 B1 2 [2, 9] from R_at ho1); have HM1C := Aside0.mk (show 2 ≤ d1 from (Kd.R_reads' ho1).2.1); have HM2 := Aside0.mk (show Kd.C Kd.string w_6 B2 0 [] from R_at ho2); have HM2C := Aside0.mk (Nat.zero_le d2); clear hb; have cg1_0 : w_6.cell? ⟨g1, 0, none⟩ = some (.int .i64 8) := (blk_cell HXg1.out 0).trans rfl; have cg1_1 : w_6.cell? ⟨g1, 1, none⟩ = some (.slice (some ⟨w.heap.size, 0, none⟩) 2 2) := (blk_cell HXg1.out 1).trans rfl; have cg1_2 : w_6.cell? ⟨g1, 2, none⟩ = some (.slice none 0 0) := (blk_cell HXg1.out 2).trans rfl; have cg2_0 : w_6.cell? ⟨g2, 0, none⟩ = some (.int .u8 8) := (blk_cell HXg2.out 0).trans rfl; have cg2_1 : w_6.cell? ⟨g2, 1, none⟩ = some (.slice Ap 5 cp) := (blk_cell HXg2.out 1).trans rfl) | ((with_reducible refine gate_dst (N := 4) rfl ?_); refine box_event ?hg (N := 4) ?hd (cs := #[.int .i64 0, .slice none 0 0, .slice none 0 0]) (t := 67) ?hr ?_; (case hd => rfl); (case hg => rfl); (case hr => first | (go_simp; done) | (go_simp; rfl)); intro g4 hgb w_7 hbox hb; have HZ_ := Aside0.mk hbox; have HGE_ := Aside0.mk (Nat.le_of_eq hgb.symm); have HBa_ := Aside0.mk hb; clear hgb hb hbox) | ((with_reducible refine gate_ (.store 67 (.tmp 4) (.tmp 22)) rfl ?_); refine store_event 67 (.tmp 4) (.tmp 22) rfl rfl rfl (g := g4) #[.int .i64 0, .slice none 0 0, .slice none 0 0] #[.int .i64 8, .slice B1 2 d1, .slice B2 0 d2] [.int .i64 8, .slice B1 2 d1, .slice B2 0 d2] rfl rfl rfl size67 HZ_.out (by simp) (by rfl) rfl ?_; intro w_8 hbox hs; have hb := hs.below HBa_.out HGE_.out; have HB_ := Aside0.mk (below_step HB.out hb); have HXg1_ := Aside0.mk ((hb.block g1 (blk_lt HXg1.out)).trans HXg1.out); have HL_ := Aside0.mk (Kd.C_below HL.out hb); have HP_ := Aside0.mk (Kd.C_below HP.out hb); have HXg2_ := Aside0.mk ((hb.block g2 (blk_lt HXg2.out)).trans HXg2.out); have HM1_ := Aside0.mk (Kd.C_below HM1.out hb); have HM2_ := Aside0.mk (Kd.C_below HM2.out hb); clear HB HXg1 HL HP HXg2 HM1 HM2; have HB := HB_; have HXg1 := HXg1_; have HL := HL_; have HP := HP_; have HXg2 := HXg2_; have HM1 := HM1_; have HM2 := HM2_; clear HB_ HXg1_ HL_ HP_ HXg2_ HM1_ HM2_; have HXg4 := Aside0.mk hbox; clear hbox hs hb HZ_ HGE_ HBa_; have cg1_0 : w_8.cell? ⟨g1, 0, none⟩ = some (.int .i64 8) := (blk_cell HXg1.out 0).trans rfl; have cg1_1 : w_8.cell? ⟨g1, 1, none⟩ = some (.slice (some ⟨w.heap.size, 0, none⟩) 2 2) := (blk_cell HXg1.out 1).trans rfl; have cg1_2 : w_8.cell? ⟨g1, 2, none⟩ = some (.slice none 0 0) := (blk_cell HXg1.out 2).trans rfl; have cg2_0 : w_8.cell? ⟨g2, 0, none⟩ = some (.int .u8 8) := (blk_cell HXg2.out 0).trans rfl; have cg2_1 : w_8.cell? ⟨g2, 1, none⟩ = some (.slice Ap 5 cp) := (blk_cell HXg2.out 1).trans rfl; have cg4_0 : w_8.cell? ⟨g4, 0, none⟩ = some (.int .i64 8) := (blk_cell HXg4.out 0).trans rfl; have cg4_1 : w_8.cell? ⟨g4, 1, none⟩ = some (.slice B1 2 d1) := (blk_cell HXg4.out 1).trans rfl; have cg4_2 : w_8.cell? ⟨g4, 2, none⟩ = some (.slice B2 0 d2) := (blk_cell HXg4.out 2).trans rfl) | (go_at_call 43; with_reducible refine (MBytes_calls 4 none 0 0 [] rfl none 0 0 [] rfl [0, 1, 4] 0 _ (C_nil0 _ _) (Nat.le_refl _) (C_nil0 _ _) (Nat.le_refl _) (wf_lit _ rfl) aw3).mono ?_; rintro e w_9 ⟨v, rfl, ho, hb⟩; obtain ⟨Aq, cq, rfl⟩ := Kd.R_slice ho; rw [show ([0, 1, 4] : List Int).length = 3 from rfl] at ho ⊢; skip; have HB_ := Aside0.mk (below_step HB.out hb); have HXg1_ := Aside0.mk ((hb.block g1 (blk_lt HXg1.out)).trans HXg1.out); have HL_ := Aside0.mk (Kd.C_below HL.out hb); have HP_ := Aside0.mk (Kd.C_below HP.out hb); have HXg2_ := Aside0.mk ((hb.block g2 (blk_lt HXg2.out)).trans HXg2.out); have HM1_ := Aside0.mk (Kd.C_below HM1.out hb); have HM2_ := Aside0.mk (Kd.C_below HM2.out hb); have HXg4_ := Aside0.mk ((hb.block g4 (blk_lt HXg4.out)).trans HXg4.out); clear HB HXg1 HL HP HXg2 HM1 HM2 HXg4; have HB := HB_; have HXg1 := HXg1_; have HL := HL_; have HP := HP_; have HXg2 := HXg2_; have HM1 := HM1_; have HM2 := HM2_; have HXg4 := HXg4_; clear HB_ HXg1_ HL_ HP_ HXg2_ HM1_ HM2_ HXg4_; have HQ := Aside0.mk (show Kd.C (Kd.int .u8) w_9 Aq 3 [0, 1, 4] from R_at ho); have HQC := Aside0.mk (show 3 ≤ cq from (Kd.R_reads' ho).2.1); clear hb; have cg1_0 : w_9.cell? ⟨g1, 0, none⟩ = some (.int .i64 8) := (blk_cell HXg1.out 0).trans rfl; have cg1_1 : w_9.cell? ⟨g1, 1, none⟩ = some (.slice (some ⟨w.heap.size, 0, none⟩) 2 2) := (blk_cell HXg1.out 1).trans rfl; have cg1_2 : w_9.cell? ⟨g1, 2, none⟩ = some (.slice none 0 0) := (blk_cell HXg1.out 2).trans rfl; have cg2_0 : w_9.cell? ⟨g2, 0, none⟩ = some (.int .u8 8) := (blk_cell HXg2.out 0).trans rfl; have cg2_1 : w_9.cell? ⟨g2, 1, none⟩ = some (.slice Ap 5 cp) := (blk_cell HXg2.out 1).trans rfl; have cg4_0 : w_9.cell? ⟨g4, 0, none⟩ = some (.int .i64 8) := (blk_cell HXg4.out 0).trans rfl; have cg4_1 : w_9.cell? ⟨g4, 1, none⟩ = some (.slice B1 2 d1) := (blk_cell HXg4.out 1).trans rfl; have cg4_2 : w_9.cell? ⟨g4, 2, none⟩ = some (.slice B2 0 d2) := (blk_cell HXg4.out 2).trans rfl) | (go_at_call 39; with_reducible refine (Frame_calls 8 (some ⟨w_9.heap.size, 0, none⟩) 2 2 [2, 256] rfl none 0 0 [] rfl 0 [] 1 _ ?hC (Nat.le_refl _) (C_nil0 _ _) (Nat.le_refl _) (wf_lit _ rfl) aw4).mono ?_; (case hC => exact C_lit64 w_9 [2, 256] 2 rfl (by decide) rfl); rintro e w_10 ⟨v, rfl, ho, hb⟩; obtain ⟨Az, cz, rfl⟩ := Kd.R_slice ho; rw [show ([] : List Int).length = 0 from rfl] at ho ⊢; replace hb := below_step (below_alloc (Below.refl _ _) _) hb; have HB_ := Aside0.mk (below_step HB.out hb); have HXg1_ := Aside0.mk ((hb.block g1 (blk_lt HXg1.out)).trans HXg1.out); have HL_ := Aside0.mk (Kd.C_below HL.out hb); have HP_ := Aside0.mk (Kd.C_below HP.out hb); have HXg2_ := Aside0.mk ((hb.block g2 (blk_lt HXg2.out)).trans HXg2.out); have HM1_ := Aside0.mk (Kd.C_below HM1.out hb); have HM2_ := Aside0.mk (Kd.C_below HM2.out hb); have HXg4_ := Aside0.mk ((hb.block g4 (blk_lt HXg4.out)).trans HXg4.out); have HQ_ := Aside0.mk (Kd.C_below HQ.out hb); clear HB HXg1 HL HP HXg2 HM1 HM2 HXg4 HQ; have HB := HB_; have HXg1 := HXg1_; have HL := HL_; have HP := HP_; have HXg2 := HXg2_; have HM1 := HM1_; have HM2 := HM2_; have HXg4 := HXg4_; have HQ := HQ_; clear HB_ HXg1_ HL_ HP_ HXg2_ HM1_ HM2_ HXg4_ HQ_; clear hb; have cg1_0 : w_10.cell? ⟨g1, 0, none⟩ = some (.int .i64 8) := (blk_cell HXg1.out 0).trans rfl; have cg1_1 : w_10.cell? ⟨g1, 1, none⟩ = some (.slice (some ⟨w.heap.size, 0, none⟩) 2 2) := (blk_cell HXg1.out 1).trans rfl; have cg1_2 : w_10.cell? ⟨g1, 2, none⟩ = some (.slice none 0 0) := (blk_cell HXg1.out 2).trans rfl; have cg2_0 : w_10.cell? ⟨g2, 0, none⟩ = some (.int .u8 8) := (blk_cell HXg2.out 0).trans rfl; have cg2_1 : w_10.cell? ⟨g2, 1, none⟩ = some (.slice Ap 5 cp) := (blk_cell HXg2.out 1).trans rfl; have cg4_0 : w_10.cell? ⟨g4, 0, none⟩ = some (.int .i64 8) := (blk_cell HXg4.out 0).trans rfl; have cg4_1 : w_10.cell? ⟨g4, 1, none⟩ = some (.slice B1 2 d1) := (blk_cell HXg4.out 1).trans rfl; have cg4_2 : w_10.cell? ⟨g4, 2, none⟩ = some (.slice B2 0 d2) := (blk_cell HXg4.out 2).trans rfl) | ((with_reducible refine gate_dst (N := 8) rfl ?_); refine box_event ?hg (N := 8) ?hd (cs := #[.int .u8 0, .slice none 0 0]) (t := 38) ?hr ?_; (case hd => rfl); (case hg => rfl); (case hr => first | (go_simp; done) | (go_simp; rfl)); intro g8 hgb w_11 hbox hb; have HZ_ := Aside0.mk hbox; have HGE_ := Aside0.mk (Nat.le_of_eq hgb.symm); have HBa_ := Aside0.mk hb; clear hgb hb hbox) | ((with_reducible refine gate_ (.store 38 (.tmp 8) (.tmp 33)) rfl ?_); refine store_event 38 (.tmp 8) (.tmp 33) rfl rfl rfl (g := g8) #[.int .u8 0, .slice none 0 0] #[.int .u8 0, .slice Az 0 cz] [.int .u8 0, .slice Az 0 cz] rfl rfl rfl size38 HZ_.out (by simp) (by rfl) rfl ?_; intro w_12 hbox hs; have hb := hs.below HBa_.out HGE_.out; have HB_ := Aside0.mk (below_step HB.out hb); have HXg1_ := Aside0.mk ((hb.block g1 (blk_lt HXg1.out)).trans HXg1.out); have HL_ := Aside0.mk (Kd.C_below HL.out hb); have HP_ := Aside0.mk (Kd.C_below HP.out hb); have HXg2_ := Aside0.mk ((hb.block g2 (blk_lt HXg2.out)).trans HXg2.out); have HM1_ := Aside0.mk (Kd.C_below HM1.out hb); have HM2_ := Aside0.mk (Kd.C_below HM2.out hb); have HXg4_ := Aside0.mk ((hb.block g4 (blk_lt HXg4.out)).trans HXg4.out); have HQ_ := Aside0.mk (Kd.C_below HQ.out hb); clear HB HXg1 HL HP HXg2 HM1 HM2 HXg4 HQ; have HB := HB_; have HXg1 := HXg1_; have HL := HL_; have HP := HP_; have HXg2 := HXg2_; have HM1 := HM1_; have HM2 := HM2_; have HXg4 := HXg4_; have HQ := HQ_; clear HB_ HXg1_ HL_ HP_ HXg2_ HM1_ HM2_ HXg4_ HQ_; have HXg8 := Aside0.mk hbox; clear hbox hs hb HZ_ HGE_ HBa_; have cg1_0 : w_12.cell? ⟨g1, 0, none⟩ = some (.int .i64 8) := (blk_cell HXg1.out 0).trans rfl; have cg1_1 : w_12.cell? ⟨g1, 1, none⟩ = some (.slice (some ⟨w.heap.size, 0, none⟩) 2 2) := (blk_cell HXg1.out 1).trans rfl; have cg1_2 : w_12.cell? ⟨g1, 2, none⟩ = some (.slice none 0 0) := (blk_cell HXg1.out 2).trans rfl; have cg2_0 : w_12.cell? ⟨g2, 0, none⟩ = some (.int .u8 8) := (blk_cell HXg2.out 0).trans rfl; have cg2_1 : w_12.cell? ⟨g2, 1, none⟩ = some (.slice Ap 5 cp) := (blk_cell HXg2.out 1).trans rfl; have cg4_0 : w_12.cell? ⟨g4, 0, none⟩ = some (.int .i64 8) := (blk_cell HXg4.out 0).trans rfl; have cg4_1 : w_12.cell? ⟨g4, 1, none⟩ = some (.slice B1 2 d1) := (blk_cell HXg4.out 1).trans rfl; have cg4_2 : w_12.cell? ⟨g4, 2, none⟩ = some (.slice B2 0 d2) := (blk_cell HXg4.out 2).trans rfl; have cg8_0 : w_12.cell? ⟨g8, 0, none⟩ = some (.int .u8 0) := (blk_cell HXg8.out 0).trans rfl; have cg8_1 : w_12.cell? ⟨g8, 1, none⟩ = some (.slice Az 0 cz) := (blk_cell HXg8.out 1).trans rfl) | (go_at_call 41; with_reducible refine (Of_calls 4 (some ⟨w_12.heap.size, 0, none⟩) 1 1 [0] rfl 0 [] [] 2 _ ?hC (Nat.le_refl _) (bts_of rfl) (by decide) aw5).mono ?_; (case hC => exact C_lit8 w_12 [0] 1 rfl (by decide) rfl); rintro e w_13 ⟨v1, v2, rfl, ho1, ho2, hb⟩; obtain ⟨E1, e1, rfl⟩ := Kd.R_slice ho1; obtain ⟨E2, e2, rfl⟩ := Kd.R_slice ho2; rw [show ([] : List Int).length = 0 from rfl] at ho1 ⊢; rw [show ([] : List ByteArray).length = 0 from rfl] at ho2 ⊢; replace hb := below_step (below_alloc (Below.refl _ _) _) hb; have HB_ := Aside0.mk (below_step HB.out hb); have HXg1_ := Aside0.mk ((hb.block g1 (blk_lt HXg1.out)).trans HXg1.out); have HL_ := Aside0.mk (Kd.C_below HL.out hb); have HP_ := Aside0.mk (Kd.C_below HP.out hb); have HXg2_ := Aside0.mk ((hb.block g2 (blk_lt HXg2.out)).trans HXg2.out); have HM1_ := Aside0.mk (Kd.C_below HM1.out hb); have HM2_ := Aside0.mk (Kd.C_below HM2.out hb); have HXg4_ := Aside0.mk ((hb.block g4 (blk_lt HXg4.out)).trans HXg4.out); have HQ_ := Aside0.mk (Kd.C_below HQ.out hb); clear HB HXg1 HL HP HXg2 HM1 HM2 HXg4 HQ; have HB := HB_; have HXg1 := HXg1_; have HL := HL_; have HP := HP_; have HXg2 := HXg2_; have HM1 := HM1_; have HM2 := HM2_; have HXg4 := HXg4_; have HQ := HQ_; clear HB_ HXg1_ HL_ HP_ HXg2_ HM1_ HM2_ HXg4_ HQ_; clear hb; have cg1_0 : w_13.cell? ⟨g1, 0, none⟩ = some (.int .i64 8) := (blk_cell HXg1.out 0).trans rfl; have cg1_1 : w_13.cell? ⟨g1, 1, none⟩ = some (.slice (some ⟨w.heap.size, 0, none⟩) 2 2) := (blk_cell HXg1.out 1).trans rfl; have cg1_2 : w_13.cell? ⟨g1, 2, none⟩ = some (.slice none 0 0) := (blk_cell HXg1.out 2).trans rfl; have cg2_0 : w_13.cell? ⟨g2, 0, none⟩ = some (.int .u8 8) := (blk_cell HXg2.out 0).trans rfl; have cg2_1 : w_13.cell? ⟨g2, 1, none⟩ = some (.slice Ap 5 cp) := (blk_cell HXg2.out 1).trans rfl; have cg4_0 : w_13.cell? ⟨g4, 0, none⟩ = some (.int .i64 8) := (blk_cell HXg4.out 0).trans rfl; have cg4_1 : w_13.cell? ⟨g4, 1, none⟩ = some (.slice B1 2 d1) := (blk_cell HXg4.out 1).trans rfl; have cg4_2 : w_13.cell? ⟨g4, 2, none⟩ = some (.slice B2 0 d2) := (blk_cell HXg4.out 2).trans rfl) | ((with_reducible refine gate_dst (N := 10) rfl ?_); refine box_event ?hg (N := 10) ?hd (cs := #[.int .i64 0, .slice none 0 0, .slice none 0 0]) (t := 67) ?hr ?_; (case hd => rfl); (case hg => rfl); (case hr => first | (go_simp; done) | (go_simp; rfl)); intro g10 hgb w_14 hbox hb; have HZ_ := Aside0.mk hbox; have HGE_ := Aside0.mk (Nat.le_of_eq hgb.symm); have HBa_ := Aside0.mk hb; clear hgb hb hbox) | ((with_reducible refine gate_ (.store 67 (.tmp 10) (.tmp 39)) rfl ?_); refine store_event 67 (.tmp 10) (.tmp 39) rfl rfl rfl (g := g10) #[.int .i64 0, .slice none 0 0, .slice none 0 0] #[.int .i64 0, .slice E1 0 e1, .slice E2 0 e2] [.int .i64 0, .slice E1 0 e1, .slice E2 0 e2] rfl rfl rfl size67 HZ_.out (by simp) (by rfl) rfl ?_; intro w_15 hbox hs; have hb := hs.below HBa_.out HGE_.out; have HB_ := Aside0.mk (below_step HB.out hb); have HXg1_ := Aside0.mk ((hb.block g1 (blk_lt HXg1.out)).trans HXg1.out); have HL_ := Aside0.mk (Kd.C_below HL.out hb); have HP_ := Aside0.mk (Kd.C_below HP.out hb); have HXg2_ := Aside0.mk ((hb.block g2 (blk_lt HXg2.out)).trans HXg2.out); have HM1_ := Aside0.mk (Kd.C_below HM1.out hb); have HM2_ := Aside0.mk (Kd.C_below HM2.out hb); have HXg4_ := Aside0.mk ((hb.block g4 (blk_lt HXg4.out)).trans HXg4.out); have HQ_ := Aside0.mk (Kd.C_below HQ.out hb); clear HB HXg1 HL HP HXg2 HM1 HM2 HXg4 HQ; have HB := HB_; have HXg1 := HXg1_; have HL := HL_; have HP := HP_; have HXg2 := HXg2_; have HM1 := HM1_; have HM2 := HM2_; have HXg4 := HXg4_; have HQ := HQ_; clear HB_ HXg1_ HL_ HP_ HXg2_ HM1_ HM2_ HXg4_ HQ_; have HXg10 := Aside0.mk hbox; clear hbox hs hb HZ_ HGE_ HBa_; have cg1_0 : w_15.cell? ⟨g1, 0, none⟩ = some (.int .i64 8) := (blk_cell HXg1.out 0).trans rfl; have cg1_1 : w_15.cell? ⟨g1, 1, none⟩ = some (.slice (some ⟨w.heap.size, 0, none⟩) 2 2) := (blk_cell HXg1.out 1).trans rfl; have cg1_2 : w_15.cell? ⟨g1, 2, none⟩ = some (.slice none 0 0) := (blk_cell HXg1.out 2).trans rfl; have cg2_0 : w_15.cell? ⟨g2, 0, none⟩ = some (.int .u8 8) := (blk_cell HXg2.out 0).trans rfl; have cg2_1 : w_15.cell? ⟨g2, 1, none⟩ = some (.slice Ap 5 cp) := (blk_cell HXg2.out 1).trans rfl; have cg4_0 : w_15.cell? ⟨g4, 0, none⟩ = some (.int .i64 8) := (blk_cell HXg4.out 0).trans rfl; have cg4_1 : w_15.cell? ⟨g4, 1, none⟩ = some (.slice B1 2 d1) := (blk_cell HXg4.out 1).trans rfl; have cg4_2 : w_15.cell? ⟨g4, 2, none⟩ = some (.slice B2 0 d2) := (blk_cell HXg4.out 2).trans rfl; have cg10_0 : w_15.cell? ⟨g10, 0, none⟩ = some (.int .i64 0) := (blk_cell HXg10.out 0).trans rfl; have cg10_1 : w_15.cell? ⟨g10, 1, none⟩ = some (.slice E1 0 e1) := (blk_cell HXg10.out 1).trans rfl; have cg10_2 : w_15.cell? ⟨g10, 2, none⟩ = some (.slice E2 0 e2) := (blk_cell HXg10.out 2).trans rfl) | (go_at_call 23; with_reducible refine (Same8_calls Ap 5 cp [0, 0, 0, 2, 9] rfl (some ⟨w_15.heap.size, 0, none⟩) 5 5 [0, 0, 0, 2, 9] rfl true _ (Kd.C_alloc HP.out _) HPC.out ?hC (Nat.le_refl _) (by decide) rfl).mono ?_; (case hC => exact C_lit8 w_15 [0, 0, 0, 2, 9] 5 rfl (by decide) rfl); rintro e w_16 ⟨rfl, hb⟩; replace hb := below_step (below_alloc (Below.refl _ _) _) hb; have HB_ := Aside0.mk (below_step HB.out hb); have HXg1_ := Aside0.mk ((hb.block g1 (blk_lt HXg1.out)).trans HXg1.out); have HL_ := Aside0.mk (Kd.C_below HL.out hb); have HP_ := Aside0.mk (Kd.C_below HP.out hb); have HXg2_ := Aside0.mk ((hb.block g2 (blk_lt HXg2.out)).trans HXg2.out); have HM1_ := Aside0.mk (Kd.C_below HM1.out hb); have HM2_ := Aside0.mk (Kd.C_below HM2.out hb); have HXg4_ := Aside0.mk ((hb.block g4 (blk_lt HXg4.out)).trans HXg4.out); have HQ_ := Aside0.mk (Kd.C_below HQ.out hb); clear HB HXg1 HL HP HXg2 HM1 HM2 HXg4 HQ; have HB := HB_; have HXg1 := HXg1_; have HL := HL_; have HP := HP_; have HXg2 := HXg2_; have HM1 := HM1_; have HM2 := HM2_; have HXg4 := HXg4_; have HQ := HQ_; clear HB_ HXg1_ HL_ HP_ HXg2_ HM1_ HM2_ HXg4_ HQ_; clear hb; have cg1_0 : w_16.cell? ⟨g1, 0, none⟩ = some (.int .i64 8) := (blk_cell HXg1.out 0).trans rfl; have cg1_1 : w_16.cell? ⟨g1, 1, none⟩ = some (.slice (some ⟨w.heap.size, 0, none⟩) 2 2) := (blk_cell HXg1.out 1).trans rfl; have cg1_2 : w_16.cell? ⟨g1, 2, none⟩ = some (.slice none 0 0) := (blk_cell HXg1.out 2).trans rfl; have cg2_0 : w_16.cell? ⟨g2, 0, none⟩ = some (.int .u8 8) := (blk_cell HXg2.out 0).trans rfl; have cg2_1 : w_16.cell? ⟨g2, 1, none⟩ = some (.slice Ap 5 cp) := (blk_cell HXg2.out 1).trans rfl; have cg4_0 : w_16.cell? ⟨g4, 0, none⟩ = some (.int .i64 8) := (blk_cell HXg4.out 0).trans rfl; have cg4_1 : w_16.cell? ⟨g4, 1, none⟩ = some (.slice B1 2 d1) := (blk_cell HXg4.out 1).trans rfl; have cg4_2 : w_16.cell? ⟨g4, 2, none⟩ = some (.slice B2 0 d2) := (blk_cell HXg4.out 2).trans rfl) | (go_at_call 42; with_reducible refine (MSame_calls 8 B1 2 d1 [2, 9] rfl B2 0 d2 [] rfl 8 (some ⟨w.heap.size, 0, none⟩) 2 2 [2, 9] rfl none 0 0 [] rfl true _ HM1.out HM1C.out HM2.out HM2C.out HL.out (Nat.le_refl _) (C_nil0 _ _) (Nat.le_refl _) (by decide) (decide_eq_true ⟨rfl, rfl, rfl⟩)).mono ?_; rintro e w_17 ⟨rfl, hb⟩; skip; have HB_ := Aside0.mk (below_step HB.out hb); have HXg1_ := Aside0.mk ((hb.block g1 (blk_lt HXg1.out)).trans HXg1.out); have HL_ := Aside0.mk (Kd.C_below HL.out hb); have HP_ := Aside0.mk (Kd.C_below HP.out hb); have HXg2_ := Aside0.mk ((hb.block g2 (blk_lt HXg2.out)).trans HXg2.out); have HM1_ := Aside0.mk (Kd.C_below HM1.out hb); have HM2_ := Aside0.mk (Kd.C_below HM2.out hb); have HXg4_ := Aside0.mk ((hb.block g4 (blk_lt HXg4.out)).trans HXg4.out); have HQ_ := Aside0.mk (Kd.C_below HQ.out hb); clear HB HXg1 HL HP HXg2 HM1 HM2 HXg4 HQ; have HB := HB_; have HXg1 := HXg1_; have HL := HL_; have HP := HP_; have HXg2 := HXg2_; have HM1 := HM1_; have HM2 := HM2_; have HXg4 := HXg4_; have HQ := HQ_; clear HB_ HXg1_ HL_ HP_ HXg2_ HM1_ HM2_ HXg4_ HQ_; clear hb; have cg1_0 : w_17.cell? ⟨g1, 0, none⟩ = some (.int .i64 8) := (blk_cell HXg1.out 0).trans rfl; have cg1_1 : w_17.cell? ⟨g1, 1, none⟩ = some (.slice (some ⟨w.heap.size, 0, none⟩) 2 2) := (blk_cell HXg1.out 1).trans rfl; have cg1_2 : w_17.cell? ⟨g1, 2, none⟩ = some (.slice none 0 0) := (blk_cell HXg1.out 2).trans rfl; have cg2_0 : w_17.cell? ⟨g2, 0, none⟩ = some (.int .u8 8) := (blk_cell HXg2.out 0).trans rfl; have cg2_1 : w_17.cell? ⟨g2, 1, none⟩ = some (.slice Ap 5 cp) := (blk_cell HXg2.out 1).trans rfl; have cg4_0 : w_17.cell? ⟨g4, 0, none⟩ = some (.int .i64 8) := (blk_cell HXg4.out 0).trans rfl; have cg4_1 : w_17.cell? ⟨g4, 1, none⟩ = some (.slice B1 2 d1) := (blk_cell HXg4.out 1).trans rfl; have cg4_2 : w_17.cell? ⟨g4, 2, none⟩ = some (.slice B2 0 d2) := (blk_cell HXg4.out 2).trans rfl) | (go_at_call 23; with_reducible refine (Same8_calls Aq 3 cq [0, 1, 4] rfl (some ⟨w_17.heap.size, 0, none⟩) 3 3 [0, 1, 4] rfl true _ (Kd.C_alloc HQ.out _) HQC.out ?hC (Nat.le_refl _) (by decide) rfl).mono ?_; (case hC => exact C_lit8 w_17 [0, 1, 4] 3 rfl (by decide) rfl); rintro e w_18 ⟨rfl, hb⟩; replace hb := below_step (below_alloc (Below.refl _ _) _) hb; have HB_ := Aside0.mk (below_step HB.out hb); have HXg1_ := Aside0.mk ((hb.block g1 (blk_lt HXg1.out)).trans HXg1.out); have HL_ := Aside0.mk (Kd.C_below HL.out hb); have HP_ := Aside0.mk (Kd.C_below HP.out hb); have HXg2_ := Aside0.mk ((hb.block g2 (blk_lt HXg2.out)).trans HXg2.out); have HM1_ := Aside0.mk (Kd.C_below HM1.out hb); have HM2_ := Aside0.mk (Kd.C_below HM2.out hb); have HXg4_ := Aside0.mk ((hb.block g4 (blk_lt HXg4.out)).trans HXg4.out); have HQ_ := Aside0.mk (Kd.C_below HQ.out hb); clear HB HXg1 HL HP HXg2 HM1 HM2 HXg4 HQ; have HB := HB_; have HXg1 := HXg1_; have HL := HL_; have HP := HP_; have HXg2 := HXg2_; have HM1 := HM1_; have HM2 := HM2_; have HXg4 := HXg4_; have HQ := HQ_; clear HB_ HXg1_ HL_ HP_ HXg2_ HM1_ HM2_ HXg4_ HQ_; clear hb; have cg1_0 : w_18.cell? ⟨g1, 0, none⟩ = some (.int .i64 8) := (blk_cell HXg1.out 0).trans rfl; have cg1_1 : w_18.cell? ⟨g1, 1, none⟩ = some (.slice (some ⟨w.heap.size, 0, none⟩) 2 2) := (blk_cell HXg1.out 1).trans rfl; have cg1_2 : w_18.cell? ⟨g1, 2, none⟩ = some (.slice none 0 0) := (blk_cell HXg1.out 2).trans rfl; have cg2_0 : w_18.cell? ⟨g2, 0, none⟩ = some (.int .u8 8) := (blk_cell HXg2.out 0).trans rfl; have cg2_1 : w_18.cell? ⟨g2, 1, none⟩ = some (.slice Ap 5 cp) := (blk_cell HXg2.out 1).trans rfl; have cg4_0 : w_18.cell? ⟨g4, 0, none⟩ = some (.int .i64 8) := (blk_cell HXg4.out 0).trans rfl; have cg4_1 : w_18.cell? ⟨g4, 1, none⟩ = some (.slice B1 2 d1) := (blk_cell HXg4.out 1).trans rfl; have cg4_2 : w_18.cell? ⟨g4, 2, none⟩ = some (.slice B2 0 d2) := (blk_cell HXg4.out 2).trans rfl) | (go_at_call 40; with_reducible refine (Right_calls 8 (some ⟨w.heap.size, 0, none⟩) 2 2 [2, 9] rfl none 0 0 [] rfl true _ HL.out (Nat.le_refl _) (C_nil0 _ _) (Nat.le_refl _) (wf_lit _ rfl) aw6).mono ?_; rintro e w_19 ⟨rfl, hb⟩; skip; have HB_ := Aside0.mk (below_step HB.out hb); have HXg1_ := Aside0.mk ((hb.block g1 (blk_lt HXg1.out)).trans HXg1.out); have HL_ := Aside0.mk (Kd.C_below HL.out hb); have HP_ := Aside0.mk (Kd.C_below HP.out hb); have HXg2_ := Aside0.mk ((hb.block g2 (blk_lt HXg2.out)).trans HXg2.out); have HM1_ := Aside0.mk (Kd.C_below HM1.out hb); have HM2_ := Aside0.mk (Kd.C_below HM2.out hb); have HXg4_ := Aside0.mk ((hb.block g4 (blk_lt HXg4.out)).trans HXg4.out); have HQ_ := Aside0.mk (Kd.C_below HQ.out hb); clear HB HXg1 HL HP HXg2 HM1 HM2 HXg4 HQ; have HB := HB_; have HXg1 := HXg1_; have HL := HL_; have HP := HP_; have HXg2 := HXg2_; have HM1 := HM1_; have HM2 := HM2_; have HXg4 := HXg4_; have HQ := HQ_; clear HB_ HXg1_ HL_ HP_ HXg2_ HM1_ HM2_ HXg4_ HQ_; clear hb; have cg1_0 : w_19.cell? ⟨g1, 0, none⟩ = some (.int .i64 8) := (blk_cell HXg1.out 0).trans rfl; have cg1_1 : w_19.cell? ⟨g1, 1, none⟩ = some (.slice (some ⟨w.heap.size, 0, none⟩) 2 2) := (blk_cell HXg1.out 1).trans rfl; have cg1_2 : w_19.cell? ⟨g1, 2, none⟩ = some (.slice none 0 0) := (blk_cell HXg1.out 2).trans rfl; have cg2_0 : w_19.cell? ⟨g2, 0, none⟩ = some (.int .u8 8) := (blk_cell HXg2.out 0).trans rfl; have cg2_1 : w_19.cell? ⟨g2, 1, none⟩ = some (.slice Ap 5 cp) := (blk_cell HXg2.out 1).trans rfl; have cg4_0 : w_19.cell? ⟨g4, 0, none⟩ = some (.int .i64 8) := (blk_cell HXg4.out 0).trans rfl; have cg4_1 : w_19.cell? ⟨g4, 1, none⟩ = some (.slice B1 2 d1) := (blk_cell HXg4.out 1).trans rfl; have cg4_2 : w_19.cell? ⟨g4, 2, none⟩ = some (.slice B2 0 d2) := (blk_cell HXg4.out 2).trans rfl))
  go_ret
  exact ⟨rfl, HB.out⟩
end Go.Proofs.Ytagmefjpnmjcjab.Mh

/- Messages there and back, plain: what the statements' walks need. -/
namespace Go.Proofs.Ytagmefjpnmjcjab.Mh
open Go.RowKit Go.Proofs.YtagmefjpnmjcjabW.PrintWords
open Go.Proofs.Ytagmefjpnmjcjab.FrNum (fits rd_drop be Bytes vl vl_bound)
open Go.Proofs.Ytagmefjpnmjcjab.Fh (bt_drop bt_take)
set_option linter.unusedVariables false
set_option linter.unusedSimpArgs false
theorem u64_range {n : Int} (h : (Lit.int .u64 n).wf = true) : 0 ≤ n ∧ n ≤ 18446744073709551615 := by
  simp [Lit.wf, IntKind.min, IntKind.max, IntKind.signed, IntKind.bits] at h
  omega
/-- A frame's message, or none and ErrForm. -/
theorem ofS_or (c : Int) (b : List Int) : (ofS c b).2 = 0 ∨ ofS c b = ((0, [], []), 2) := by
  unfold ofS
  cases e : szS c with
  | none => exact .inr rfl
  | some p =>
    obtain ⟨z, tx⟩ := p
    simp only
    by_cases c1 : b.length > 300
    · rw [if_pos c1]; exact .inr rfl
    · rw [if_neg c1]
      cases e1 : takeN z b with
      | none => exact .inr rfl
      | some p1 =>
        obtain ⟨ns, r⟩ := p1
        simp only
        cases e2 : takeT (r.length + 1) r with
        | none => exact .inr rfl
        | some ts =>
          simp only
          by_cases c2 : rightS c ns ts = true
          · rw [if_pos c2]; exact .inl rfl
          · rw [if_neg c2]; exact .inr rfl
/-- The frame of a message: none, with ErrArg, if it may not be; none, with ErrLong; or its frame. -/
theorem frameS_or (k : Int) (ns : List Int) (ts : List ByteArray) : (rightS k ns ts = false ∧ frameS k ns ts = (0, [], 1)) ∨ (rightS k ns ts = true ∧ frameS k ns ts = (0, [], 4)) ∨ (rightS k ns ts = true ∧ frameS k ns ts = (k, bodyM k ns ts, 0) ∧ (bodyM k ns ts).length ≤ 300) := by
  unfold frameS
  cases e : rightS k ns ts with
  | false => exact .inl ⟨rfl, by simp⟩
  | true =>
    by_cases c : (bodyM k ns ts).length > 300
    · exact .inr (.inl ⟨rfl, by rw [if_pos rfl, if_pos c]⟩)
    · exact .inr (.inr ⟨rfl, by rw [if_pos rfl, if_neg c], by omega⟩)
theorem rightS_len {k : Int} {ns : List Int} {ts : List ByteArray} (h : rightS k ns ts = true) : ns.length ≤ 3 ∧ ts.length ≤ 20 := by
  unfold rightS at h
  cases e : szS k with
  | none => rw [e] at h; cases h
  | some p =>
    obtain ⟨z, tx⟩ := p
    rw [e] at h
    simp only [Bool.and_eq_true] at h
    have := allFit_len h.1
    have := (szS_cases e).2.1
    have := (textsOk_small h.2).1
    omega
end Go.Proofs.Ytagmefjpnmjcjab.Mh
