/- The frame package's contracts with named lengths; and that signalmanlaw02 is awake, by hand. -/
import Derived.Test.YtagmefjpnmjcjabFrFeed
import Derived.Test.YtagmefjpnmjcjabFrSpec2
namespace Go.Proofs.Ytagmefjpnmjcjab.Fh
open Go.RowKit Go.Proofs.YtagmefjpnmjcjabW.PrintWords Go.Proofs.YtagmefjpnmjcjabW.PrintLast Go.Proofs.YtagmefjpnmjcjabW.PrintMore
open Go.Proofs.Ytagmefjpnmjcjab.Nu (signalmanref01_Same.calls)
open Go.Proofs.Ytagmefjpnmjcjab.Fr (info5 info38 info41 S38 k38 z38 k38_mkM k38_openM S41 k41 frame_Read.f frame_Read.calls frame_Bytes.calls frame_Same.calls)
open Go.Proofs.Ytagmefjpnmjcjab.FrNum (readS read_eq Bytes same_eq)
attribute [local go_sem] max2_int min2_int max_two min_two
set_option linter.unusedVariables false
set_option linter.unusedSimpArgs false
theorem bts_of {l : List Int} (h : l.all (fun x => decide (0 ≤ x) && decide (x < 256)) = true) : Bytes l := by
  intro x hx
  have := List.all_eq_true.1 h x hx
  simpa using this
theorem C_lit8 (W : World) (l : List Int) (n : Nat) (hn : l.length = n) (hl : n ≤ 1000000) {cs : Array Value} (hcs : cs = (l.map (Value.int .u8)).toArray) : Kd.C (Kd.int .u8) (W.alloc (.cells cs 5)) (some ⟨W.heap.size, 0, none⟩) n l := by
  subst hcs
  refine ⟨hn, by omega, fun _ => ⟨_, rfl, fun j p hj => ⟨[.int .u8 p], rfl, rfl, fun i u hu => ?_⟩⟩⟩
  have hi : i = 0 := by
    rcases i with _ | i
    · rfl
    · simp at hu
  subst hi
  have hu : Value.int .u8 p = u := by simpa using hu
  subst hu
  rw [show (Addr.add ⟨W.heap.size, 0, none⟩ (j * (Kd.int .u8).sz + 0)) = ⟨W.heap.size, j, none⟩ by rw [add_at]; simp [Kd.int, Kd.scalar]]
  rw [blk_cell (heap_alloc_new W _) j, List.getElem?_toArray, List.getElem?_map, hj]
  rfl
set_option maxHeartbeats 8000000 in
set_option maxRecDepth 100000 in
theorem Bytes_calls (a : Int) (A : Option Addr) (n c : Nat) (l : List Int) (hn : l.length = n) (r1 : List Int) (r2 : Int) (w : World) (hC : Kd.C (Kd.int .u8) w A n l) (hc : n ≤ c) (h : bytesS a l = (r1, r2)) :
    Calls Try.prog 26 #[.agg #[.int .u8 a, .slice A n c]] w fun e w' => ∃ v0_ : Value, e = .returned (.tuple #[v0_, .int .i64 r2]) ∧ Kd.R (Kd.int .u8) 5 w' w.heap.size (fun _ => True) v0_ r1 ∧ Below w.heap.size w w' := by
  subst hn
  exact frame_Bytes.calls 11 a A c l r1 r2 w hC hc (by rw [bytes_eq 11 a l (Nat.le_refl _), h])
set_option maxHeartbeats 8000000 in
set_option maxRecDepth 100000 in
theorem Same38_calls (a : Int) (A : Option Addr) (n c : Nat) (l : List Int) (hn : l.length = n) (b : Int) (B : Option Addr) (m d : Nat) (k : List Int) (hm : k.length = m) (r : Bool) (w : World) (hC : Kd.C (Kd.int .u8) w A n l) (hc : n ≤ c) (hD : Kd.C (Kd.int .u8) w B m k) (hd : m ≤ d) (hl : Bytes l) (hk : Bytes k) (h : decide (a = b ∧ l = k) = r) :
    Calls Try.prog 32 #[.agg #[.int .u8 a, .slice A n c], .agg #[.int .u8 b, .slice B m d]] w fun e w' => e = .returned (.bool r) ∧ Below w.heap.size w w' := by
  subst hn hm
  exact frame_Same.calls a A c l b B d k r w hC hc hD hd (by rw [same38_eq a l b k hl hk, h])
theorem Drawn0.below_ {w w' : World} (h : Drawn0 w w') : Below w.heap.size w w' := by
  obtain ⟨n, rfl⟩ := h
  exact pw_below_drewN (Below.refl _ _) n
set_option maxHeartbeats 8000000 in
set_option maxRecDepth 100000 in
theorem Same8_calls (A : Option Addr) (n c : Nat) (l : List Int) (hn : l.length = n) (B : Option Addr) (m d : Nat) (k : List Int) (hm : k.length = m) (r : Bool) (w : World) (hC : Kd.C (Kd.int .u8) w A n l) (hc : n ≤ c) (hD : Kd.C (Kd.int .u8) w B m k) (hd : m ≤ d) (hl : n ≤ 1000000000) (h : decide (l = k) = r) :
    Calls Try.prog 23 #[.slice A n c, .slice B m d] w fun e w' => e = .returned (.bool r) ∧ Below w.heap.size w w' := by
  subst hn hm
  refine (signalmanref01_Same.calls (l.length + 1) A c l B d k r w hC hc hD hd (by rw [same_eq _ l k (by omega) (Nat.lt_succ_self _), h])).mono ?_
  rintro e w' ⟨rfl, hd⟩
  exact ⟨rfl, Drawn0.below_ hd⟩
theorem T8.near {w w' : World} {g : Nat} {v : Value} {l : List Int} (h : T8 w v l) (ht : ∃ cells, w.heap[g]? = some (.cells cells 93 (0, 0))) (hn : Near w w' g) : T8 w' v l := by
  obtain ⟨cells, hc⟩ := ht
  exact h.keep hc (by decide) hn.keep
attribute [local irreducible] IsD T8 Near

set_option maxHeartbeats 8000000 in
set_option maxRecDepth 100000 in
theorem awake_calls (w : World) : Calls Try.prog 25 #[] w fun e w' => e = .returned (.bool true) ∧ Below w.heap.size w w' := by
  have hu38 := Try.underlying38
  go_enter Try.func25, Try.ntmps25
  go_upto_region 8 with (first | (go_at_call 33; with_reducible refine (New_calls _).mono ?_; rintro e w1 ⟨g, rfl, hi, hg, hb⟩; have HI := Aside0.mk hi; have HG := Aside0.mk hg; have HB := Aside0.mk hb; clear hi hg hb) | (go_at_call 34; with_reducible refine (Feed_calls g [] [0] (some ⟨w1.heap.size, 0, none⟩) 1 1 rfl [] [0] 0 _ (HI.out.alloc _) ?hC (Nat.le_refl _) ?hB (by simp) ?hS).mono ?_; (case hC => exact C_lit8 w1 [0] 1 rfl (by decide) rfl); (case hB => exact bts_of rfl); (case hS => kernel_rfl); rintro e w2 ⟨v2, rfl, ho, hi, hn⟩; obtain ⟨A2, c2, rfl⟩ := Kd.R_slice ho; have HB_ := Aside0.mk (hn.bel HG.out (below_alloc HB.out _)); have HI_ := Aside0.mk (hi); clear HB HI; have HB := HB_; have HI := HI_; clear HB_ HI_; clear ho hi hn) | (go_at_call 34; with_reducible refine (Feed_calls g [0] [2, 7, 9, 0] (some ⟨w2.heap.size, 0, none⟩) 4 4 rfl [⟨7, [9]⟩] [0] 0 _ (HI.out.alloc _) ?hC (Nat.le_refl _) ?hB (by simp) ?hS).mono ?_; (case hC => exact C_lit8 w2 [2, 7, 9, 0] 4 rfl (by decide) rfl); (case hB => exact bts_of rfl); (case hS => kernel_rfl); rintro e w3 ⟨v3, rfl, ho, hi, hn⟩; obtain ⟨g4, c4, rfl, hge4, _, _⟩ := Kd.R_form ho (by simp); have HGE4 := Aside0.mk (Nat.le_trans HB.out.size (Nat.le_trans (by simp) hge4)); have HR4 := Aside0.mk (Kd.R_lower ho (show w.heap.size ≤ _ from (below_alloc HB.out _).size)); have HB_ := Aside0.mk (hn.bel HG.out (below_alloc HB.out _)); have HI_ := Aside0.mk (hi); clear HB HI; have HB := HB_; have HI := HI_; clear HB_ HI_; clear ho hi hn hge4) | (go_at_call 26; with_reducible refine (Bytes_calls 7 (some ⟨w3.heap.size, 0, none⟩) 1 1 [9] rfl [0, 2, 7, 9] 0 _ ?hC (Nat.le_refl _) ?hS).mono ?_; (case hS => kernel_rfl); (case hC => exact C_lit8 w3 [9] 1 rfl (by decide) rfl); rintro e w4 ⟨v6, rfl, ho, hb⟩; obtain ⟨A6, c6, rfl⟩ := Kd.R_slice ho; have HT6 := Aside0.mk (show T8 w4 (.slice A6 4 c6) [0, 2, 7, 9] from T8.of_R ho); have HB_ := Aside0.mk (below_step (below_alloc HB.out _) hb); have HI_ := Aside0.mk ((HI.out.alloc _).below hb); have HR4_ := Aside0.mk (Kd.R_below (Kd.R_alloc HR4.out _) hb); clear HB HI HR4; have HB := HB_; have HI := HI_; have HR4 := HR4_; clear HB_ HI_ HR4_; clear ho hb) | (go_at_call 28; with_reducible refine (Read_calls (some ⟨w4.heap.size, 0, none⟩) 5 5 [0, 2, 7, 9, 0] rfl 7 [9] 4 0 _ ?hC (Nat.le_refl _) (by decide) ?hB ?hS).mono ?_; (case hS => kernel_rfl); (case hC => exact C_lit8 w4 [0, 2, 7, 9, 0] 5 rfl (by decide) rfl); (case hB => exact bts_of rfl); rintro e w5 ⟨v8, rfl, ho, hb⟩; obtain ⟨A8, c8, rfl⟩ := Kd.R_slice ho; have HB_ := Aside0.mk (below_step (below_alloc HB.out _) hb); have HI_ := Aside0.mk ((HI.out.alloc _).below hb); have HT6_ := Aside0.mk ((HT6.out.alloc _).below hb); have HR4_ := Aside0.mk (Kd.R_below (Kd.R_alloc HR4.out _) hb); clear HB HI HT6 HR4; have HB := HB_; have HI := HI_; have HT6 := HT6_; have HR4 := HR4_; clear HB_ HI_ HT6_ HR4_; clear ho hb) | ((with_reducible refine gate_dst (N := 8) rfl ?_); refine box_event ?hg (N := 8) ?hd (cs := #[.int .u8 0, .slice none 0 0]) (t := 38) ?hr ?_; (case hd => rfl); (case hg => rfl); (case hr => first | (go_simp; done) | (go_simp; rfl)); intro gb hg w6 hbox hb; have HBX := Aside0.mk hbox; have HGE := Aside0.mk (show w.heap.size ≤ gb by rw [hg]; exact HB.out.size); have HT6_ := Aside0.mk (HT6.out.below hb); have HR4_ := Aside0.mk ((Kd.R_mono (Kd.R_below (Kd.R_bound HR4.out) hb) (fun k hk => by have := hk.2.2.1; omega) : Kd.R k38 38 _ w.heap.size (fun k => k ≠ gb) _ _)); have HI_ := Aside0.mk (HI.out.below hb); have HB_ := Aside0.mk (below_step HB.out hb); clear HT6 HR4 HI HB; have HT6 := HT6_; have HR4 := HR4_; have HI := HI_; have HB := HB_; clear HT6_ HR4_ HI_ HB_; clear hg hbox hb; have hx0 := blk_cell HBX.out 0; have hx1 := blk_cell HBX.out 1; have hfx0 := blk_frozen HBX.out 0; have hfx1 := blk_frozen HBX.out 1; replace hx0 := hx0.trans rfl; replace hx1 := hx1.trans rfl))
  (try simp only [Act.put, List.setIfInBounds_toArray, List.set_cons_zero, List.set_cons_succ])
  have HBX0 := Aside0.mk ((blk_set HBX.out 0 (.int .u8 7)).trans rfl)
  generalize hst : World.setCell (World.setCell w6 ⟨gb, 0, none⟩ (.int .u8 7)) ⟨gb, 1, none⟩ (.slice A8 1 c8) = w7
  have HT6_ := Aside0.mk (hst ▸ (HT6.out.apart HBX.out 0 _).apart HBX0.out 1 _)
  have HR4_ := Aside0.mk ((hst ▸ Kd.R_mono (Kd.R_far (p := ⟨gb, 1, none⟩) (Kd.R_far (p := ⟨gb, 0, none⟩) HR4.out (fun _ h => h) _) (fun _ h => h) _) (fun _ _ => trivial) : Kd.R k38 38 w7 w.heap.size (fun _ => True) _ _))
  have HI_ := Aside0.mk (hst ▸ (HI.out.far HBX.out (by decide) (by decide) 0 _).far HBX0.out (by decide) (by decide) 1 _)
  have HB_ := Aside0.mk (hst ▸ below_set (below_set HB.out HGE.out) HGE.out)
  clear HT6 HR4 HI HB
  have HT6 := HT6_
  have HR4 := HR4_
  have HI := HI_
  have HB := HB_
  clear HT6_ HR4_ HI_ HB_
  clear hst hx0 hx1 hfx0 hfx1 HBX0 HBX
  go_upto_region 11 with (first | (go_at_call 36; with_reducible refine (Pending_calls g [0] 0 1 rfl _ HI.out).mono ?_; rintro e w8 ⟨rfl, rfl⟩) | (go_at_call 34; with_reducible refine (Feed_calls g [0] [0] (some ⟨w7.heap.size, 0, none⟩) 1 1 rfl [] [] 2 _ (HI.out.alloc _) ?hC (Nat.le_refl _) ?hB (by simp) ?hS).mono ?_; (case hC => exact C_lit8 w7 [0] 1 rfl (by decide) rfl); (case hB => exact bts_of rfl); (case hS => kernel_rfl); rintro e w8 ⟨v12, rfl, ho, hi, hn⟩; obtain ⟨A12, c12, rfl⟩ := Kd.R_slice ho; have HT6_ := Aside0.mk ((HT6.out.alloc _).near (HI.out.alloc _).typed hn); have HR4_ := Aside0.mk (R38.near (Kd.R_alloc HR4.out _) (HI.out.alloc _).typed hn); have HB_ := Aside0.mk (hn.bel HG.out (below_alloc HB.out _)); have HI_ := Aside0.mk (hi); clear HT6 HR4 HB HI; have HT6 := HT6_; have HR4 := HR4_; have HB := HB_; have HI := HI_; clear HT6_ HR4_ HB_ HI_; clear ho hi hn) | (go_at_call 34; with_reducible refine (Feed_ended g [] 2 _ 4 4 _ (HI.out.alloc _) (by decide)).mono ?_; rintro e w9 ⟨rfl, hb⟩; have HT6_ := Aside0.mk ((HT6.out.alloc _).below hb); have HR4_ := Aside0.mk (Kd.R_below (Kd.R_alloc HR4.out _) hb); have HI_ := Aside0.mk ((HI.out.alloc _).below hb); have HB_ := Aside0.mk (below_step (below_alloc HB.out _) hb); clear HT6 HR4 HI HB; have HT6 := HT6_; have HR4 := HR4_; have HI := HI_; have HB := HB_; clear HT6_ HR4_ HI_ HB_; clear hb))
  obtain ⟨cs13, _, hM13, hcell13, _⟩ := Kd.R_elem HR4.out z38 0 (by decide) (by decide)
  obtain ⟨v13, rfl, hr13⟩ := k38_openM hM13
  obtain ⟨A13, c13, rfl⟩ := Kd.R_slice hr13
  have HT13 := Aside0.mk (show T8 w9 (.slice A13 1 c13) [9] from T8.of_R hr13)
  have hc0 : w9.cell? ⟨g4, 0, none⟩ = some (.int .u8 7) := hcell13 0 _ rfl
  have hc1 : w9.cell? ⟨g4, 1, none⟩ = some (.slice A13 1 c13) := hcell13 1 _ rfl
  clear hM13 hcell13 hr13
  go_wp2_with (first | (go_at_call 32; with_reducible refine (Same38_calls 7 A13 1 c13 [9] rfl 7 (some ⟨w9.heap.size, 0, none⟩) 1 1 [9] rfl true _ (Kd.C_alloc HT13.out.at_.2.2 _) HT13.out.at_.2.1 ?hC (Nat.le_refl _) ?hB ?hB2 rfl).mono ?_; (case hC => exact C_lit8 w9 [9] 1 rfl (by decide) rfl); (case hB => exact bts_of rfl); (case hB2 => exact bts_of rfl); rintro e w10 ⟨rfl, hb⟩; have HT6_ := Aside0.mk ((HT6.out.alloc _).below hb); have HI_ := Aside0.mk ((HI.out.alloc _).below hb); have HB_ := Aside0.mk (below_step (below_alloc HB.out _) hb); clear HT6 HI HB; have HT6 := HT6_; have HI := HI_; have HB := HB_; clear HT6_ HI_ HB_; clear hb) | (go_at_call 23; with_reducible refine (Same8_calls A6 4 c6 [0, 2, 7, 9] rfl (some ⟨w10.heap.size, 0, none⟩) 4 4 [0, 2, 7, 9] rfl true _ (Kd.C_alloc HT6.out.at_.2.2 _) HT6.out.at_.2.1 ?hC (Nat.le_refl _) (by decide) rfl).mono ?_; (case hC => exact C_lit8 w10 [0, 2, 7, 9] 4 rfl (by decide) rfl); rintro e w11 ⟨rfl, hb⟩; have HI_ := Aside0.mk ((HI.out.alloc _).below hb); have HB_ := Aside0.mk (below_step (below_alloc HB.out _) hb); clear HI HB; have HI := HI_; have HB := HB_; clear HI_ HB_; clear hb) | (go_at_call 36; with_reducible refine (Pending_calls g [] 2 0 rfl _ HI.out).mono ?_; rintro e w12 ⟨rfl, rfl⟩))
  go_ret
  exact ⟨rfl, HB.out⟩
end Go.Proofs.Ytagmefjpnmjcjab.Fh
