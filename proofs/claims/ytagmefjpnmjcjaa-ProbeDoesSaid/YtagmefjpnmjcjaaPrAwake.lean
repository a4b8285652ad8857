/- asks and awake of package signalmanlaw13, by hand. -/
import Derived.Test.YtagmefjpnmjcjaaPrTick
import Derived.Test.YtagmefjpnmjcjaaPxAsks
import Derived.Test.YtagmefjpnmjcjaaWaDropLaw
namespace Go.Proofs.Ytagmefjpnmjcjaa.Pr
open Go.RowKit Go.Proofs.YtagmefjpnmjcjaaW.PrintWords Go.Proofs.YtagmefjpnmjcjaaW.PrintLast Go.Proofs.YtagmefjpnmjcjaaW.PrintMore
open Go.Proofs.Ytagmefjpnmjcjaa.Wa (Near Near.refl Near.drewN Near.set_ Near.keep Near.bel2 info3w Near.of_below Near.then_below Near.grown Near.size_ Near.drew1 Near.far Same_same C_one)
open Go.Proofs.Ytagmefjpnmjcjaa.Px (S115 k115 rd_T115 z115 signalmanref13_Asks.calls signalmanref13_Asks.f signalmanref13_Asks.l0 signalmanlaw13_large.calls signalmanlaw13_large.f signalmanlaw13_large.l0 S56 k56 rd_T56 at_T56 z56)
attribute [local go_sem] max2_int min2_int max_two min_two
set_option linter.unusedVariables false
set_option linter.unusedSimpArgs false

def rdA (xs : List (Int × Int)) (i : Nat) : Int × Int := xs.getD i (0, 0)
theorem kA_open {w : World} {x : Int × Int} {cs : List Value} (h : kA.K w x cs) : cs = [.int .i64 x.1, .int .u64 x.2] := by
  obtain ⟨_, _, rfl, rfl, rfl⟩ := h
  exact rfl
theorem at_A {w : World} {A : Option Addr} {n : Nat} {xs : List (Int × Int)} (h : Kd.C kA w A n xs) (i : Nat) (h1 : i < n) : ∃ ad , A = some ad ∧ w.cell? (ad.add (i * 2)) = some (.int .i64 (rdA xs i).1) ∧ w.cell? ⟨(ad.add (i * 2)).block, (ad.add (i * 2)).off + 1, none⟩ = some (.int .u64 (rdA xs i).2) := by
  obtain ⟨ad, c, e, _, hK, hc0⟩ := Kd.C_get h ((0 : Int), (0 : Int)) (i : Int) (by omega) (by omega)
  have hc : ∀ j u, c[j]? = some u → w.cell? (ad.add (i * 2 + j)) = some u := fun j u hu => by simpa [kA, Kd.pair, Kd.int, Kd.scalar] using hc0 j u hu
  obtain rfl := kA_open hK
  exact ⟨ad, e, hc 0 _ (by simp [rdA]), by rw [← add_field _ _ 1 (by omega)]; exact hc 1 _ (by simp [rdA])⟩
theorem info115 : (Try.prog.info? 115).map (fun i => (i.zero, i.size, i.bytes)) = some (some (.agg #[.int .i64 0, .int .u64 0]), 2, 16) := by kernel_rfl
def s115 (p : Int × Int) : S115 := ⟨p.1, p.2⟩
theorem C_115 {w : World} {A : Option Addr} {n : Nat} {xs : List (Int × Int)} (h : Kd.C kA w A n xs) : Kd.C k115 w A n (xs.map s115) := by
  obtain ⟨h1, h2, h3⟩ := h
  refine ⟨by simpa using h1, h2, fun hn => ?_⟩
  obtain ⟨ad, e, hc⟩ := h3 hn
  refine ⟨ad, e, fun j p hp => ?_⟩
  rw [List.getElem?_map] at hp
  obtain ⟨q, hq, rfl⟩ := Option.map_eq_some_iff.1 hp
  obtain ⟨c, h4, h5, h6⟩ := hc j q hq
  exact ⟨c, h4, h5, h6⟩
theorem asks_l0 (l : List S115) (hl : l.length ≤ 1000000) : ∀ (k i : Nat), i ≤ l.length → l.length < k + i → signalmanref13_Asks.l0 k l l (i : Int) = some true
  | 0, i, h1, h2 => absurd h2 (by omega)
  | k + 1, i, h1, h2 => by
    unfold signalmanref13_Asks.l0
    by_cases c : i < l.length
    · have hw : wrap64 ((i : Int) + 1) = ((i + 1 : Nat) : Int) := by unfold wrap64; omega
      rw [if_pos (by omega), if_pos (by omega), if_pos (by omega), if_neg (by simp), hw]
      exact asks_l0 l hl k (i + 1) (by omega) (by omega)
    · rw [if_neg (by omega)]
theorem Asks_same (A0 : Option Addr) (c0 : Nat) (l0 : List (Int × Int)) (A1 : Option Addr) (c1 : Nat) (l1 : List (Int × Int)) (w : World) (he : l0 = l1) (hl : l1.length ≤ 1000000) (hr0 : Kd.C kA w A0 l0.length l0) (hc0 : l0.length ≤ c0) (hr1 : Kd.C kA w A1 l1.length l1) (hc1 : l1.length ≤ c1) :
    Calls Try.prog 31 #[.slice A0 l0.length c0, .slice A1 l1.length c1] w fun e w' => e = .returned (.bool true) ∧ Below w.heap.size w w' := by
  subst he
  have hm : (l0.map s115).length = l0.length := List.length_map ..
  have h := signalmanref13_Asks.calls (l0.length + 1) A0 c0 (l0.map s115) A1 c1 (l0.map s115) true w (by rw [hm]; exact C_115 hr0) (by rw [hm]; exact hc0) (by rw [hm]; exact C_115 hr1) (by rw [hm]; exact hc1) (by
    unfold signalmanref13_Asks.f
    rw [if_pos rfl]
    exact asks_l0 _ (by rw [hm]; exact hl) _ 0 (by omega) (by rw [hm]; omega))
  rw [hm] at h
  exact h.mono fun e w' h => ⟨h.1, h.2.below⟩

theorem R_empty115 (W : World) (base : Nat) (h : base ≤ W.heap.size) : Kd.R kA 115 (W.alloc (.cells #[] 115)) base (fun _ => True) (.slice (some ⟨W.heap.size, 0, none⟩) 0 0) [] :=
  ⟨fun _ _ => trivial, OwnRow.lit (e := 115) (size := 2) (ps := ([] : List (Int × Int))) (inner := []) W base (Reps.none _ _) h (by simp)⟩
theorem ask_store {wb : World} {gb : Nat} {a b : Int} (h : wb.heap[gb]? = some (.cells #[.int .i64 0, .int .u64 0] 74 (0, 0))) : ((wb.setCell ⟨gb, 0, none⟩ (.int .i64 a)).setCell ⟨gb, 1, none⟩ (.int .u64 b)).heap[gb]? = some (.cells #[.int .i64 a, .int .u64 b] 74 (0, 0)) := by
  simpa using blk_set (blk_set h 0 (.int .i64 a)) 1 (.int .u64 b)
set_option maxHeartbeats 8000000 in
set_option maxRecDepth 100000 in
theorem asks_calls (A0 : Option Addr) (c0 : Nat) (l : List (Int × Int)) (w : World) (hr : Kd.C kA w A0 l.length l) (hc : l.length ≤ c0) (hl : l.length ≤ 1000) :
    Calls Try.prog 32 #[.slice A0 l.length c0] w fun e w' => ∃ v, e = .returned v ∧ Kd.R kA 115 w' w.heap.size (fun _ => True) v l ∧ Below w.heap.size w w' := by
  have HA := Aside0.mk hr
  have HLE := Aside0.mk hl
  have hu74 := Try.underlying74
  clear hr hc hl
  go_enter Try.func32, Try.ntmps32
  go_wp2
  go_loopg [3, 9] (l.length + 1) (fun kq v3 v9 w' => ∃ (i : Nat), v9 = .int .i64 (i : Int) ∧ Aside0 (kq + i = l.length + 1) ∧ Aside0 (i ≤ l.length) ∧ Aside0 (Kd.R kA 115 w' w.heap.size (fun _ => True) v3 (l.take i)) ∧ Aside0 (Below w.heap.size w w'))
  case atStart => exact ⟨0, rfl, ⟨by omega⟩, ⟨by omega⟩, ⟨R_empty115 w _ (Nat.le_refl _)⟩, ⟨below_alloc (Below.refl _ _) _⟩⟩
  case round =>
    obtain ⟨i, rfl, HK, HL, HO, HB⟩ := hrel
    obtain ⟨gk, rfl⟩ : ∃ gk', gk = gk' + 1 := ⟨gk - 1, by have := HK.out; have := HL.out; omega⟩
    by_cases ci : i < l.length
    · have cb : decide ((i : Int) < (l.length : Int)) = true := decide_eq_true (by omega)
      have hw : wrap64 ((i : Int) + 1) = ((i + 1 : Nat) : Int) := by have := HLE.out; unfold wrap64; omega
      have p1 : 0 ≤ (i : Int) := by omega
      have p2 : (i : Int) < (l.length : Int) := by omega
      obtain ⟨ad, e7, hx0, hx1⟩ := at_A HA.out i ci
      cases e7
      replace hx0 := (HB.out.cell (World.block_lt_of_cell? w _ hx0)).trans hx0
      replace hx1 := (HB.out.cell (World.block_lt_of_cell? w _ hx1)).trans hx1
      obtain ⟨x, hx⟩ : ∃ x, rdA l i = x := ⟨_, rfl⟩
      rw [hx] at hx0 hx1
      have HTK := Aside0.mk (show l.take i ++ [x] = l.take (i + 1) from by rw [List.take_add_one, List.getElem?_eq_getElem ci, ← hx]; simp [rdA, ci])
      have HLT := Aside0.mk (show (l.take i).length ≤ 1000 by have := HLE.out; rw [List.length_take]; omega)
      clear hx
      obtain ⟨x0, x1⟩ := x
      go_upto_region 5 with ((with_reducible refine gate_dst (N := 5) rfl ?_); refine box_event ?hg (N := 5) ?hd (cs := #[.int .i64 0, .int .u64 0]) (t := 74) ?hr ?_; (case hd => rfl); (case hg => rfl); (case hr => first | (go_simp; done) | (go_simp; rfl)); intro gb hgb wb hbox hb; have BK := Aside0.mk hbox; have GE := Aside0.mk (show w.heap.size ≤ gb by rw [hgb]; exact HB.out.size); have HO_ := Aside0.mk (Kd.R_below HO.out hb); have HB_ := Aside0.mk (below_step HB.out hb); clear HO HB hbox hb hgb; have HO := HO_; have HB := HB_; clear HO_ HB_; have hz0 : wb.cell? ⟨gb, 0, none⟩ = some (.int .i64 0) := (blk_cell BK.out 0).trans rfl; have hz1 : wb.cell? ⟨gb, 1, none⟩ = some (.int .u64 0) := (blk_cell BK.out 1).trans rfl; have hf0 := blk_frozen BK.out 0; have hf1 := blk_frozen BK.out 1)
      (try simp only [Act.put, List.setIfInBounds_toArray, List.set_cons_zero, List.set_cons_succ])
      generalize hW2 : (World.setCell (World.setCell wb ⟨gb, 0, none⟩ (.int .i64 x0)) ⟨gb, 1, none⟩ (.int .u64 x1)) = w2
      have BK_ := Aside0.mk (hW2 ▸ ask_store (a := x0) (b := x1) BK.out)
      have HO_ := Aside0.mk (hW2 ▸ Kd.R_set (Kd.R_set HO.out BK.out (by decide) 0 (.int .i64 x0)) (blk_set BK.out 0 (.int .i64 x0)) (by decide) 1 (.int .u64 x1))
      have HB_ := Aside0.mk (hW2 ▸ below_set (below_set HB.out GE.out) GE.out)
      clear hz0 hz1 hf0 hf1 BK HO HB
      have BK := BK_
      have HO := HO_
      have HB := HB_
      clear BK_ HO_ HB_ hW2
      have hz0 : w2.cell? ⟨gb, 0, none⟩ = some (.int .i64 x0) := (blk_cell BK.out 0).trans rfl
      have hz1 : w2.cell? ⟨gb, 1, none⟩ = some (.int .u64 x1) := (blk_cell BK.out 1).trans rfl
      go_wp2_with (first | ((with_reducible refine gate_builtin (b := .append) (xs := #[.tmp 13, .tmp 15]) rfl ?_); at_builtin; refine Kd.R_append kA (w0 := w) w.heap.size rfl (.tmp 13) (.tmp 15) 61 115 (.agg #[.int .i64 0, .int .u64 0]) 16 rfl Try.underlying61 info115 rfl (by decide) (by omega) _ (l.take i) (x0, x1) [.int .i64 x0, .int .u64 x1] (fun _ => True) (fun _ => False) rfl rfl ?aP (fun _ hk => hk.elim) ?aF ?aO ?aB ?aS ?aL ?_; (case aP => exact ⟨[_], [_], rfl, rfl, rfl⟩); (case aF => exact (fun _ _ => trivial)); (case aO => exact HO.out); (case aB => exact HB.out); (case aS => exact HB.out.size); (case aL => have := HLT.out; omega); intro v1 w10 ho hb hg hat; rw [HTK.out] at ho; have HO_ := Aside0.mk ho; have HB_ := Aside0.mk hb; clear ho hb hg hat HO HB BK; have HO := HO_; have HB := HB_; clear HO_ HB_))
      go_roundg gk
      case measure => omega
      case rel => exact ⟨i + 1, congrArg (Value.int .i64) (by omega), ⟨by have := HK.out; omega⟩, ⟨by omega⟩, HO, HB⟩
    · have cb : decide ((i : Int) < (l.length : Int)) = false := decide_eq_false (by omega)
      have hT : l.take i = l := List.take_of_length_le (by omega)
      have HO_ := HO.out
      rw [hT] at HO_
      have HO2 := Aside0.mk HO_
      clear HO_ HO
      go_wp2
      go_ret
      exact ⟨_, rfl, HO2.out, HB.out⟩

theorem R_nearP {α : Type} {d : Kd α} {e base g : Nat} {w w' : World} {v : Value} {xs : List α} {D : List Int} {mn ev la ls : Int} (h : d.R e w base (fun _ => True) v xs) (hP : IsP w g D mn ev la ls) (ht : ∀ q, q ∈ e :: d.E → q ≠ 121) (hn : Near w w' g) : d.R e w' base (fun _ => True) v xs :=
  Kd.R_mono (Kd.R_keep (Kd.R_types h hP.blk ht) hn.keep (fun k hk => hk.2)) (fun _ hk => hk.1)
theorem Tick_at (g : Nat) (D : List Int) (mn : Nat) (ev la ls now : Int) (w : World) (s : TS) (na nl : Nat) (hs : ticks now ev la ⟨D, ls, [], []⟩ mn = s) (hna : s.asks.length = na) (hnl : s.lates.length = nl) (hI : IsP w g D mn ev la ls) (hn0 : 0 ≤ now) (hn : now ≤ 1000000000000) (hev : 0 ≤ ev ∧ ev ≤ 1000) (hls : 0 ≤ ls ∧ ls ≤ 1000000000000) (has : ∀ i < 6, 0 ≤ nd D (i * 3 + 2) ∧ nd D (i * 3 + 2) ≤ now) :
    Calls Try.prog 29 #[.pointer (some ⟨g, 0, none⟩), .int .u64 now] w fun e w' => ∃ A1 c1 A2 c2, e = .returned (.tuple #[.slice A1 na c1, .slice A2 nl c2]) ∧
      Kd.R kA 74 w' w.heap.size (fun _ => True) (.slice A1 na c1) s.asks ∧ Kd.R (Kd.int .i64) 3 w' w.heap.size (fun _ => True) (.slice A2 nl c2) s.lates ∧ IsP w' g s.D mn ev la s.ls ∧ Near w w' g := by
  subst hs hna hnl
  refine (Tick_calls g D mn ev la ls now w hI hn0 hn hev hls has).mono ?_
  rintro e w' ⟨va, vl, rfl, h1, h2, h3, h4⟩
  obtain ⟨A1, c1, rfl⟩ := Kd.R_slice h1
  obtain ⟨A2, c2, rfl⟩ := Kd.R_slice h2
  exact ⟨A1, c1, A2, c2, rfl, h1, h2, h3, h4⟩
theorem C_oneA (w : World) (x y : Int) : Kd.C kA (w.alloc (.cells #[.int .i64 x, .int .u64 y] 115)) (some ⟨w.heap.size, 0, none⟩) 1 [(x, y)] := by
  refine ⟨rfl, by omega, fun _ => ⟨_, rfl, fun j p hp => ?_⟩⟩
  cases j with
  | zero =>
    simp at hp
    subst hp
    refine ⟨[.int .i64 x, .int .u64 y], rfl, ⟨[_], [_], rfl, rfl, rfl⟩, fun i u hu => ?_⟩
    have hb := heap_alloc_new w (.cells #[.int .i64 x, .int .u64 y] 115)
    cases i with
    | zero =>
      simp at hu
      subst hu
      exact (blk_cell (by simpa using hb) 0).trans rfl
    | succ i =>
      cases i with
      | zero =>
        simp at hu
        subst hu
        exact (blk_cell (by simpa using hb) 1).trans rfl
      | succ i => simp at hu
  | succ j => simp at hp
def sA : TS := ⟨[5, 1, 0, 1, 0, 0, 2, 0, 0, 3, 0, 0, 4, 0, 0, 5, 0, 0], 1, [(0, 1)], []⟩
def sB : TS := ⟨[5, 1, 0, 6, 2, 1, 2, 0, 0, 3, 0, 0, 4, 0, 0, 5, 0, 0], 2, [(1, 2)], []⟩
def sC : TS := ⟨[5, 0, 0, 6, 2, 1, 2, 0, 0, 3, 0, 0, 4, 0, 0, 5, 0, 0], 2, [], [0]⟩
def dD : List Int := [5, 0, 0, 6, 0, 1, 2, 0, 0, 3, 0, 0, 4, 0, 0, 5, 0, 0]
theorem tA : ticks 0 5 2 ⟨newD 6, 0, [], []⟩ 2 = sA := by rfl
theorem tB : ticks 1 5 2 ⟨sA.D, sA.ls, [], []⟩ 2 = sB := by rfl
theorem tC : ticks 2 5 2 ⟨sB.D, sB.ls, [], []⟩ 2 = sC := by rfl
theorem hasA (now : Int) (h : 0 ≤ now) : ∀ i < 6, 0 ≤ nd (newD 6) (i * 3 + 2) ∧ nd (newD 6) (i * 3 + 2) ≤ now := by
  intro i hi
  have h2 : nd (newD 6) (i * 3 + 2) = 0 := by
    have : i = 0 ∨ i = 1 ∨ i = 2 ∨ i = 3 ∨ i = 4 ∨ i = 5 := by omega
    rcases this with rfl | rfl | rfl | rfl | rfl | rfl <;> rfl
  rw [h2]; omega
theorem hasB : ∀ i < 6, 0 ≤ nd sA.D (i * 3 + 2) ∧ nd sA.D (i * 3 + 2) ≤ 1 := by decide
theorem hasC : ∀ i < 6, 0 ≤ nd sB.D (i * 3 + 2) ∧ nd sB.D (i * 3 + 2) ≤ 2 := by decide
theorem asks_at (A0 : Option Addr) (c0 n : Nat) (l : List (Int × Int)) (w : World) (hn : l.length = n) (hr : Kd.C kA w A0 n l) (hc : n ≤ c0) (hl : n ≤ 1000) :
    Calls Try.prog 32 #[.slice A0 n c0] w fun e w' => ∃ A c, e = .returned (.slice A n c) ∧ Kd.R kA 115 w' w.heap.size (fun _ => True) (.slice A n c) l ∧ Below w.heap.size w w' := by
  subst hn
  refine (asks_calls A0 c0 l w hr hc hl).mono ?_
  rintro e w' ⟨v, rfl, ho, hb⟩
  obtain ⟨A, c, rfl⟩ := Kd.R_slice ho
  exact ⟨A, c, rfl, ho, hb⟩
theorem Asks_at (A0 : Option Addr) (c0 n : Nat) (A1 : Option Addr) (c1 : Nat) (l : List (Int × Int)) (w : World) (hn : l.length = n) (hl : n ≤ 1000000) (hr0 : Kd.C kA w A0 n l) (hc0 : n ≤ c0) (hr1 : Kd.C kA w A1 n l) (hc1 : n ≤ c1) :
    Calls Try.prog 31 #[.slice A0 n c0, .slice A1 n c1] w fun e w' => e = .returned (.bool true) ∧ Below w.heap.size w w' := by
  subst hn
  exact Asks_same A0 c0 l A1 c1 l w rfl hl hr0 hc0 hr1 hc1
theorem Same_at (A0 : Option Addr) (c0 n : Nat) (A1 : Option Addr) (c1 : Nat) (l : List Int) (w : World) (hn : l.length = n) (hl : n ≤ 1000000) (hr0 : Kd.C (Kd.int .i64) w A0 n l) (hc0 : n ≤ c0) (hr1 : Kd.C (Kd.int .i64) w A1 n l) (hc1 : n ≤ c1) :
    Calls Try.prog 33 #[.slice A0 n c0, .slice A1 n c1] w fun e w' => e = .returned (.bool true) ∧ Below w.heap.size w w' := by
  subst hn
  exact (Same_same A0 c0 l A1 c1 l w rfl hl hr0 hc0 hr1 hc1).mono fun e w' h => ⟨h.1, h.2.below⟩
theorem R_C {α : Type} {d : Kd α} {e base n : Nat} {ok : Nat → Prop} {w : World} {A : Option Addr} {c : Nat} {xs : List α} (h : d.R e w base ok (.slice A n c) xs) : d.C w A n xs := by
  have h2 := Kd.R_reads' h
  rw [h2.1]; exact h2.2.2
theorem R_le {α : Type} {d : Kd α} {e base n : Nat} {ok : Nat → Prop} {w : World} {A : Option Addr} {c : Nat} {xs : List α} (h : d.R e w base ok (.slice A n c) xs) : n ≤ c := (Kd.R_reads' h).2.1
attribute [local irreducible] IsP Near
set_option maxHeartbeats 8000000 in
set_option maxRecDepth 100000 in
theorem awake_calls (w : World) : Calls Try.prog 25 #[] w fun e w' => e = .returned (.bool true) ∧ Below w.heap.size w w' := by
  have HB := Aside0.mk (Below.refl w.heap.size w)
  go_enter Try.func25, Try.ntmps25
  go_upto_region 7 with (first | (go_at_call 27; with_reducible refine (New_ok 2 5 2 _ (by unfold okNew; omega)).mono ?_; rintro e w' ⟨g, rfl, hI, hg, hb⟩; have HP := Aside0.mk hI; have HG := Aside0.mk (Nat.le_trans HB.out.size hg); have HB_ := Aside0.mk (below_step HB.out hb); clear hI hg hb HB; have HB := HB_; clear HB_) | (go_at_call 29; with_reducible refine (Tick_at g (newD 6) 2 5 2 0 0 _ sA 1 0 tA rfl rfl HP.out (by omega) (by omega) (by omega) (by decide) (hasA 0 (by omega))).mono ?_; rintro e w' ⟨A1, c1, B1, d1, rfl, ha, hl, hI, hn⟩; have HB_ := Aside0.mk (hn.bel2 HG.out HB.out); have HP_ := Aside0.mk (hI); clear HB HP; have HB := HB_; have HP := HP_; clear HB_ HP_; have HA1 := Aside0.mk ha; have HL1 := Aside0.mk hl; clear ha hl hI hn) | (go_at_call 29; with_reducible refine (Tick_at g sA.D 2 5 2 sA.ls 1 _ sB 1 0 tB rfl rfl HP.out (by omega) (by omega) (by omega) (by decide) hasB).mono ?_; rintro e w' ⟨A2, c2, B2, d2, rfl, ha, hl, hI, hn⟩; have HB_ := Aside0.mk (hn.bel2 HG.out HB.out); have HA1_ := Aside0.mk (R_nearP HA1.out HP.out (by decide) hn); have HL1_ := Aside0.mk (R_nearP HL1.out HP.out (by decide) hn); have HP_ := Aside0.mk (hI); clear HB HA1 HL1 HP; have HB := HB_; have HA1 := HA1_; have HL1 := HL1_; have HP := HP_; clear HB_ HA1_ HL1_ HP_; have HA2 := Aside0.mk ha; have HL2 := Aside0.mk hl; clear ha hl hI hn) | (go_at_call 29; with_reducible refine (Tick_at g sB.D 2 5 2 sB.ls 2 _ sC 0 1 tC rfl rfl HP.out (by omega) (by omega) (by omega) (by decide) hasC).mono ?_; rintro e w' ⟨A3, c3, B3, d3, rfl, ha, hl, hI, hn⟩; have HB_ := Aside0.mk (hn.bel2 HG.out HB.out); have HA1_ := Aside0.mk (R_nearP HA1.out HP.out (by decide) hn); have HA2_ := Aside0.mk (R_nearP HA2.out HP.out (by decide) hn); have HL1_ := Aside0.mk (R_nearP HL1.out HP.out (by decide) hn); have HL2_ := Aside0.mk (R_nearP HL2.out HP.out (by decide) hn); have HP_ := Aside0.mk (hI); clear HB HA1 HA2 HL1 HL2 HP; have HB := HB_; have HA1 := HA1_; have HA2 := HA2_; have HL1 := HL1_; have HL2 := HL2_; have HP := HP_; clear HB_ HA1_ HA2_ HL1_ HL2_ HP_; have HA3 := Aside0.mk ha; have HL3 := Aside0.mk hl; clear ha hl hI hn))
  go_wp2_with (first | (go_at_call 32; with_reducible refine (asks_at A1 c1 1 sA.asks _ rfl (R_C HA1.out) (R_le HA1.out) (by omega)).mono ?_; rintro e w' ⟨E1, f1, rfl, ho, hb⟩; have HO1 := Aside0.mk ho; have HB_ := Aside0.mk (below_step HB.out hb); have HP_ := Aside0.mk (HP.out.below hb); have HA1_ := Aside0.mk (Kd.R_below HA1.out hb); have HA2_ := Aside0.mk (Kd.R_below HA2.out hb); have HA3_ := Aside0.mk (Kd.R_below HA3.out hb); have HL1_ := Aside0.mk (Kd.R_below HL1.out hb); have HL2_ := Aside0.mk (Kd.R_below HL2.out hb); have HL3_ := Aside0.mk (Kd.R_below HL3.out hb); clear HB HP HA1 HA2 HA3 HL1 HL2 HL3; have HB := HB_; have HP := HP_; have HA1 := HA1_; have HA2 := HA2_; have HA3 := HA3_; have HL1 := HL1_; have HL2 := HL2_; have HL3 := HL3_; clear HB_ HP_ HA1_ HA2_ HA3_ HL1_ HL2_ HL3_; clear ho hb) | (go_at_call 32; with_reducible refine (asks_at A2 c2 1 sB.asks _ rfl (R_C HA2.out) (R_le HA2.out) (by omega)).mono ?_; rintro e w' ⟨E2, f2, rfl, ho, hb⟩; have HO2 := Aside0.mk ho; have HB_ := Aside0.mk (below_step HB.out hb); have HP_ := Aside0.mk (HP.out.below hb); have HA1_ := Aside0.mk (Kd.R_below HA1.out hb); have HA2_ := Aside0.mk (Kd.R_below HA2.out hb); have HA3_ := Aside0.mk (Kd.R_below HA3.out hb); have HL1_ := Aside0.mk (Kd.R_below HL1.out hb); have HL2_ := Aside0.mk (Kd.R_below HL2.out hb); have HL3_ := Aside0.mk (Kd.R_below HL3.out hb); clear HB HP HA1 HA2 HA3 HL1 HL2 HL3; have HB := HB_; have HP := HP_; have HA1 := HA1_; have HA2 := HA2_; have HA3 := HA3_; have HL1 := HL1_; have HL2 := HL2_; have HL3 := HL3_; clear HB_ HP_ HA1_ HA2_ HA3_ HL1_ HL2_ HL3_; clear ho hb) | (go_at_call 31; with_reducible refine (Asks_at E1 f1 1 _ 1 [((0 : Int), (1 : Int))] _ rfl (by omega) (Kd.C_alloc (R_C HO1.out) _) (R_le HO1.out) (C_oneA _ 0 1) (Nat.le_refl _)).mono ?_; rintro e w' ⟨rfl, hb0⟩; have hb := below_step (below_alloc (Below.refl _ _) (.cells #[.int .i64 0, .int .u64 1] 115)) hb0; have HB_ := Aside0.mk (below_step HB.out hb); have HP_ := Aside0.mk (HP.out.below hb); have HA1_ := Aside0.mk (Kd.R_below HA1.out hb); have HA2_ := Aside0.mk (Kd.R_below HA2.out hb); have HA3_ := Aside0.mk (Kd.R_below HA3.out hb); have HL1_ := Aside0.mk (Kd.R_below HL1.out hb); have HL2_ := Aside0.mk (Kd.R_below HL2.out hb); have HL3_ := Aside0.mk (Kd.R_below HL3.out hb); clear HB HP HA1 HA2 HA3 HL1 HL2 HL3; have HB := HB_; have HP := HP_; have HA1 := HA1_; have HA2 := HA2_; have HA3 := HA3_; have HL1 := HL1_; have HL2 := HL2_; have HL3 := HL3_; clear HB_ HP_ HA1_ HA2_ HA3_ HL1_ HL2_ HL3_; clear hb hb0) | (go_at_call 31; with_reducible refine (Asks_at E2 f2 1 _ 1 [((1 : Int), (2 : Int))] _ rfl (by omega) (Kd.C_alloc (R_C HO2.out) _) (R_le HO2.out) (C_oneA _ 1 2) (Nat.le_refl _)).mono ?_; rintro e w' ⟨rfl, hb0⟩; have hb := below_step (below_alloc (Below.refl _ _) (.cells #[.int .i64 1, .int .u64 2] 115)) hb0; have HB_ := Aside0.mk (below_step HB.out hb); have HP_ := Aside0.mk (HP.out.below hb); have HA1_ := Aside0.mk (Kd.R_below HA1.out hb); have HA2_ := Aside0.mk (Kd.R_below HA2.out hb); have HA3_ := Aside0.mk (Kd.R_below HA3.out hb); have HL1_ := Aside0.mk (Kd.R_below HL1.out hb); have HL2_ := Aside0.mk (Kd.R_below HL2.out hb); have HL3_ := Aside0.mk (Kd.R_below HL3.out hb); clear HB HP HA1 HA2 HA3 HL1 HL2 HL3; have HB := HB_; have HP := HP_; have HA1 := HA1_; have HA2 := HA2_; have HA3 := HA3_; have HL1 := HL1_; have HL2 := HL2_; have HL3 := HL3_; clear HB_ HP_ HA1_ HA2_ HA3_ HL1_ HL2_ HL3_; clear hb hb0) | (go_at_call 33; with_reducible refine (Same_at B3 d3 1 _ 1 [(0 : Int)] _ rfl (by omega) (Kd.C_alloc (R_C HL3.out) _) (R_le HL3.out) (C_one _ 0) (Nat.le_refl _)).mono ?_; rintro e w' ⟨rfl, hb0⟩; have hb := below_step (below_alloc (Below.refl _ _) (.cells #[.int .i64 0] 3)) hb0; have HB_ := Aside0.mk (below_step HB.out hb); have HP_ := Aside0.mk (HP.out.below hb); have HA1_ := Aside0.mk (Kd.R_below HA1.out hb); have HA2_ := Aside0.mk (Kd.R_below HA2.out hb); have HA3_ := Aside0.mk (Kd.R_below HA3.out hb); have HL1_ := Aside0.mk (Kd.R_below HL1.out hb); have HL2_ := Aside0.mk (Kd.R_below HL2.out hb); have HL3_ := Aside0.mk (Kd.R_below HL3.out hb); clear HB HP HA1 HA2 HA3 HL1 HL2 HL3; have HB := HB_; have HP := HP_; have HA1 := HA1_; have HA2 := HA2_; have HA3 := HA3_; have HL1 := HL1_; have HL2 := HL2_; have HL3 := HL3_; clear HB_ HP_ HA1_ HA2_ HA3_ HL1_ HL2_ HL3_; clear hb hb0) | (go_at_call 36; with_reducible refine (Out_calls g sC.D 2 5 2 sC.ls 0 _ HP.out).mono ?_; rintro e w' ⟨rfl, hb⟩; have HB_ := Aside0.mk (below_step HB.out hb); have HP_ := Aside0.mk (HP.out.below hb); clear HB HP; have HB := HB_; have HP := HP_; clear HB_ HP_; clear hb) | (go_at_call 36; with_reducible refine (Out_calls g sC.D 2 5 2 sC.ls 1 _ HP.out).mono ?_; rintro e w' ⟨rfl, hb⟩; have HB_ := Aside0.mk (below_step HB.out hb); have HP_ := Aside0.mk (HP.out.below hb); clear HB HP; have HB := HB_; have HP := HP_; clear HB_ HP_; clear hb) | (go_at_call 37; with_reducible refine (Due_calls g sC.D 2 5 2 sC.ls 0 _ HP.out).mono ?_; rintro e w' ⟨rfl, hb⟩; have HB_ := Aside0.mk (below_step HB.out hb); have HP_ := Aside0.mk (HP.out.below hb); clear HB HP; have HB := HB_; have HP := HP_; clear HB_ HP_; clear hb) | (go_at_call 34; with_reducible refine (Answer_at g sC.D 2 5 2 sC.ls 1 2 _ true dD rfl rfl HP.out).mono ?_; rintro e w' ⟨rfl, hI, hn⟩; have HB_ := Aside0.mk (hn.bel2 HG.out HB.out); have HP_ := Aside0.mk (hI); clear HB HP; have HB := HB_; have HP := HP_; clear HB_ HP_; clear hI hn) | (go_at_call 34; with_reducible refine (Answer_at g dD 2 5 2 sC.ls 1 2 _ false dD rfl rfl HP.out).mono ?_; rintro e w' ⟨rfl, hI, hn⟩; have HB_ := Aside0.mk (hn.bel2 HG.out HB.out); have HP_ := Aside0.mk (hI); clear HB HP; have HB := HB_; have HP := HP_; clear HB_ HP_; clear hI hn))
  go_ret
  exact ⟨rfl, HB.out⟩
end Go.Proofs.Ytagmefjpnmjcjaa.Pr
