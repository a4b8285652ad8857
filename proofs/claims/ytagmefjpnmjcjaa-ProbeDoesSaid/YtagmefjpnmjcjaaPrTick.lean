/- Tick of a plan of probes, by hand. -/
import Derived.Test.YtagmefjpnmjcjaaPrHand
namespace Go.Proofs.Ytagmefjpnmjcjaa.Pr
open Go.RowKit Go.Proofs.YtagmefjpnmjcjaaW.PrintWords Go.Proofs.YtagmefjpnmjcjaaW.PrintLast Go.Proofs.YtagmefjpnmjcjaaW.PrintMore
open Go.Proofs.Ytagmefjpnmjcjaa.Wa (Near Near.refl Near.drewN Near.set_ Near.keep Near.bel2 info3w Near.of_below Near.then_below Near.grown Near.size_ Near.drew1 Near.far)
attribute [local go_sem] max2_int min2_int max_two min_two
set_option linter.unusedVariables false
set_option linter.unusedSimpArgs false

def isLate (now la : Int) (D : List Int) (i : Nat) : Bool := (nd D (i * 3 + 1) != 0) && decide (la ≤ now - nd D (i * 3 + 2))
/-- What a Tick has told so far. -/
structure TS where
  D : List Int
  ls : Int
  asks : List (Int × Int)
  lates : List Int
def lateD (now la : Int) (s : TS) (i : Nat) : List Int := if isLate now la s.D i then s.D.set (i * 3 + 1) 0 else s.D
def lateL (now la : Int) (s : TS) (i : Nat) : List Int := if isLate now la s.D i then s.lates ++ [(i : Int)] else s.lates
def isAsk (now la : Int) (s : TS) (i : Nat) : Bool := (nd (lateD now la s i) (i * 3 + 1) == 0) && decide (nd (lateD now la s i) (i * 3) ≤ now)
def askD (now ev ls : Int) (D : List Int) (i : Nat) : List Int := ((D.set (i * 3 + 1) (ls + 1)).set (i * 3 + 2) now).set (i * 3) (now + ev)
def tstep (now ev la : Int) (s : TS) (i : Nat) : TS :=
  if isAsk now la s i then ⟨askD now ev s.ls (lateD now la s i) i, s.ls + 1, s.asks ++ [((i : Int), s.ls + 1)], lateL now la s i⟩ else ⟨lateD now la s i, s.ls, s.asks, lateL now la s i⟩
def ticks (now ev la : Int) (s : TS) : Nat → TS
  | 0 => s
  | n + 1 => tstep now ev la (ticks now ev la s n) n
theorem lateD_len {now la : Int} {s : TS} {i : Nat} : (lateD now la s i).length = s.D.length := by unfold lateD; split <;> simp
theorem askD_len {now ev ls : Int} {D : List Int} {i : Nat} : (askD now ev ls D i).length = D.length := by simp [askD]
theorem tstep_len {now ev la : Int} {s : TS} {i : Nat} : (tstep now ev la s i).D.length = s.D.length := by
  unfold tstep; split
  · simp [askD_len, lateD_len]
  · simp [lateD_len]
theorem ticks_len {now ev la : Int} {s : TS} : ∀ n, (ticks now ev la s n).D.length = s.D.length
  | 0 => rfl
  | n + 1 => by rw [ticks, tstep_len, ticks_len n]
theorem nd_lateD {now la : Int} {s : TS} {i j : Nat} (hl : s.D.length = 18) (hi : i < 6) (hj : j ≠ i * 3 + 1) : nd (lateD now la s i) j = nd s.D j := by
  unfold lateD; split
  · rw [nd_set (by omega), if_neg (fun e => hj e.symm)]
  · rfl
theorem nd_tstep {now ev la : Int} {s : TS} {i j : Nat} (hl : s.D.length = 18) (hi : i < 6) (hj : j < i * 3 ∨ i * 3 + 3 ≤ j) : nd (tstep now ev la s i).D j = nd s.D j := by
  have h1 : nd (lateD now la s i) j = nd s.D j := nd_lateD hl hi (by omega)
  unfold tstep; split
  · simp only [askD]
    rw [nd_set (by simp [lateD_len]; omega), if_neg (by omega), nd_set (by simp [lateD_len]; omega), if_neg (by omega), nd_set (by simp [lateD_len]; omega), if_neg (by omega), h1]
  · exact h1
theorem nd_ticks {now ev la : Int} {s : TS} (hl : s.D.length = 18) : ∀ (n j : Nat), n ≤ 6 → n * 3 ≤ j → nd (ticks now ev la s n).D j = nd s.D j
  | 0, _, _, _ => rfl
  | n + 1, j, hn, hj => by rw [ticks, nd_tstep (by rw [ticks_len, hl]) (by omega) (.inr (by omega)), nd_ticks hl n j (by omega) (by omega)]
theorem ticks_asks {now ev la : Int} {s : TS} : ∀ n, (ticks now ev la s n).asks.length ≤ s.asks.length + n
  | 0 => by simp [ticks]
  | n + 1 => by
    have := ticks_asks (now := now) (ev := ev) (la := la) (s := s) n
    rw [ticks]; unfold tstep; split
    · simp; omega
    · simp; omega
theorem ticks_lates {now ev la : Int} {s : TS} : ∀ n, (ticks now ev la s n).lates.length ≤ s.lates.length + n
  | 0 => by simp [ticks]
  | n + 1 => by
    have := ticks_lates (now := now) (ev := ev) (la := la) (s := s) n
    have h : (lateL now la (ticks now ev la s n) n).length ≤ (ticks now ev la s n).lates.length + 1 := by unfold lateL; split <;> simp
    rw [ticks]; unfold tstep; split <;> simp <;> omega
theorem ticks_ls {now ev la : Int} {s : TS} : ∀ n, s.ls ≤ (ticks now ev la s n).ls ∧ (ticks now ev la s n).ls ≤ s.ls + n
  | 0 => by simp [ticks]
  | n + 1 => by
    have := ticks_ls (now := now) (ev := ev) (la := la) (s := s) n
    rw [ticks]; unfold tstep; split
    · simp; omega
    · simp; omega
attribute [local irreducible] IsP Near

set_option maxHeartbeats 8000000 in
set_option maxRecDepth 100000 in
theorem late_calls (g bn bp : Nat) (D : List Int) (mn ev la ls now : Int) (i : Nat) (w : World) (hI : IsP w g D mn ev la ls) (hi : i < 6)
    (hbn : w.heap[bn]? = some (.cells #[.int .u64 now] 22 (0, 0))) (hbp : w.heap[bp]? = some (.cells #[.pointer (some ⟨g, 0, none⟩)] 48 (0, 0))) (ha : 0 ≤ nd D (i * 3 + 2) ∧ nd D (i * 3 + 2) ≤ now) (hn : now ≤ 1000000000000) :
    Calls Try.prog 63 #[.pointer (some ⟨g, i * 3, none⟩), .pointer (some ⟨bn, 0, none⟩), .pointer (some ⟨bp, 0, none⟩)] w fun e w' => e = .returned (.bool (isLate now la D i)) ∧ Below w.heap.size w w' := by
  have hj1 : i * 3 + 1 < 18 := by omega
  have hj2 : i * 3 + 2 < 18 := by omega
  have hc1 := hI.cD hj1
  have hc2 := hI.cD hj2
  have hc20 := hI.c20
  have hcn : w.cell? ⟨bn, 0, none⟩ = some (.int .u64 now) := (blk_cell hbn 0).trans rfl
  have hcp : w.cell? ⟨bp, 0, none⟩ = some (.pointer (some ⟨g, 0, none⟩)) := (blk_cell hbp 0).trans rfl
  have hp : Aside0 (isLate now la D i = ((nd D (i * 3 + 1) != 0) && decide (la ≤ now - nd D (i * 3 + 2)))) := ⟨rfl⟩
  obtain ⟨o, ho⟩ : ∃ o, nd D (i * 3 + 1) = o := ⟨_, rfl⟩
  obtain ⟨a, haa⟩ : ∃ a, nd D (i * 3 + 2) = a := ⟨_, rfl⟩
  rw [ho] at hc1 hp
  rw [haa] at hc2 hp ha
  have hw : IntKind.u64.wrap (now - a) = now - a := by rw [IntKind.wrap_u64]; omega
  clear hI hbn hbp ho haa ha hn hi
  by_cases c : o = 0
  · have b0 : (o != 0) = false := by simp [c]
    have hf := Aside0.mk (show false = isLate now la D i by rw [hp.out, b0]; rfl)
    clear c hp
    go_enter Try.func63, Try.ntmps63
    go_wp2
    go_quiet (fail)
    go_wp2
    go_ret
    exact ⟨congrArg (fun x => Ending.returned (.bool x)) hf.out, by repeat (first | exact Below.refl _ _ | apply pw_below_drewN)⟩
  · have b0 : (o != 0) = true := by simp [c]
    obtain ⟨b, hb⟩ : ∃ b, decide (la ≤ now - a) = b := ⟨_, rfl⟩
    have hf := Aside0.mk (show b = isLate now la D i by rw [hp.out, b0, hb]; rfl)
    clear c hp
    go_enter Try.func63, Try.ntmps63
    go_wp2
    go_quiet (fail)
    go_wp2
    go_ret
    exact ⟨congrArg (fun x => Ending.returned (.bool x)) hf.out, by repeat (first | exact Below.refl _ _ | apply pw_below_drewN)⟩

theorem info74 : (Try.prog.info? 74).map (fun i => (i.zero, i.size, i.bytes)) = some (some (.agg #[.int .i64 0, .int .u64 0]), 2, 16) := by kernel_rfl
/-- A row of asks. -/
def kA : Kd (Int × Int) := Kd.pair (Kd.int .i64) (Kd.int .u64)

/-- Block g is a plan. -/
def AtP (W : World) (g : Nat) : Prop := ∃ cs, W.heap[g]? = some (.cells cs 121 (0, 0))
theorem IsP.any {W : World} {g : Nat} {D : List Int} {mn ev la ls : Int} (h : IsP W g D mn ev la ls) : AtP W g := by unfold IsP at h; exact ⟨_, h.1⟩
theorem AtP.setA {W : World} {g : Nat} (h : AtP W g) {base : Nat} {v : Value} {xs : List (Int × Int)} (hR : Kd.R kA 74 W base (fun _ => True) v xs) (j : Nat) (u : Value) : Kd.R kA 74 (W.setCell ⟨g, j, none⟩ u) base (fun _ => True) v xs := by
  obtain ⟨cs, h⟩ := h; exact Kd.R_set hR h (by decide) j u
theorem AtP.setL_ {W : World} {g : Nat} (h : AtP W g) {base : Nat} {v : Value} {xs : List Int} (hR : Kd.R (Kd.int .i64) 3 W base (fun _ => True) v xs) (j : Nat) (u : Value) : Kd.R (Kd.int .i64) 3 (W.setCell ⟨g, j, none⟩ u) base (fun _ => True) v xs := by
  obtain ⟨cs, h⟩ := h; exact Kd.R_set hR h (by decide) j u
theorem AtP.ne_ {W : World} {g : Nat} (h : AtP W g) {v : Value} {e' : Nat} (hty : ∀ k, v.ownBlock = some k → ∃ cells, W.heap[k]? = some (.cells cells e' (0, 0))) (ht : e' ≠ 121) : some g ≠ v.ownBlock := by
  obtain ⟨cs, h⟩ := h
  intro e
  obtain ⟨cells, h2⟩ := hty g e.symm
  rw [h] at h2
  injection h2 with h2
  injection h2 with _ h2
  exact ht h2.symm
attribute [local irreducible] AtP
set_option maxHeartbeats 8000000 in
set_option maxRecDepth 100000 in
theorem Tick_calls (g : Nat) (D : List Int) (mn : Nat) (ev la ls now : Int) (w : World) (hI : IsP w g D mn ev la ls) (hn0 : 0 ≤ now) (hn : now ≤ 1000000000000) (hev : 0 ≤ ev ∧ ev ≤ 1000) (hls : 0 ≤ ls ∧ ls ≤ 1000000000000) (has : ∀ i < 6, 0 ≤ nd D (i * 3 + 2) ∧ nd D (i * 3 + 2) ≤ now) :
    Calls Try.prog 29 #[.pointer (some ⟨g, 0, none⟩), .int .u64 now] w fun e w' => ∃ va vl, e = .returned (.tuple #[va, vl]) ∧
      Kd.R kA 74 w' w.heap.size (fun _ => True) va (ticks now ev la ⟨D, ls, [], []⟩ mn).asks ∧ Kd.R (Kd.int .i64) 3 w' w.heap.size (fun _ => True) vl (ticks now ev la ⟨D, ls, [], []⟩ mn).lates ∧
      IsP w' g (ticks now ev la ⟨D, ls, [], []⟩ mn).D mn ev la (ticks now ev la ⟨D, ls, [], []⟩ mn).ls ∧ Near w w' g := by
  have HP0 := Aside0.mk hI
  have hmn6 := hI.mn6
  have hmn1 := hI.mn1
  have HDL := Aside0.mk hI.len
  have HGL := Aside0.mk hI.lt
  have HNOW := Aside0.mk hn
  have HNOW0 := Aside0.mk hn0
  have HEV := Aside0.mk hev
  have HLS := Aside0.mk hls
  have HASK := Aside0.mk has
  obtain ⟨s0, hs0⟩ : ∃ s0 : TS, s0 = ⟨D, ls, [], []⟩ := ⟨_, rfl⟩
  rw [← hs0]
  have HS0 := Aside0.mk hs0
  clear hI hn0 hn hev hls has hs0
  have hmf : ∀ (fn : Fn) (first cap : Array Value) (w : World), (Instr.makeFunc fn first cap).run Try.prog w = .ok (.func fn first cap) w := fun _ _ _ _ => rfl
  go_enter Try.func29, Try.ntmps29
  go_upto_region 1 with (first | ((with_reducible refine gate_dst (N := 2) rfl ?_); refine box_event ?hg (N := 2) ?hd (cs := #[.pointer (some ⟨g, 0, none⟩)]) (t := 48) ?hr ?_; (case hd => rfl); (case hg => rfl); (case hr => first | (go_simp; done) | (go_simp; rfl)); intro bp hg w2 hbox hb; have HBP := Aside0.mk hbox; have HGE2 := Aside0.mk (show w.heap.size ≤ bp by rw [hg]; exact Nat.le_refl _); have HP := Aside0.mk (HP0.out.below hb); have HN := Aside0.mk (Near.of_below hb g); clear hg hbox hb) | ((with_reducible refine gate_dst (N := 3) rfl ?_); refine box_event ?hg (N := 3) ?hd (cs := #[.int .u64 now]) (t := 22) ?hr ?_; (case hd => rfl); (case hg => rfl); (case hr => first | (go_simp; done) | (go_simp; rfl)); intro bn hg w2 hbox hb; have HBN := Aside0.mk hbox; have HBP_ := Aside0.mk ((hb.block bp (blk_lt HBP.out)).trans HBP.out); have HGE3 := Aside0.mk (show w.heap.size ≤ bn by rw [hg]; exact HN.out.size_); have HP_ := Aside0.mk (HP.out.below hb); have HN_ := Aside0.mk (HN.out.then_below hb); clear hg hbox hb HBP HP HN; have HBP := HBP_; have HP := HP_; have HN := HN_; clear HBP_ HP_ HN_))
  have hzp := (blk_cell HBP.out 0).trans rfl
  have hz18 := HP.out.c18
  go_wp2
  clear hzp hz18
  go_loopg [6, 7, 16] (mn + 1) (fun kq v6 v7 v16 w' => ∃ (i : Nat), v16 = .int .i64 (i : Int) ∧ Aside0 (kq + i = mn + 1) ∧ Aside0 (i ≤ mn) ∧ Aside0 (Kd.R kA 74 w' w.heap.size (fun _ => True) v6 (ticks now ev la s0 i).asks) ∧ Aside0 (Kd.R (Kd.int .i64) 3 w' w.heap.size (fun _ => True) v7 (ticks now ev la s0 i).lates) ∧ Aside0 (IsP w' g (ticks now ev la s0 i).D mn ev la (ticks now ev la s0 i).ls) ∧ Aside0 (w'.heap[bp]? = some (.cells #[.pointer (some ⟨g, 0, none⟩)] 48 (0, 0))) ∧ Aside0 (w'.heap[bn]? = some (.cells #[.int .u64 now] 22 (0, 0))) ∧ Aside0 (Near w w' g))
  case atStart => exact ⟨0, rfl, ⟨by omega⟩, ⟨by omega⟩, ⟨by rw [ticks, HS0.out]; exact Kd.R_nil _ _ _ _ _⟩, ⟨by rw [ticks, HS0.out]; exact Kd.R_nil _ _ _ _ _⟩, ⟨by rw [ticks, HS0.out]; exact HP.out⟩, HBP, HBN, HN⟩
  case round =>
    clear HP HBP HBN HN
    obtain ⟨i, rfl, HK, HLI, HA, HL, HP, HBP, HBN, HN⟩ := hrel
    obtain ⟨gk, rfl⟩ : ∃ gk', gk = gk' + 1 := ⟨gk - 1, by have := HK.out; have := HLI.out; omega⟩
    by_cases ci : i < mn
    · have c1 : decide ((i : Int) < (mn : Int)) = true := decide_eq_true (by omega)
      have hi6 : i < 6 := by omega
      have p1 : 0 ≤ (i : Int) := by omega
      have p2 : (i : Int) < 6 := by omega
      have hj0 : i * 3 < 18 := by omega
      have hj1 : i * 3 + 1 < 18 := by omega
      have hj2 : i * 3 + 2 < 18 := by omega
      have e1 : s0.ls = ls := by rw [HS0.out]
      have e2 : s0.asks = [] := by rw [HS0.out]
      have e3 : s0.lates = [] := by rw [HS0.out]
      have e4 : s0.D = D := by rw [HS0.out]
      have HLL := Aside0.mk (show (ticks now ev la s0 i).lates.length ≤ 6 by have := ticks_lates (now := now) (ev := ev) (la := la) (s := s0) i; rw [e3] at this; simp at this; omega)
      have HAL := Aside0.mk (show (ticks now ev la s0 i).asks.length ≤ 6 by have := ticks_asks (now := now) (ev := ev) (la := la) (s := s0) i; rw [e2] at this; simp at this; omega)
      have HLB := Aside0.mk (show 0 ≤ (ticks now ev la s0 i).ls ∧ (ticks now ev la s0 i).ls ≤ 1000000000006 by have := ticks_ls (now := now) (ev := ev) (la := la) (s := s0) i; have h2 := HLS.out; rw [e1] at this; omega)
      have HAS := Aside0.mk (show 0 ≤ nd (ticks now ev la s0 i).D (i * 3 + 2) ∧ nd (ticks now ev la s0 i).D (i * 3 + 2) ≤ now by rw [nd_ticks (by rw [e4]; exact HDL.out) i _ (by omega) (by omega), e4]; exact HASK.out i hi6)
      have HTS := Aside0.mk (show ticks now ev la s0 (i + 1) = tstep now ev la (ticks now ev la s0 i) i from rfl)
      clear e1 e2 e3 e4
      obtain ⟨s, hs⟩ : ∃ s, ticks now ev la s0 i = s := ⟨_, rfl⟩
      rw [hs] at HLL HAL HLB HAS HTS HA HL HP
      clear hs
      obtain ⟨lt, hlt⟩ : ∃ b, isLate now la s.D i = b := ⟨_, rfl⟩
      obtain ⟨A7, c7, rfl⟩ := Kd.R_slice HL.out
      have HPT := Aside0.mk HP.out.any
      have hzp := (blk_cell HBP.out 0).trans rfl
      go_upto_if 26 with (first | (go_at_call 63; with_reducible refine (late_calls g bn bp s.D mn ev la s.ls now i _ HP.out hi6 HBN.out HBP.out HAS.out HNOW.out).mono ?_; rw [hlt]; rintro e w3 ⟨rfl, hb⟩; have HBP_ := Aside0.mk ((hb.block bp (blk_lt HBP.out)).trans HBP.out); have HBN_ := Aside0.mk ((hb.block bn (blk_lt HBN.out)).trans HBN.out); have HP_ := Aside0.mk (HP.out.below hb); have HN_ := Aside0.mk (HN.out.then_below hb); have HA_ := Aside0.mk (Kd.R_below HA.out hb); have HL_ := Aside0.mk (Kd.R_below HL.out hb); clear HBP HBN HP HN HA HL; have HBP := HBP_; have HBN := HBN_; have HP := HP_; have HN := HN_; have HA := HA_; have HL := HL_; clear HBP_ HBN_ HP_ HN_ HA_ HL_; clear hb; have hz1 := HP.out.cD hj1; have hf1 := HP.out.fz (i * 3 + 1)))
      clear hzp
      obtain ⟨D1, hD1⟩ : ∃ D1, lateD now la s i = D1 := ⟨_, rfl⟩
      obtain ⟨L1, hL1⟩ : ∃ L1, lateL now la s i = L1 := ⟨_, rfl⟩
      have HD1 := Aside0.mk hD1
      have HL1 := Aside0.mk hL1
      have hD1b : D1 = if lt then s.D.set (i * 3 + 1) 0 else s.D := by rw [← hD1]; unfold lateD; rw [hlt]
      have hL1b : L1 = if lt then s.lates ++ [(i : Int)] else s.lates := by rw [← hL1]; unfold lateL; rw [hlt]
      clear hD1 hL1 hlt
      have HPT_ := Aside0.mk HP.out.any
      clear HPT
      have HPT := HPT_
      clear HPT_
      go_cut [7] (fun v7 wc => Aside0 (Kd.R kA 74 wc w.heap.size (fun _ => True) u6 s.asks) ∧ Aside0 (Kd.R (Kd.int .i64) 3 wc w.heap.size (fun _ => True) v7 L1) ∧ Aside0 (IsP wc g D1 mn ev la s.ls) ∧ Aside0 (wc.heap[bp]? = some (.cells #[.pointer (some ⟨g, 0, none⟩)] 48 (0, 0))) ∧ Aside0 (wc.heap[bn]? = some (.cells #[.int .u64 now] 22 (0, 0))) ∧ Aside0 (Near w wc g))
      case first =>
        cases lt with
        | true =>
          rw [if_pos rfl] at hD1b hL1b
          subst hD1b hL1b
          go_upto_region 10 with (fail)
          (try simp only [Act.put, List.setIfInBounds_toArray, List.set_cons_zero, List.set_cons_succ])
          have HNP := Aside0.mk (show bp ≠ g from fun e_ => by have := HGE2.out; have := HGL.out; omega)
          have HNN := Aside0.mk (show bn ≠ g from fun e_ => by have := HGE3.out; have := HGL.out; omega)
          generalize hst : World.setCell w3 ⟨g, i * 3 + 1, none⟩ (.int .u64 0) = w4
          have HBP_ := Aside0.mk (hst ▸ blk_far HBP.out HNP.out _)
          have HBN_ := Aside0.mk (hst ▸ blk_far HBN.out HNN.out _)
          have HP_ := Aside0.mk (hst ▸ HP.out.setD _ hj1 0)
          have HN_ := Aside0.mk (hst ▸ HN.out.set_ _ _)
          have HA_ := Aside0.mk (hst ▸ HPT.out.setA HA.out _ _)
          have HL_ := Aside0.mk (hst ▸ HPT.out.setL_ HL.out _ _)
          clear HBP HBN HP HN HA HL
          have HBP := HBP_
          have HBN := HBN_
          have HP := HP_
          have HN := HN_
          have HA := HA_
          have HL := HL_
          clear HBP_ HBN_ HP_ HN_ HA_ HL_
          have HPT_ := Aside0.mk HP.out.any
          clear HPT
          have HPT := HPT_
          clear HPT_
          clear hst hz1 hf1
          go_wp2_with (first | ((with_reducible refine gate_builtin (b := .append) (xs := #[.tmp 30, .tmp 32]) rfl ?_); at_builtin; refine Kd.R_append (Kd.int .i64) (w0 := w4) w.heap.size rfl (.tmp 30) (.tmp 32) 58 3 (.int .i64 0) 8 rfl Try.underlying58 info3w rfl (by decide) (by omega) _ s.lates (i : Int) [.int .i64 (i : Int)] (fun _ => True) (fun _ => False) rfl rfl ?aP (fun _ hk => hk.elim) ?aF ?aO ?aB ?aS ?aL ?_; (case aP => exact rfl); (case aF => exact (fun _ _ => trivial)); (case aO => exact HL.out); (case aB => exact Below.refl _ _); (case aS => exact HN.out.size_); (case aL => have := HLL.out; omega); intro v1 w5 ho hb hg hat; have HT := Aside0.mk (Kd.R_typed HL.out); have HBP_ := Aside0.mk ((hg.block bp (blk_lt HBP.out) (fun e_ => by obtain ⟨_, h_⟩ := HT.out bp e_.symm; rw [HBP.out] at h_; injection h_ with h_; injection h_ with _ h_; exact absurd h_ (by decide))).trans HBP.out); have HBN_ := Aside0.mk ((hg.block bn (blk_lt HBN.out) (fun e_ => by obtain ⟨_, h_⟩ := HT.out bn e_.symm; rw [HBN.out] at h_; injection h_ with h_; injection h_ with _ h_; exact absurd h_ (by decide))).trans HBN.out); have HP_ := Aside0.mk (HP.out.grown hg (HPT.out.ne_ HT.out (by decide))); have HN_ := Aside0.mk (HN.out.grown hg (fun k hk => Kd.R_base HL.out k hk) HGL.out); have HA_ := Aside0.mk (Kd.R_over' HA.out HT.out (by decide) hg); have HL_ := Aside0.mk (ho); clear HBP HBN HP HN HA HL; have HBP := HBP_; have HBN := HBN_; have HP := HP_; have HN := HN_; have HA := HA_; have HL := HL_; clear HBP_ HBN_ HP_ HN_ HA_ HL_; clear ho hb hg hat HT))
          go_meet
          case rel => exact ⟨HA, HL, HP, HBP, HBN, HN⟩
        | false =>
          rw [if_neg (by decide)] at hD1b hL1b
          subst hD1b hL1b
          go_wp2
          go_meet
          case rel => exact ⟨HA, HL, HP, HBP, HBN, HN⟩
      case rest =>
        clear HA HL HP HBP HBN HN HPT hD1b hL1b
        obtain ⟨HA, HL, HP, HBP, HBN, HN⟩ := hcut
        have HPT := Aside0.mk HP.out.any
        have hDa : (nd D1 (i * 3 + 1) == 0 && decide (nd D1 (i * 3) ≤ now)) = isAsk now la s i := by rw [← HD1.out]; rfl
        by_cases co : nd D1 (i * 3 + 1) = 0
        · have b0 : (nd D1 (i * 3 + 1) == 0) = true := beq_iff_eq.mpr co
          clear co
          by_cases cd : nd D1 (i * 3) ≤ now
          · have b1 : decide (nd D1 (i * 3) ≤ now) = true := decide_eq_true cd
            have HTT := Aside0.mk (show tstep now ev la s i = ⟨askD now ev s.ls D1 i, s.ls + 1, s.asks ++ [((i : Int), s.ls + 1)], L1⟩ by unfold tstep; rw [if_pos (by rw [← hDa, b0, b1]; rfl), HD1.out, HL1.out])
            clear cd hDa
            go_upto_region 11 with (fail)
            have HBP_ := Aside0.mk (blk_drew HBP.out)
            have HBN_ := Aside0.mk (blk_drew HBN.out)
            have HP_ := Aside0.mk (HP.out.drew)
            have HN_ := Aside0.mk (HN.out.drew1)
            have HA_ := Aside0.mk (Kd.R_drew HA.out)
            have HL_ := Aside0.mk (Kd.R_drew HL.out)
            have HPT_ := Aside0.mk (HP.out.drew.any)
            clear HBP HBN HP HN HA HL HPT
            have HBP := HBP_
            have HBN := HBN_
            have HP := HP_
            have HN := HN_
            have HA := HA_
            have HL := HL_
            have HPT := HPT_
            clear HBP_ HBN_ HP_ HN_ HA_ HL_ HPT_
            refine start_ (n := 13) (S := fun w' => w'.cell? ⟨g, i * 3 + 1, none⟩ = some (.int .u64 (nd D1 (i * 3 + 1))) ∧ w'.cell? ⟨g, i * 3, none⟩ = some (.int .u64 (nd D1 (i * 3))) ∧ w'.cell? ⟨bn, 0, none⟩ = some (.int .u64 now)) (ds := []) #[false, false, false, false, false, false, false, false, false, false, false, false, false] (by kernel_rfl) rfl rfl ⟨HP.out.cD hj1, HP.out.cD hj0, (blk_cell HBN.out 0).trans rfl⟩ (fun hHeld => ?_)
            generalize World.drew wc = w4 at HBP HBN HP HN HA HL HPT hHeld ⊢
            refine pure_ (i := 0) (N := some 34) (v := ?_) (a' := ?_) #[true, false, false, false, false, false, false, false, false, false, false, false, false] rfl rfl (by kernel_rfl) (fun _ _ _ h => h) (Or.inl ⟨by rfl, ?_⟩) ?_ ?_
            rotate_left
            · intro w'
              go_simp
              with_reducible rfl
            rotate_left
            · simp only [Act.put, List.setIfInBounds_toArray, List.set_cons_zero, List.set_cons_succ, i64_w, i32_w]
              rfl
            refine pure_ (i := 1) (N := some 35) (v := ?_) (a' := ?_) #[true, true, false, false, false, false, false, false, false, false, false, false, false] rfl rfl (by kernel_rfl) (fun _ _ _ h => h) (Or.inl ⟨by rfl, ?_⟩) ?_ ?_
            rotate_left
            · intro w'
              go_simp
              with_reducible rfl
            rotate_left
            · simp only [Act.put, List.setIfInBounds_toArray, List.set_cons_zero, List.set_cons_succ, i64_w, i32_w]
              rfl
            refine pure_ (i := 2) (N := some 36) (v := ?_) (a' := ?_) #[true, true, true, false, false, false, false, false, false, false, false, false, false] rfl rfl (by kernel_rfl) (fun _ _ _ h => h) (Or.inl ⟨by rfl, ?_⟩) ?_ ?_
            rotate_left
            · intro w'
              go_simp
              with_reducible rfl
            rotate_left
            · simp only [Act.put, List.setIfInBounds_toArray, List.set_cons_zero, List.set_cons_succ, i64_w, i32_w]
              rfl
            refine take_ (i := 3) (N := some 37) (v := ?_) (a' := ?_) #[true, true, true, true, false, false, false, false, false, false, false, false, false] rfl rfl (by kernel_rfl) (fun _ _ _ h => h) (Or.inl ⟨by rfl, ?_⟩) hHeld ?_ ?_
            rotate_left
            · rintro w' ⟨s0, s1, s2⟩
              go_simp
              with_reducible rfl
            rotate_left
            · simp only [Act.put, List.setIfInBounds_toArray, List.set_cons_zero, List.set_cons_succ, i64_w, i32_w]
              rfl
            refine pure_ (i := 4) (N := some 38) (v := ?_) (a' := ?_) #[true, true, true, true, true, false, false, false, false, false, false, false, false] rfl rfl (by kernel_rfl) (fun _ _ _ h => h) (Or.inl ⟨by rfl, ?_⟩) ?_ ?_
            rotate_left
            · intro w'
              go_simp
              with_reducible rfl
            rotate_left
            · simp only [Act.put, List.setIfInBounds_toArray, List.set_cons_zero, List.set_cons_succ, i64_w, i32_w]
              rfl
            refine pure_ (i := 5) (N := some 39) (v := ?_) (a' := ?_) #[true, true, true, true, true, true, false, false, false, false, false, false, false] rfl rfl (by kernel_rfl) (fun _ _ _ h => h) (Or.inl ⟨by rfl, ?_⟩) ?_ ?_
            rotate_left
            · intro w'
              go_simp
              with_reducible rfl
            rotate_left
            · simp only [Act.put, List.setIfInBounds_toArray, List.set_cons_zero, List.set_cons_succ, i64_w, i32_w]
              rfl
            refine pure_ (i := 6) (N := some 40) (v := ?_) (a' := ?_) #[true, true, true, true, true, true, true, false, false, false, false, false, false] rfl rfl (by kernel_rfl) (fun _ _ _ h => h) (Or.inl ⟨by rfl, ?_⟩) ?_ ?_
            rotate_left
            · intro w'
              go_simp
              with_reducible rfl
            rotate_left
            · simp only [Act.put, List.setIfInBounds_toArray, List.set_cons_zero, List.set_cons_succ, i64_w, i32_w]
              rfl
            refine pure_ (i := 7) (N := some 41) (v := ?_) (a' := ?_) #[true, true, true, true, true, true, true, true, false, false, false, false, false] rfl rfl (by kernel_rfl) (fun _ _ _ h => h) (Or.inl ⟨by rfl, ?_⟩) ?_ ?_
            rotate_left
            · intro w'
              go_simp
              with_reducible rfl
            rotate_left
            · simp only [Act.put, List.setIfInBounds_toArray, List.set_cons_zero, List.set_cons_succ, i64_w, i32_w]
              rfl
            refine pure_ (i := 8) (N := some 42) (v := ?_) (a' := ?_) #[true, true, true, true, true, true, true, true, true, false, false, false, false] rfl rfl (by kernel_rfl) (fun _ _ _ h => h) (Or.inl ⟨by rfl, ?_⟩) ?_ ?_
            rotate_left
            · intro w'
              go_simp
              with_reducible rfl
            rotate_left
            · simp only [Act.put, List.setIfInBounds_toArray, List.set_cons_zero, List.set_cons_succ, i64_w, i32_w]
              rfl
            refine take_ (i := 9) (N := some 43) (v := ?_) (a' := ?_) #[true, true, true, true, true, true, true, true, true, true, false, false, false] rfl rfl (by kernel_rfl) (fun _ _ _ h => h) (Or.inl ⟨by rfl, ?_⟩) hHeld ?_ ?_
            rotate_left
            · rintro w' ⟨s0, s1, s2⟩
              go_simp
              with_reducible rfl
            rotate_left
            · simp only [Act.put, List.setIfInBounds_toArray, List.set_cons_zero, List.set_cons_succ, i64_w, i32_w]
              rfl
            refine take_ (i := 10) (N := some 44) (v := ?_) (a' := ?_) #[true, true, true, true, true, true, true, true, true, true, true, false, false] rfl rfl (by kernel_rfl) (fun _ _ _ h => h) (Or.inl ⟨by rfl, ?_⟩) hHeld ?_ ?_
            rotate_left
            · rintro w' ⟨s0, s1, s2⟩
              go_simp
              with_reducible rfl
            rotate_left
            · simp only [Act.put, List.setIfInBounds_toArray, List.set_cons_zero, List.set_cons_succ, i64_w, i32_w]
              rfl
            refine pure_ (i := 11) (N := some 45) (v := ?_) (a' := ?_) #[true, true, true, true, true, true, true, true, true, true, true, true, false] rfl rfl (by kernel_rfl) (fun _ _ _ h => h) (Or.inl ⟨by rfl, ?_⟩) ?_ ?_
            rotate_left
            · intro w'
              go_simp
              with_reducible rfl
            rotate_left
            · simp only [Act.put, List.setIfInBounds_toArray, List.set_cons_zero, List.set_cons_succ, i64_w, i32_w]
              rfl
            refine pure_ (i := 12) (N := some 46) (v := ?_) (a' := ?_) #[true, true, true, true, true, true, true, true, true, true, true, true, true] rfl rfl (by kernel_rfl) (fun _ _ _ h => h) (Or.inl ⟨by rfl, ?_⟩) ?_ ?_
            rotate_left
            · intro w'
              go_simp
              with_reducible rfl
            rotate_left
            · simp only [Act.put, List.setIfInBounds_toArray, List.set_cons_zero, List.set_cons_succ, i64_w, i32_w]
              rfl
            refine done_ (by kernel_rfl) ?_

            have hzp := (blk_cell HBP.out 0).trans rfl
            have hz21 := HP.out.c21
            have hf21 := HP.out.fz 21
            have hw1 : IntKind.u64.wrap (s.ls + 1) = s.ls + 1 := by have := HLB.out; rw [IntKind.wrap_u64]; omega
            have hw2 : IntKind.u64.wrap (now + ev) = now + ev := by have := HNOW.out; have := HNOW0.out; have := HEV.out; rw [IntKind.wrap_u64]; omega
            go_upto_region 13 with (fail)
            (try simp only [Act.put, List.setIfInBounds_toArray, List.set_cons_zero, List.set_cons_succ])
            generalize hst : World.setCell w4 ⟨g, 21, none⟩ (.int .u64 (s.ls + 1)) = w5
            have HBP_ := Aside0.mk (hst ▸ blk_far HBP.out (fun e_ => by have := HGE2.out; have := HGL.out; simp at e_; omega) _)
            have HBN_ := Aside0.mk (hst ▸ blk_far HBN.out (fun e_ => by have := HGE3.out; have := HGL.out; simp at e_; omega) _)
            have HP_ := Aside0.mk (hst ▸ HP.out.setL (s.ls + 1))
            have HN_ := Aside0.mk (hst ▸ HN.out.set_ _ _)
            have HA_ := Aside0.mk (hst ▸ HPT.out.setA HA.out _ _)
            have HL_ := Aside0.mk (hst ▸ HPT.out.setL_ HL.out _ _)
            clear HBP HBN HP HN HA HL
            have HBP := HBP_
            have HBN := HBN_
            have HP := HP_
            have HN := HN_
            have HA := HA_
            have HL := HL_
            clear HBP_ HBN_ HP_ HN_ HA_ HL_
            have HPT_ := Aside0.mk HP.out.any
            clear HPT
            have HPT := HPT_
            clear HPT_
            have HNP := Aside0.mk (show bp ≠ g from fun e_ => by have := HGE2.out; have := HGL.out; omega)
            have HNN := Aside0.mk (show bn ≠ g from fun e_ => by have := HGE3.out; have := HGL.out; omega)
            clear hzp hz21 hf21 hst
            have HBP_ := Aside0.mk (blk_drew HBP.out)
            have HBN_ := Aside0.mk (blk_drew HBN.out)
            have HP_ := Aside0.mk (HP.out.drew)
            have HN_ := Aside0.mk (HN.out.drew1)
            have HA_ := Aside0.mk (Kd.R_drew HA.out)
            have HL_ := Aside0.mk (Kd.R_drew HL.out)
            have HPT_ := Aside0.mk (HP.out.drew.any)
            clear HBP HBN HP HN HA HL HPT
            have HBP := HBP_
            have HBN := HBN_
            have HP := HP_
            have HN := HN_
            have HA := HA_
            have HL := HL_
            have HPT := HPT_
            clear HBP_ HBN_ HP_ HN_ HA_ HL_ HPT_
            refine start_ (n := 23) (S := fun w' => w'.cell? ⟨bp, 0, none⟩ = some (.pointer (some ⟨g, 0, none⟩)) ∧ w'.cell? ⟨bn, 0, none⟩ = some (.int .u64 now) ∧ w'.cell? ⟨g, 21, none⟩ = some (.int .u64 (s.ls + 1)) ∧ w'.cell? ⟨g, 19, none⟩ = some (.int .u64 ev)) (ds := []) #[false, false, false, false, false, false, false, false, false, false, false, false, false, false, false, false, false, false, false, false, false, false, false] (by kernel_rfl) rfl rfl ⟨(blk_cell HBP.out 0).trans rfl, (blk_cell HBN.out 0).trans rfl, HP.out.c21, HP.out.c19⟩ (fun hHeld => ?_)
            generalize World.drew w5 = w6 at HBP HBN HP HN HA HL HPT hHeld ⊢
            refine pure_ (i := 0) (N := some 54) (v := ?_) (a' := ?_) #[true, false, false, false, false, false, false, false, false, false, false, false, false, false, false, false, false, false, false, false, false, false, false] rfl rfl (by kernel_rfl) (fun _ _ _ h => h) (Or.inl ⟨by rfl, ?_⟩) ?_ ?_
            rotate_left
            · intro w'
              go_simp
              with_reducible rfl
            rotate_left
            · simp only [Act.put, List.setIfInBounds_toArray, List.set_cons_zero, List.set_cons_succ, i64_w, i32_w]
              rfl
            refine pure_ (i := 1) (N := some 55) (v := ?_) (a' := ?_) #[true, true, false, false, false, false, false, false, false, false, false, false, false, false, false, false, false, false, false, false, false, false, false] rfl rfl (by kernel_rfl) (fun _ _ _ h => h) (Or.inl ⟨by rfl, ?_⟩) ?_ ?_
            rotate_left
            · intro w'
              go_simp
              with_reducible rfl
            rotate_left
            · simp only [Act.put, List.setIfInBounds_toArray, List.set_cons_zero, List.set_cons_succ, i64_w, i32_w]
              rfl
            refine pure_ (i := 2) (N := some 56) (v := ?_) (a' := ?_) #[true, true, true, false, false, false, false, false, false, false, false, false, false, false, false, false, false, false, false, false, false, false, false] rfl rfl (by kernel_rfl) (fun _ _ _ h => h) (Or.inl ⟨by rfl, ?_⟩) ?_ ?_
            rotate_left
            · intro w'
              go_simp
              with_reducible rfl
            rotate_left
            · simp only [Act.put, List.setIfInBounds_toArray, List.set_cons_zero, List.set_cons_succ, i64_w, i32_w]
              rfl
            refine take_ (i := 3) (N := some 57) (v := ?_) (a' := ?_) #[true, true, true, true, false, false, false, false, false, false, false, false, false, false, false, false, false, false, false, false, false, false, false] rfl rfl (by kernel_rfl) (fun _ _ _ h => h) (Or.inl ⟨by rfl, ?_⟩) hHeld ?_ ?_
            rotate_left
            · rintro w' ⟨s0, s1, s2, s3⟩
              go_simp
              with_reducible rfl
            rotate_left
            · simp only [Act.put, List.setIfInBounds_toArray, List.set_cons_zero, List.set_cons_succ, i64_w, i32_w]
              rfl
            refine pure_ (i := 4) (N := some 58) (v := ?_) (a' := ?_) #[true, true, true, true, true, false, false, false, false, false, false, false, false, false, false, false, false, false, false, false, false, false, false] rfl rfl (by kernel_rfl) (fun _ _ _ h => h) (Or.inl ⟨by rfl, ?_⟩) ?_ ?_
            rotate_left
            · intro w'
              go_simp
              with_reducible rfl
            rotate_left
            · simp only [Act.put, List.setIfInBounds_toArray, List.set_cons_zero, List.set_cons_succ, i64_w, i32_w]
              rfl
            refine pure_ (i := 5) (N := some 59) (v := ?_) (a' := ?_) #[true, true, true, true, true, true, false, false, false, false, false, false, false, false, false, false, false, false, false, false, false, false, false] rfl rfl (by kernel_rfl) (fun _ _ _ h => h) (Or.inl ⟨by rfl, ?_⟩) ?_ ?_
            rotate_left
            · intro w'
              go_simp
              with_reducible rfl
            rotate_left
            · simp only [Act.put, List.setIfInBounds_toArray, List.set_cons_zero, List.set_cons_succ, i64_w, i32_w]
              rfl
            refine take_ (i := 6) (N := some 60) (v := ?_) (a' := ?_) #[true, true, true, true, true, true, true, false, false, false, false, false, false, false, false, false, false, false, false, false, false, false, false] rfl rfl (by kernel_rfl) (fun _ _ _ h => h) (Or.inl ⟨by rfl, ?_⟩) hHeld ?_ ?_
            rotate_left
            · rintro w' ⟨s0, s1, s2, s3⟩
              go_simp
              with_reducible rfl
            rotate_left
            · simp only [Act.put, List.setIfInBounds_toArray, List.set_cons_zero, List.set_cons_succ, i64_w, i32_w]
              rfl
            refine take_ (i := 7) (N := some 61) (v := ?_) (a' := ?_) #[true, true, true, true, true, true, true, true, false, false, false, false, false, false, false, false, false, false, false, false, false, false, false] rfl rfl (by kernel_rfl) (fun _ _ _ h => h) (Or.inl ⟨by rfl, ?_⟩) hHeld ?_ ?_
            rotate_left
            · rintro w' ⟨s0, s1, s2, s3⟩
              go_simp
              with_reducible rfl
            rotate_left
            · simp only [Act.put, List.setIfInBounds_toArray, List.set_cons_zero, List.set_cons_succ, i64_w, i32_w]
              rfl
            refine take_ (i := 8) (N := some 62) (v := ?_) (a' := ?_) #[true, true, true, true, true, true, true, true, true, false, false, false, false, false, false, false, false, false, false, false, false, false, false] rfl rfl (by kernel_rfl) (fun _ _ _ h => h) (Or.inl ⟨by rfl, ?_⟩) hHeld ?_ ?_
            rotate_left
            · rintro w' ⟨s0, s1, s2, s3⟩
              go_simp
              with_reducible rfl
            rotate_left
            · simp only [Act.put, List.setIfInBounds_toArray, List.set_cons_zero, List.set_cons_succ, i64_w, i32_w]
              rfl
            refine take_ (i := 9) (N := some 63) (v := ?_) (a' := ?_) #[true, true, true, true, true, true, true, true, true, true, false, false, false, false, false, false, false, false, false, false, false, false, false] rfl rfl (by kernel_rfl) (fun _ _ _ h => h) (Or.inl ⟨by rfl, ?_⟩) hHeld ?_ ?_
            rotate_left
            · rintro w' ⟨s0, s1, s2, s3⟩
              go_simp
              with_reducible rfl
            rotate_left
            · simp only [Act.put, List.setIfInBounds_toArray, List.set_cons_zero, List.set_cons_succ, i64_w, i32_w]
              rfl
            refine pure_ (i := 10) (N := some 64) (v := ?_) (a' := ?_) #[true, true, true, true, true, true, true, true, true, true, true, false, false, false, false, false, false, false, false, false, false, false, false] rfl rfl (by kernel_rfl) (fun _ _ _ h => h) (Or.inl ⟨by rfl, ?_⟩) ?_ ?_
            rotate_left
            · intro w'
              go_simp
              with_reducible rfl
            rotate_left
            · simp only [Act.put, List.setIfInBounds_toArray, List.set_cons_zero, List.set_cons_succ, i64_w, i32_w]
              rfl
            refine pure_ (i := 11) (N := some 65) (v := ?_) (a' := ?_) #[true, true, true, true, true, true, true, true, true, true, true, true, false, false, false, false, false, false, false, false, false, false, false] rfl rfl (by kernel_rfl) (fun _ _ _ h => h) (Or.inl ⟨by rfl, ?_⟩) ?_ ?_
            rotate_left
            · intro w'
              go_simp
              with_reducible rfl
            rotate_left
            · simp only [Act.put, List.setIfInBounds_toArray, List.set_cons_zero, List.set_cons_succ, i64_w, i32_w]
              rfl
            refine take_ (i := 12) (N := some 66) (v := ?_) (a' := ?_) #[true, true, true, true, true, true, true, true, true, true, true, true, true, false, false, false, false, false, false, false, false, false, false] rfl rfl (by kernel_rfl) (fun _ _ _ h => h) (Or.inl ⟨by rfl, ?_⟩) hHeld ?_ ?_
            rotate_left
            · rintro w' ⟨s0, s1, s2, s3⟩
              go_simp
              with_reducible rfl
            rotate_left
            · simp only [Act.put, List.setIfInBounds_toArray, List.set_cons_zero, List.set_cons_succ, i64_w, i32_w]
              rfl
            refine pure_ (i := 13) (N := some 67) (v := ?_) (a' := ?_) #[true, true, true, true, true, true, true, true, true, true, true, true, true, true, false, false, false, false, false, false, false, false, false] rfl rfl (by kernel_rfl) (fun _ _ _ h => h) (Or.inl ⟨by rfl, ?_⟩) ?_ ?_
            rotate_left
            · intro w'
              go_simp
              with_reducible rfl
            rotate_left
            · simp only [Act.put, List.setIfInBounds_toArray, List.set_cons_zero, List.set_cons_succ, i64_w, i32_w]
              rfl
            refine pure_ (i := 14) (N := some 68) (v := ?_) (a' := ?_) #[true, true, true, true, true, true, true, true, true, true, true, true, true, true, true, false, false, false, false, false, false, false, false] rfl rfl (by kernel_rfl) (fun _ _ _ h => h) (Or.inl ⟨by rfl, ?_⟩) ?_ ?_
            rotate_left
            · intro w'
              go_simp
              with_reducible rfl
            rotate_left
            · simp only [Act.put, List.setIfInBounds_toArray, List.set_cons_zero, List.set_cons_succ, i64_w, i32_w]
              rfl
            refine pure_ (i := 15) (N := some 69) (v := ?_) (a' := ?_) #[true, true, true, true, true, true, true, true, true, true, true, true, true, true, true, true, false, false, false, false, false, false, false] rfl rfl (by kernel_rfl) (fun _ _ _ h => h) (Or.inl ⟨by rfl, ?_⟩) ?_ ?_
            rotate_left
            · intro w'
              go_simp
              with_reducible rfl
            rotate_left
            · simp only [Act.put, List.setIfInBounds_toArray, List.set_cons_zero, List.set_cons_succ, i64_w, i32_w]
              rfl
            refine one_ (i := 16) (N := none) #[true, true, true, true, true, true, true, true, true, true, true, true, true, true, true, true, true, false, false, false, false, false, false] rfl rfl (by kernel_rfl) (by decide) (fun K hK => ?_)
            have hy1 := HP.out.cD hj1
            have hf1 := HP.out.fz (i * 3 + 1)
            refine skip_ (w1 := ?_) (by rfl) rfl ?_ ?_
            rotate_left
            · go_simp
              rfl
            generalize hst : World.setCell w6 ⟨g, i * 3 + 1, none⟩ (.int .u64 (s.ls + 1)) = w7 at ⊢
            have HBP_ := Aside0.mk (hst ▸ blk_far HBP.out HNP.out _)
            have HBN_ := Aside0.mk (hst ▸ blk_far HBN.out HNN.out _)
            have HP_ := Aside0.mk (hst ▸ HP.out.setD _ hj1 (s.ls + 1))
            have HN_ := Aside0.mk (hst ▸ HN.out.set_ _ _)
            have HA_ := Aside0.mk (hst ▸ HPT.out.setA HA.out _ _)
            have HL_ := Aside0.mk (hst ▸ HPT.out.setL_ HL.out _ _)
            clear HBP HBN HP HN HA HL
            have HBP := HBP_
            have HBN := HBN_
            have HP := HP_
            have HN := HN_
            have HA := HA_
            have HL := HL_
            clear HBP_ HBN_ HP_ HN_ HA_ HL_
            have HPT_ := Aside0.mk HP.out.any
            clear HPT hst
            have HPT := HPT_
            clear HPT_
            have hy2 := HP.out.cD hj2
            have hf2 := HP.out.fz (i * 3 + 2)
            refine hK.out _ _ ⟨(blk_cell HBP.out 0).trans rfl, (blk_cell HBN.out 0).trans rfl, HP.out.c21, HP.out.c19⟩ (fun hHeld => ?_)
            clear hK K
            refine pure_ (i := 17) (N := some 70) (v := ?_) (a' := ?_) #[true, true, true, true, true, true, true, true, true, true, true, true, true, true, true, true, true, true, false, false, false, false, false] rfl rfl (by kernel_rfl) (fun _ _ _ h => h) (Or.inl ⟨by rfl, ?_⟩) ?_ ?_
            rotate_left
            · intro w'
              go_simp
              with_reducible rfl
            rotate_left
            · simp only [Act.put, List.setIfInBounds_toArray, List.set_cons_zero, List.set_cons_succ, i64_w, i32_w]
              rfl
            refine pure_ (i := 18) (N := some 71) (v := ?_) (a' := ?_) #[true, true, true, true, true, true, true, true, true, true, true, true, true, true, true, true, true, true, true, false, false, false, false] rfl rfl (by kernel_rfl) (fun _ _ _ h => h) (Or.inl ⟨by rfl, ?_⟩) ?_ ?_
            rotate_left
            · intro w'
              go_simp
              with_reducible rfl
            rotate_left
            · simp only [Act.put, List.setIfInBounds_toArray, List.set_cons_zero, List.set_cons_succ, i64_w, i32_w]
              rfl
            refine one_ (i := 19) (N := none) #[true, true, true, true, true, true, true, true, true, true, true, true, true, true, true, true, true, true, true, true, false, false, false] rfl rfl (by kernel_rfl) (by decide) (fun K hK => ?_)
            refine skip_ (w1 := ?_) (by rfl) rfl ?_ ?_
            rotate_left
            · go_simp
              rfl
            generalize hst : World.setCell w7 ⟨g, i * 3 + 2, none⟩ (.int .u64 (now)) = w8 at ⊢
            have HBP_ := Aside0.mk (hst ▸ blk_far HBP.out HNP.out _)
            have HBN_ := Aside0.mk (hst ▸ blk_far HBN.out HNN.out _)
            have HP_ := Aside0.mk (hst ▸ HP.out.setD _ hj2 (now))
            have HN_ := Aside0.mk (hst ▸ HN.out.set_ _ _)
            have HA_ := Aside0.mk (hst ▸ HPT.out.setA HA.out _ _)
            have HL_ := Aside0.mk (hst ▸ HPT.out.setL_ HL.out _ _)
            clear HBP HBN HP HN HA HL
            have HBP := HBP_
            have HBN := HBN_
            have HP := HP_
            have HN := HN_
            have HA := HA_
            have HL := HL_
            clear HBP_ HBN_ HP_ HN_ HA_ HL_
            have HPT_ := Aside0.mk HP.out.any
            clear HPT hst
            have HPT := HPT_
            clear HPT_
            have hy0 := HP.out.cD hj0
            have hf0 := HP.out.fz (i * 3)
            refine hK.out _ _ ⟨(blk_cell HBP.out 0).trans rfl, (blk_cell HBN.out 0).trans rfl, HP.out.c21, HP.out.c19⟩ (fun hHeld => ?_)
            clear hK K
            refine pure_ (i := 20) (N := some 72) (v := ?_) (a' := ?_) #[true, true, true, true, true, true, true, true, true, true, true, true, true, true, true, true, true, true, true, true, true, false, false] rfl rfl (by kernel_rfl) (fun _ _ _ h => h) (Or.inl ⟨by rfl, ?_⟩) ?_ ?_
            rotate_left
            · intro w'
              go_simp
              with_reducible rfl
            rotate_left
            · simp only [Act.put, List.setIfInBounds_toArray, List.set_cons_zero, List.set_cons_succ, i64_w, i32_w]
              rfl
            refine pure_ (i := 21) (N := some 73) (v := ?_) (a' := ?_) #[true, true, true, true, true, true, true, true, true, true, true, true, true, true, true, true, true, true, true, true, true, true, false] rfl rfl (by kernel_rfl) (fun _ _ _ h => h) (Or.inl ⟨by rfl, ?_⟩) ?_ ?_
            rotate_left
            · intro w'
              go_simp
              with_reducible rfl
            rotate_left
            · simp only [Act.put, List.setIfInBounds_toArray, List.set_cons_zero, List.set_cons_succ, i64_w, i32_w]
              rfl
            refine one_ (i := 22) (N := none) #[true, true, true, true, true, true, true, true, true, true, true, true, true, true, true, true, true, true, true, true, true, true, true] rfl rfl (by kernel_rfl) (by decide) (fun K hK => ?_)
            refine skip_ (w1 := ?_) (by rfl) rfl ?_ ?_
            rotate_left
            · go_simp
              rfl
            generalize hst : World.setCell w8 ⟨g, i * 3, none⟩ (.int .u64 (now + ev)) = w9 at ⊢
            have HBP_ := Aside0.mk (hst ▸ blk_far HBP.out HNP.out _)
            have HBN_ := Aside0.mk (hst ▸ blk_far HBN.out HNN.out _)
            have HP_ := Aside0.mk (hst ▸ HP.out.setD _ hj0 (now + ev))
            have HN_ := Aside0.mk (hst ▸ HN.out.set_ _ _)
            have HA_ := Aside0.mk (hst ▸ HPT.out.setA HA.out _ _)
            have HL_ := Aside0.mk (hst ▸ HPT.out.setL_ HL.out _ _)
            clear HBP HBN HP HN HA HL
            have HBP := HBP_
            have HBN := HBN_
            have HP := HP_
            have HN := HN_
            have HA := HA_
            have HL := HL_
            clear HBP_ HBN_ HP_ HN_ HA_ HL_
            have HPT_ := Aside0.mk HP.out.any
            clear HPT hst
            have HPT := HPT_
            clear HPT_
            refine hK.out _ _ ⟨(blk_cell HBP.out 0).trans rfl, (blk_cell HBN.out 0).trans rfl, HP.out.c21, HP.out.c19⟩ (fun hHeld => ?_)
            clear hK K
            refine done_ (by kernel_rfl) ?_

            obtain ⟨A6, c6, rfl⟩ := Kd.R_slice HA.out
            have hzp := (blk_cell HBP.out 0).trans rfl
            have hz21 := HP.out.c21
            go_wp2_with (first | ((with_reducible refine gate_builtin (b := .append) (xs := #[.tmp 74, .tmp 81]) rfl ?_); at_builtin; refine Kd.R_append kA (w0 := w9) w.heap.size rfl (.tmp 74) (.tmp 81) 57 74 (.agg #[.int .i64 0, .int .u64 0]) 16 rfl Try.underlying57 info74 rfl (by decide) (by omega) _ s.asks ((i : Int), s.ls + 1) [.int .i64 (i : Int), .int .u64 (s.ls + 1)] (fun _ => True) (fun _ => False) rfl rfl ?aP (fun _ hk => hk.elim) ?aF ?aO ?aB ?aS ?aL ?_; (case aP => exact ⟨[_], [_], rfl, rfl, rfl⟩); (case aF => exact (fun _ _ => trivial)); (case aO => exact HA.out); (case aB => exact Below.refl _ _); (case aS => exact HN.out.size_); (case aL => have := HAL.out; omega); intro v1 w10 ho hb hg hat; have HT := Aside0.mk (Kd.R_typed HA.out); have HBP_ := Aside0.mk ((hg.block bp (blk_lt HBP.out) (fun e_ => by obtain ⟨_, h_⟩ := HT.out bp e_.symm; rw [HBP.out] at h_; injection h_ with h_; injection h_ with _ h_; exact absurd h_ (by decide))).trans HBP.out); have HBN_ := Aside0.mk ((hg.block bn (blk_lt HBN.out) (fun e_ => by obtain ⟨_, h_⟩ := HT.out bn e_.symm; rw [HBN.out] at h_; injection h_ with h_; injection h_ with _ h_; exact absurd h_ (by decide))).trans HBN.out); have HP_ := Aside0.mk (HP.out.grown hg (HPT.out.ne_ HT.out (by decide))); have HN_ := Aside0.mk (HN.out.grown hg (fun k hk => Kd.R_base HA.out k hk) HGL.out); have HL_ := Aside0.mk (Kd.R_over' HL.out HT.out (by decide) hg); have HA_ := Aside0.mk (ho); clear HBP HBN HP HN HL HA; have HBP := HBP_; have HBN := HBN_; have HP := HP_; have HN := HN_; have HL := HL_; have HA := HA_; clear HBP_ HBN_ HP_ HN_ HL_ HA_; clear ho hb hg hat HT))
            go_roundg gk
            case measure => omega
            case rel => exact ⟨i + 1, congrArg (Value.int .i64) (by omega), ⟨by have := HK.out; omega⟩, ⟨by omega⟩, ⟨by rw [HTS.out, HTT.out]; exact HA.out⟩, ⟨by rw [HTS.out, HTT.out]; exact HL.out⟩, ⟨by rw [HTS.out, HTT.out]; exact HP.out⟩, HBP, HBN, HN⟩
          · have b1 : decide (nd D1 (i * 3) ≤ now) = false := decide_eq_false cd
            have HTT := Aside0.mk (show tstep now ev la s i = ⟨D1, s.ls, s.asks, L1⟩ by unfold tstep; rw [if_neg (by rw [← hDa, b0, b1]; decide), HD1.out, HL1.out])
            clear cd hDa
            go_upto_region 11 with (fail)
            have HBP_ := Aside0.mk (blk_drew HBP.out)
            have HBN_ := Aside0.mk (blk_drew HBN.out)
            have HP_ := Aside0.mk (HP.out.drew)
            have HN_ := Aside0.mk (HN.out.drew1)
            have HA_ := Aside0.mk (Kd.R_drew HA.out)
            have HL_ := Aside0.mk (Kd.R_drew HL.out)
            have HPT_ := Aside0.mk (HP.out.drew.any)
            clear HBP HBN HP HN HA HL HPT
            have HBP := HBP_
            have HBN := HBN_
            have HP := HP_
            have HN := HN_
            have HA := HA_
            have HL := HL_
            have HPT := HPT_
            clear HBP_ HBN_ HP_ HN_ HA_ HL_ HPT_
            refine start_ (n := 13) (S := fun w' => w'.cell? ⟨g, i * 3 + 1, none⟩ = some (.int .u64 (nd D1 (i * 3 + 1))) ∧ w'.cell? ⟨g, i * 3, none⟩ = some (.int .u64 (nd D1 (i * 3))) ∧ w'.cell? ⟨bn, 0, none⟩ = some (.int .u64 now)) (ds := []) #[false, false, false, false, false, false, false, false, false, false, false, false, false] (by kernel_rfl) rfl rfl ⟨HP.out.cD hj1, HP.out.cD hj0, (blk_cell HBN.out 0).trans rfl⟩ (fun hHeld => ?_)
            generalize World.drew wc = w4 at HBP HBN HP HN HA HL HPT hHeld ⊢
            refine pure_ (i := 0) (N := some 34) (v := ?_) (a' := ?_) #[true, false, false, false, false, false, false, false, false, false, false, false, false] rfl rfl (by kernel_rfl) (fun _ _ _ h => h) (Or.inl ⟨by rfl, ?_⟩) ?_ ?_
            rotate_left
            · intro w'
              go_simp
              with_reducible rfl
            rotate_left
            · simp only [Act.put, List.setIfInBounds_toArray, List.set_cons_zero, List.set_cons_succ, i64_w, i32_w]
              rfl
            refine pure_ (i := 1) (N := some 35) (v := ?_) (a' := ?_) #[true, true, false, false, false, false, false, false, false, false, false, false, false] rfl rfl (by kernel_rfl) (fun _ _ _ h => h) (Or.inl ⟨by rfl, ?_⟩) ?_ ?_
            rotate_left
            · intro w'
              go_simp
              with_reducible rfl
            rotate_left
            · simp only [Act.put, List.setIfInBounds_toArray, List.set_cons_zero, List.set_cons_succ, i64_w, i32_w]
              rfl
            refine pure_ (i := 2) (N := some 36) (v := ?_) (a' := ?_) #[true, true, true, false, false, false, false, false, false, false, false, false, false] rfl rfl (by kernel_rfl) (fun _ _ _ h => h) (Or.inl ⟨by rfl, ?_⟩) ?_ ?_
            rotate_left
            · intro w'
              go_simp
              with_reducible rfl
            rotate_left
            · simp only [Act.put, List.setIfInBounds_toArray, List.set_cons_zero, List.set_cons_succ, i64_w, i32_w]
              rfl
            refine take_ (i := 3) (N := some 37) (v := ?_) (a' := ?_) #[true, true, true, true, false, false, false, false, false, false, false, false, false] rfl rfl (by kernel_rfl) (fun _ _ _ h => h) (Or.inl ⟨by rfl, ?_⟩) hHeld ?_ ?_
            rotate_left
            · rintro w' ⟨s0, s1, s2⟩
              go_simp
              with_reducible rfl
            rotate_left
            · simp only [Act.put, List.setIfInBounds_toArray, List.set_cons_zero, List.set_cons_succ, i64_w, i32_w]
              rfl
            refine pure_ (i := 4) (N := some 38) (v := ?_) (a' := ?_) #[true, true, true, true, true, false, false, false, false, false, false, false, false] rfl rfl (by kernel_rfl) (fun _ _ _ h => h) (Or.inl ⟨by rfl, ?_⟩) ?_ ?_
            rotate_left
            · intro w'
              go_simp
              with_reducible rfl
            rotate_left
            · simp only [Act.put, List.setIfInBounds_toArray, List.set_cons_zero, List.set_cons_succ, i64_w, i32_w]
              rfl
            refine pure_ (i := 5) (N := some 39) (v := ?_) (a' := ?_) #[true, true, true, true, true, true, false, false, false, false, false, false, false] rfl rfl (by kernel_rfl) (fun _ _ _ h => h) (Or.inl ⟨by rfl, ?_⟩) ?_ ?_
            rotate_left
            · intro w'
              go_simp
              with_reducible rfl
            rotate_left
            · simp only [Act.put, List.setIfInBounds_toArray, List.set_cons_zero, List.set_cons_succ, i64_w, i32_w]
              rfl
            refine pure_ (i := 6) (N := some 40) (v := ?_) (a' := ?_) #[true, true, true, true, true, true, true, false, false, false, false, false, false] rfl rfl (by kernel_rfl) (fun _ _ _ h => h) (Or.inl ⟨by rfl, ?_⟩) ?_ ?_
            rotate_left
            · intro w'
              go_simp
              with_reducible rfl
            rotate_left
            · simp only [Act.put, List.setIfInBounds_toArray, List.set_cons_zero, List.set_cons_succ, i64_w, i32_w]
              rfl
            refine pure_ (i := 7) (N := some 41) (v := ?_) (a' := ?_) #[true, true, true, true, true, true, true, true, false, false, false, false, false] rfl rfl (by kernel_rfl) (fun _ _ _ h => h) (Or.inl ⟨by rfl, ?_⟩) ?_ ?_
            rotate_left
            · intro w'
              go_simp
              with_reducible rfl
            rotate_left
            · simp only [Act.put, List.setIfInBounds_toArray, List.set_cons_zero, List.set_cons_succ, i64_w, i32_w]
              rfl
            refine pure_ (i := 8) (N := some 42) (v := ?_) (a' := ?_) #[true, true, true, true, true, true, true, true, true, false, false, false, false] rfl rfl (by kernel_rfl) (fun _ _ _ h => h) (Or.inl ⟨by rfl, ?_⟩) ?_ ?_
            rotate_left
            · intro w'
              go_simp
              with_reducible rfl
            rotate_left
            · simp only [Act.put, List.setIfInBounds_toArray, List.set_cons_zero, List.set_cons_succ, i64_w, i32_w]
              rfl
            refine take_ (i := 9) (N := some 43) (v := ?_) (a' := ?_) #[true, true, true, true, true, true, true, true, true, true, false, false, false] rfl rfl (by kernel_rfl) (fun _ _ _ h => h) (Or.inl ⟨by rfl, ?_⟩) hHeld ?_ ?_
            rotate_left
            · rintro w' ⟨s0, s1, s2⟩
              go_simp
              with_reducible rfl
            rotate_left
            · simp only [Act.put, List.setIfInBounds_toArray, List.set_cons_zero, List.set_cons_succ, i64_w, i32_w]
              rfl
            refine take_ (i := 10) (N := some 44) (v := ?_) (a' := ?_) #[true, true, true, true, true, true, true, true, true, true, true, false, false] rfl rfl (by kernel_rfl) (fun _ _ _ h => h) (Or.inl ⟨by rfl, ?_⟩) hHeld ?_ ?_
            rotate_left
            · rintro w' ⟨s0, s1, s2⟩
              go_simp
              with_reducible rfl
            rotate_left
            · simp only [Act.put, List.setIfInBounds_toArray, List.set_cons_zero, List.set_cons_succ, i64_w, i32_w]
              rfl
            refine pure_ (i := 11) (N := some 45) (v := ?_) (a' := ?_) #[true, true, true, true, true, true, true, true, true, true, true, true, false] rfl rfl (by kernel_rfl) (fun _ _ _ h => h) (Or.inl ⟨by rfl, ?_⟩) ?_ ?_
            rotate_left
            · intro w'
              go_simp
              with_reducible rfl
            rotate_left
            · simp only [Act.put, List.setIfInBounds_toArray, List.set_cons_zero, List.set_cons_succ, i64_w, i32_w]
              rfl
            refine pure_ (i := 12) (N := some 46) (v := ?_) (a' := ?_) #[true, true, true, true, true, true, true, true, true, true, true, true, true] rfl rfl (by kernel_rfl) (fun _ _ _ h => h) (Or.inl ⟨by rfl, ?_⟩) ?_ ?_
            rotate_left
            · intro w'
              go_simp
              with_reducible rfl
            rotate_left
            · simp only [Act.put, List.setIfInBounds_toArray, List.set_cons_zero, List.set_cons_succ, i64_w, i32_w]
              rfl
            refine done_ (by kernel_rfl) ?_

            go_wp2
            go_roundg gk
            case measure => omega
            case rel => exact ⟨i + 1, congrArg (Value.int .i64) (by omega), ⟨by have := HK.out; omega⟩, ⟨by omega⟩, ⟨by rw [HTS.out, HTT.out]; exact HA.out⟩, ⟨by rw [HTS.out, HTT.out]; exact HL.out⟩, ⟨by rw [HTS.out, HTT.out]; exact HP.out⟩, HBP, HBN, HN⟩
        · have b0 : (nd D1 (i * 3 + 1) == 0) = false := beq_eq_false_iff_ne.mpr co
          have HTT := Aside0.mk (show tstep now ev la s i = ⟨D1, s.ls, s.asks, L1⟩ by unfold tstep; rw [if_neg (by rw [← hDa, b0]; simp), HD1.out, HL1.out])
          clear co hDa
          go_upto_region 11 with (fail)
          have HBP_ := Aside0.mk (blk_drew HBP.out)
          have HBN_ := Aside0.mk (blk_drew HBN.out)
          have HP_ := Aside0.mk (HP.out.drew)
          have HN_ := Aside0.mk (HN.out.drew1)
          have HA_ := Aside0.mk (Kd.R_drew HA.out)
          have HL_ := Aside0.mk (Kd.R_drew HL.out)
          have HPT_ := Aside0.mk (HP.out.drew.any)
          clear HBP HBN HP HN HA HL HPT
          have HBP := HBP_
          have HBN := HBN_
          have HP := HP_
          have HN := HN_
          have HA := HA_
          have HL := HL_
          have HPT := HPT_
          clear HBP_ HBN_ HP_ HN_ HA_ HL_ HPT_
          refine start_ (n := 13) (S := fun w' => w'.cell? ⟨g, i * 3 + 1, none⟩ = some (.int .u64 (nd D1 (i * 3 + 1))) ∧ w'.cell? ⟨g, i * 3, none⟩ = some (.int .u64 (nd D1 (i * 3))) ∧ w'.cell? ⟨bn, 0, none⟩ = some (.int .u64 now)) (ds := []) #[false, false, false, false, false, false, false, false, false, false, false, false, false] (by kernel_rfl) rfl rfl ⟨HP.out.cD hj1, HP.out.cD hj0, (blk_cell HBN.out 0).trans rfl⟩ (fun hHeld => ?_)
          generalize World.drew wc = w4 at HBP HBN HP HN HA HL HPT hHeld ⊢
          refine pure_ (i := 0) (N := some 34) (v := ?_) (a' := ?_) #[true, false, false, false, false, false, false, false, false, false, false, false, false] rfl rfl (by kernel_rfl) (fun _ _ _ h => h) (Or.inl ⟨by rfl, ?_⟩) ?_ ?_
          rotate_left
          · intro w'
            go_simp
            with_reducible rfl
          rotate_left
          · simp only [Act.put, List.setIfInBounds_toArray, List.set_cons_zero, List.set_cons_succ, i64_w, i32_w]
            rfl
          refine pure_ (i := 1) (N := some 35) (v := ?_) (a' := ?_) #[true, true, false, false, false, false, false, false, false, false, false, false, false] rfl rfl (by kernel_rfl) (fun _ _ _ h => h) (Or.inl ⟨by rfl, ?_⟩) ?_ ?_
          rotate_left
          · intro w'
            go_simp
            with_reducible rfl
          rotate_left
          · simp only [Act.put, List.setIfInBounds_toArray, List.set_cons_zero, List.set_cons_succ, i64_w, i32_w]
            rfl
          refine pure_ (i := 2) (N := some 36) (v := ?_) (a' := ?_) #[true, true, true, false, false, false, false, false, false, false, false, false, false] rfl rfl (by kernel_rfl) (fun _ _ _ h => h) (Or.inl ⟨by rfl, ?_⟩) ?_ ?_
          rotate_left
          · intro w'
            go_simp
            with_reducible rfl
          rotate_left
          · simp only [Act.put, List.setIfInBounds_toArray, List.set_cons_zero, List.set_cons_succ, i64_w, i32_w]
            rfl
          refine take_ (i := 3) (N := some 37) (v := ?_) (a' := ?_) #[true, true, true, true, false, false, false, false, false, false, false, false, false] rfl rfl (by kernel_rfl) (fun _ _ _ h => h) (Or.inl ⟨by rfl, ?_⟩) hHeld ?_ ?_
          rotate_left
          · rintro w' ⟨s0, s1, s2⟩
            go_simp
            with_reducible rfl
          rotate_left
          · simp only [Act.put, List.setIfInBounds_toArray, List.set_cons_zero, List.set_cons_succ, i64_w, i32_w]
            rfl
          refine pure_ (i := 4) (N := some 38) (v := ?_) (a' := ?_) #[true, true, true, true, true, false, false, false, false, false, false, false, false] rfl rfl (by kernel_rfl) (fun _ _ _ h => h) (Or.inl ⟨by rfl, ?_⟩) ?_ ?_
          rotate_left
          · intro w'
            go_simp
            with_reducible rfl
          rotate_left
          · simp only [Act.put, List.setIfInBounds_toArray, List.set_cons_zero, List.set_cons_succ, i64_w, i32_w]
            rfl
          refine pure_ (i := 5) (N := some 39) (v := ?_) (a' := ?_) #[true, true, true, true, true, true, false, false, false, false, false, false, false] rfl rfl (by kernel_rfl) (fun _ _ _ h => h) (Or.inl ⟨by rfl, ?_⟩) ?_ ?_
          rotate_left
          · intro w'
            go_simp
            with_reducible rfl
          rotate_left
          · simp only [Act.put, List.setIfInBounds_toArray, List.set_cons_zero, List.set_cons_succ, i64_w, i32_w]
            rfl
          refine pure_ (i := 6) (N := some 40) (v := undef) (a' := ?_) #[true, true, true, true, true, true, true, false, false, false, false, false, false] rfl rfl (by kernel_rfl) (fun _ _ _ h => h) (Or.inr ⟨by rfl, rfl⟩) ?_ ?_
          rotate_left
          · simp only [Act.put, List.setIfInBounds_toArray, List.set_cons_zero, List.set_cons_succ, i64_w, i32_w]
            rfl
          refine pure_ (i := 7) (N := some 41) (v := undef) (a' := ?_) #[true, true, true, true, true, true, true, true, false, false, false, false, false] rfl rfl (by kernel_rfl) (fun _ _ _ h => h) (Or.inr ⟨by rfl, rfl⟩) ?_ ?_
          rotate_left
          · simp only [Act.put, List.setIfInBounds_toArray, List.set_cons_zero, List.set_cons_succ, i64_w, i32_w]
            rfl
          refine pure_ (i := 8) (N := some 42) (v := undef) (a' := ?_) #[true, true, true, true, true, true, true, true, true, false, false, false, false] rfl rfl (by kernel_rfl) (fun _ _ _ h => h) (Or.inr ⟨by rfl, rfl⟩) ?_ ?_
          rotate_left
          · simp only [Act.put, List.setIfInBounds_toArray, List.set_cons_zero, List.set_cons_succ, i64_w, i32_w]
            rfl
          refine pure_ (i := 9) (N := some 43) (v := undef) (a' := ?_) #[true, true, true, true, true, true, true, true, true, true, false, false, false] rfl rfl (by kernel_rfl) (fun _ _ _ h => h) (Or.inr ⟨by rfl, rfl⟩) ?_ ?_
          rotate_left
          · simp only [Act.put, List.setIfInBounds_toArray, List.set_cons_zero, List.set_cons_succ, i64_w, i32_w]
            rfl
          refine pure_ (i := 10) (N := some 44) (v := undef) (a' := ?_) #[true, true, true, true, true, true, true, true, true, true, true, false, false] rfl rfl (by kernel_rfl) (fun _ _ _ h => h) (Or.inr ⟨by rfl, rfl⟩) ?_ ?_
          rotate_left
          · simp only [Act.put, List.setIfInBounds_toArray, List.set_cons_zero, List.set_cons_succ, i64_w, i32_w]
            rfl
          refine pure_ (i := 11) (N := some 45) (v := undef) (a' := ?_) #[true, true, true, true, true, true, true, true, true, true, true, true, false] rfl rfl (by kernel_rfl) (fun _ _ _ h => h) (Or.inr ⟨by rfl, rfl⟩) ?_ ?_
          rotate_left
          · simp only [Act.put, List.setIfInBounds_toArray, List.set_cons_zero, List.set_cons_succ, i64_w, i32_w]
            rfl
          refine pure_ (i := 12) (N := some 46) (v := ?_) (a' := ?_) #[true, true, true, true, true, true, true, true, true, true, true, true, true] rfl rfl (by kernel_rfl) (fun _ _ _ h => h) (Or.inl ⟨by rfl, ?_⟩) ?_ ?_
          rotate_left
          · intro w'
            go_simp
            with_reducible rfl
          rotate_left
          · simp only [Act.put, List.setIfInBounds_toArray, List.set_cons_zero, List.set_cons_succ, i64_w, i32_w]
            rfl
          refine done_ (by kernel_rfl) ?_

          go_wp2
          go_roundg gk
          case measure => omega
          case rel => exact ⟨i + 1, congrArg (Value.int .i64) (by omega), ⟨by have := HK.out; omega⟩, ⟨by omega⟩, ⟨by rw [HTS.out, HTT.out]; exact HA.out⟩, ⟨by rw [HTS.out, HTT.out]; exact HL.out⟩, ⟨by rw [HTS.out, HTT.out]; exact HP.out⟩, HBP, HBN, HN⟩
    · have c1 : decide ((i : Int) < (mn : Int)) = false := decide_eq_false (by omega)
      have hie : i = mn := by have := HLI.out; omega
      subst hie
      go_wp2
      go_ret2
      exact ⟨_, _, rfl, HA.out, HL.out, HP.out, HN.out⟩
end Go.Proofs.Ytagmefjpnmjcjaa.Pr
