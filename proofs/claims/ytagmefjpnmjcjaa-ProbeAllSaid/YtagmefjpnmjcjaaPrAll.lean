/- ProbeAll, walked by hand. -/
import Derived.Test.YtagmefjpnmjcjaaPrAwake
import Derived.Test.YtagmefjpnmjcjaaPrAllP
namespace Go.Proofs.Ytagmefjpnmjcjaa.Pr
open Go.RowKit Go.Proofs.YtagmefjpnmjcjaaW.PrintWords Go.Proofs.YtagmefjpnmjcjaaW.PrintLast Go.Proofs.YtagmefjpnmjcjaaW.PrintMore
open Go.Proofs.Ytagmefjpnmjcjaa.Wa (Near Near.refl Near.drewN Near.set_ Near.keep Near.bel2 info3w Near.of_below Near.then_below Near.grown Near.size_ Near.drew1 Near.far Same_same C_one)
attribute [local go_sem] max2_int min2_int max_two min_two
set_option linter.unusedVariables false
set_option linter.unusedSimpArgs false

theorem All.dlen {mn : Nat} {ev la : Int} {ans : Bool} {now ls : Int} {D : List Int} (h : All mn ev la ans now ls D) : D.length = 18 := h.1
theorem All.ls_ {mn : Nat} {ev la : Int} {ans : Bool} {now ls : Int} {D : List Int} (h : All mn ev la ans now ls D) : 0 ≤ ls ∧ ls ≤ now * 6 := ⟨h.2.2.1, h.2.2.2.1⟩
theorem All.asked {mn : Nat} {ev la : Int} {ans : Bool} {now ls : Int} {D : List Int} (h : All mn ev la ans now ls D) : ∀ j < 6, 0 ≤ nd D (j * 3 + 2) ∧ nd D (j * 3 + 2) ≤ now := fun j hj => h.2.2.2.2.1 j hj
theorem All.node {mn : Nat} {ev la : Int} {ans : Bool} {now ls : Int} {D : List Int} (h : All mn ev la ans now ls D) {j : Nat} (hj : j < mn) : Node ev la ans now D j := h.2.2.2.2.2 j hj
theorem All.lates {mn : Nat} {ev la : Int} {now ls : Int} {D : List Int} (h : All mn ev la true now ls D) (hm : mn ≤ 6) {T : TS} (hT : ticks now ev la ⟨D, ls, [], []⟩ mn = T) : T.lates.length = 0 := by
  subst hT
  rcases Nat.eq_zero_or_pos (ticks now ev la ⟨D, ls, [], []⟩ mn).lates.length with h0 | h0
  · exact h0
  · obtain ⟨i, _, h2, h3⟩ := T_lates (now := now) (ev := ev) (la := la) (ls := ls) h.dlen mn hm _ (List.getElem_mem h0)
    rw [(h.node h2).late] at h3
    cases h3
/-- What is out behind a Tick, where they answer. -/
theorem All.out_ {mn : Nat} {ev la : Int} {ans : Bool} {now ls : Int} {D : List Int} (h : All mn ev la ans now ls D) (hm : mn ≤ 6) {T : TS} (hT : ticks now ev la ⟨D, ls, [], []⟩ mn = T) {j : Nat} (hj : j < mn) :
    (askB now la D j = true → nd T.D (j * 3 + 1) ≠ 0) ∧ (ans = true → askB now la D j = false → nd T.D (j * 3 + 1) = 0) := by
  subst hT
  obtain ⟨_, _, d1⟩ := T_D (now := now) (ev := ev) (la := la) (ls := ls) h.dlen mn hm j hj
  have := h.ls_
  refine ⟨fun hb => ?_, fun ha hb => ?_⟩
  · rw [hb, if_pos rfl] at d1; omega
  · subst ha
    rw [hb, (h.node hj).late] at d1
    simp only [if_neg (show ¬ (false = true) by decide)] at d1
    rw [d1]
    have := h.node hj
    unfold Node at this
    rw [if_pos rfl] at this
    exact this.1
theorem outOf_in {D : List Int} {mn i : Nat} (h : i < mn) : outOf D mn i = nd D (i * 3 + 1) := by unfold outOf; rw [if_pos (by omega), Int.toNat_natCast]
/-- The plan behind Tick, where the first i have answered. -/
def Ans (ans : Bool) (mn i : Nat) (D2 D : List Int) : Prop := D2.length = 18 ∧ (∀ j : Nat, j < 6 → nd D2 (j * 3) = nd D (j * 3)) ∧ (∀ j : Nat, j < 6 → nd D2 (j * 3 + 2) = nd D (j * 3 + 2)) ∧ ∀ j : Nat, j < mn → nd D2 (j * 3 + 1) = if ans = true ∧ j < i then 0 else nd D (j * 3 + 1)
theorem Ans.start (ans : Bool) (mn : Nat) {D : List Int} (h : D.length = 18) : Ans ans mn 0 D D := ⟨h, fun _ _ => rfl, fun _ _ => rfl, fun j hj => by rw [if_neg (by omega)]⟩
theorem Ans.keep {ans : Bool} {mn i : Nat} {D2 D : List Int} (h : Ans ans mn i D2 D) (hi : i < mn) (hz : ans = true → nd D (i * 3 + 1) = 0) : Ans ans mn (i + 1) D2 D := by
  obtain ⟨h1, h2, h3, h4⟩ := h
  refine ⟨h1, h2, h3, fun j hj => ?_⟩
  rw [h4 j hj]
  by_cases c : ans = true ∧ j < i
  · rw [if_pos c, if_pos ⟨c.1, by omega⟩]
  · rw [if_neg c]
    by_cases c2 : ans = true ∧ j < i + 1
    · have : j = i := by
        rcases Nat.lt_or_ge j i with h | h
        · exact absurd ⟨c2.1, h⟩ c
        · have := c2.2; omega
      rw [if_pos c2, this, hz c2.1]
    · rw [if_neg c2]
theorem Ans.set {mn i : Nat} {D2 D : List Int} (h : Ans true mn i D2 D) (hi : i < mn) (hm : mn ≤ 6) : Ans true mn (i + 1) (D2.set (i * 3 + 1) 0) D := by
  obtain ⟨h1, h2, h3, h4⟩ := h
  refine ⟨by simpa using h1, fun j hj => by rw [nd_set (by omega), if_neg (by omega)]; exact h2 j hj, fun j hj => by rw [nd_set (by omega), if_neg (by omega)]; exact h3 j hj, fun j hj => ?_⟩
  rw [nd_set (by omega)]
  by_cases c : i = j
  · subst c; simp
  · rw [if_neg (by omega), h4 j hj]
    by_cases c2 : j < i
    · rw [if_pos ⟨rfl, c2⟩, if_pos ⟨rfl, by omega⟩]
    · rw [if_neg (fun h => c2 h.2), if_neg (fun h => by have := h.2; omega)]
theorem Ans.now_ {ans : Bool} {mn i : Nat} {D2 D : List Int} (h : Ans ans mn i D2 D) (hi : i < mn) : nd D2 (i * 3 + 1) = nd D (i * 3 + 1) := by rw [h.2.2.2 i hi, if_neg (by omega)]
attribute [local irreducible] IsP Near All Ans

set_option maxHeartbeats 16000000 in
set_option maxRecDepth 100000 in
theorem ProbeAll_ans (mn : Nat) (ev la : Int) (ans : Bool) (w : World) (hok : okNew mn ev la) (he20 : ev ≤ 20) (hl20 : la ≤ 20) :
    Calls Try.prog 8 #[.int .i64 mn, .int .u64 ev, .int .u64 la, .bool ans] w fun e w' => e = .returned (.bool true) ∧ Below w.heap.size w w' := by
  have HB := Aside0.mk (Below.refl w.heap.size w)
  have HM6 := Aside0.mk (show mn ≤ 6 by unfold okNew at hok; omega)
  have HEV := Aside0.mk (show 0 ≤ ev ∧ ev ≤ 1000 by unfold okNew at hok; omega)
  have HE1 := Aside0.mk (show 1 ≤ ev ∧ 1 ≤ la by unfold okNew at hok; omega)
  have b20 : decide (20 < ev) = false := decide_eq_false (by omega)
  have b21 : decide (20 < la) = false := decide_eq_false (by omega)
  clear he20 hl20
  have hwm : IntKind.u64.wrap (mn : Int) = (mn : Int) := wrap_u64_nat mn (by have := HM6.out; omega)
  cases ans with
  | true =>
    go_enter Try.func8, Try.ntmps8
    go_wp2_with (first | (go_at_call 25; with_reducible refine (awake_calls _).mono ?_; rintro e w' ⟨rfl, hb⟩; have HB_ := Aside0.mk (below_step HB.out hb); clear hb HB; have HB := HB_; clear HB_) | (go_at_call 27; with_reducible refine (New_ok mn ev la _ hok).mono ?_; rintro e w' ⟨g, rfl, hI, hg, hb⟩; have HP := Aside0.mk hI; have HG := Aside0.mk (Nat.le_trans HB.out.size hg); have HB_ := Aside0.mk (below_step HB.out hb); clear hI hg hb HB; have HB := HB_; clear HB_))
    go_loopg [37] 101 (fun kq v37 w' => ∃ (t : Nat) (ls : Int) (D : List Int), v37 = .int .u64 (t : Int) ∧ Aside0 (kq + t = 101) ∧ Aside0 (t ≤ 100) ∧ Aside0 (All mn ev la true t ls D) ∧ Aside0 (IsP w' g D mn ev la ls) ∧ Aside0 (Below w.heap.size w w'))
    case atStart => exact ⟨0, 0, newD 6, rfl, ⟨by omega⟩, ⟨by omega⟩, ⟨All.start mn ev la true HM6.out⟩, HP, HB⟩
    case round =>
      clear HP HB
      obtain ⟨t, ls, D, rfl, HK, HL, HALL, HP, HB⟩ := hrel
      obtain ⟨gk0, rfl⟩ : ∃ gk', gk = gk' + 1 := ⟨gk - 1, by have := HK.out; have := HL.out; omega⟩
      by_cases ct : t < 100
      · have cb : decide ((t : Int) < 100) = true := decide_eq_true (by omega)
        have HT1 := Aside0.mk (wrap_u64_nat (t + 1) (by omega))
        have HNB := Aside0.mk (show 0 ≤ (t : Int) ∧ (t : Int) ≤ 1000000000000 by omega)
        have HLB := Aside0.mk (show 0 ≤ ls ∧ ls ≤ 1000000000000 by have := HALL.out.ls_; omega)
        have HAS := Aside0.mk HALL.out.asked
        have HDL := Aside0.mk HALL.out.dlen
        have hT6 := ticks_asks (now := t) (ev := ev) (la := la) (s := ⟨D, ls, [], []⟩) mn
        simp only [List.length_nil] at hT6
        have hAE : aheadOf (t : Int) ev la D ls mn = (ticks t ev la ⟨D, ls, [], []⟩ mn).asks.length := rfl
        have hNX := fun D2 => HALL.out.next (D2 := D2) HM6.out HE1.out.1 HE1.out.2
        obtain ⟨T, hT⟩ : ∃ T, ticks (t : Int) ev la ⟨D, ls, [], []⟩ mn = T := ⟨_, rfl⟩
        rw [hT] at hT6 hAE
        simp only [hT] at hNX
        have HTL := Aside0.mk (show T.D.length = 18 by rw [← hT, ticks_len]; exact HDL.out)
        have HTT := Aside0.mk hT
        obtain ⟨na, hna⟩ : ∃ n, T.asks.length = n := ⟨_, rfl⟩
        obtain ⟨nl, hnl⟩ : ∃ n, T.lates.length = n := ⟨_, rfl⟩
        have HNA := Aside0.mk hna
        have HNL := Aside0.mk hnl
        have HNA6 := Aside0.mk (show na ≤ 6 by have := HM6.out; omega)
        have HAE := Aside0.mk hAE
        have HNX0 := Aside0.mk hNX
        have HTS := Aside0.mk (show T.ls = ls + T.asks.length by rw [← hT]; exact T_ls HDL.out mn HM6.out)
        obtain rfl : nl = 0 := by rw [← hnl]; exact HALL.out.lates HM6.out hT
        clear hna hnl hT6 hAE hNX hT
        go_wp2_with (first | (go_at_call 29; with_reducible refine (Tick_at g D mn ev la ls (t : Int) _ T na _ HTT.out HNA.out HNL.out HP.out HNB.out.1 HNB.out.2 HEV.out HLB.out HAS.out).mono ?_; rintro e w' ⟨A1, c1, A2, c2, rfl, ha, hl, hI, hn⟩; have HRA := Aside0.mk (Kd.R_lower ha HB.out.size); have HB_ := Aside0.mk (hn.bel2 HG.out HB.out); have HP_ := Aside0.mk (hI); clear HB HP; have HB := HB_; have HP := HP_; clear HB_ HP_; clear ha hl hI hn))
        go_loopg [14, 54] (mn + 1) (fun kq v14 v54 w' => ∃ (i : Nat) (Di : List Int), v14 = .int .i64 (aheadOf (t : Int) ev la D ls i : Int) ∧ v54 = .int .u64 (i : Int) ∧ Aside0 (kq + i = mn + 1) ∧ Aside0 (i ≤ mn) ∧ Aside0 (Ans true mn i Di T.D) ∧ Aside0 (Kd.R kA 74 w' w.heap.size (fun _ => True) (.slice A1 na c1) T.asks) ∧ Aside0 (IsP w' g Di mn ev la T.ls) ∧ Aside0 (Below w.heap.size w w'))
        case atStart => exact ⟨0, T.D, rfl, rfl, ⟨by omega⟩, ⟨by omega⟩, ⟨Ans.start true mn HTL.out⟩, HRA, HP, HB⟩
        case round =>
          clear HP HB HRA
          obtain ⟨i, Di, rfl, rfl, HKI, HIL, HAN, HRA, HP, HB⟩ := hrel
          by_cases ci2 : i < mn
          · obtain ⟨gk1, rfl⟩ : ∃ gk', gk = gk' + 1 := ⟨gk - 1, by have := HKI.out; omega⟩
            have cib : decide ((i : Int) < (mn : Int)) = true := decide_eq_true (by omega)
            have hi6 : i < 6 := by have := HM6.out; omega
            have hw64 : wrap64 (i : Int) = (i : Int) := by unfold wrap64; omega
            have hwi : IntKind.u64.wrap ((i : Int) + 1) = ((i + 1 : Nat) : Int) := wrap_u64_nat (i + 1) (by omega)
            have hask := (HALL.out.node ci2).asks HE1.out.1 HE1.out.2 HNB.out.1
            obtain ⟨S, hS⟩ : ∃ S, stepOf ev la true = S := ⟨_, rfl⟩
            rw [hS] at hask
            have hS1 : 1 ≤ S := by rw [← hS]; have := HE1.out; unfold stepOf; (repeat' split) <;> omega
            have hS0 : (S == 0) = false := beq_eq_false_iff_ne.mpr (by omega)
            have hSn : ¬ S = 0 := by omega
            obtain rfl : ev = S := hS
            (try clear hS)
            obtain ⟨oo, hoo⟩ : ∃ o, outOf Di mn i = o := ⟨_, rfl⟩
            have HOO := Aside0.mk hoo
            have HOI := Aside0.mk (show nd Di (i * 3 + 1) = oo by rw [← outOf_in ci2]; exact hoo)
            clear hoo
            cases hkb : askB (t : Int) la D i with
            | true =>
              rw [hkb] at hask
              have hd := of_decide_eq_true hask.symm
              have hgi := hd.1
              have hrem := hd.2
              clear hd hask
              have hkl : aheadOf (t : Int) ev la D ls i < T.asks.length := T_more HDL.out mn i ci2 HM6.out HTT.out hkb
              have hnx := T_next HDL.out mn i ci2 HM6.out HTT.out hkl
              rw [hkb] at hnx
              obtain ⟨k, hk⟩ : ∃ k, aheadOf (t : Int) ev la D ls i = k := ⟨_, rfl⟩
              rw [hk] at hkl
              have hnx2 : (T.asks[k].1 == (i : Int)) = true := by simpa only [hk] using hnx
              obtain ⟨ad, e7, hy0, hy1⟩ := at_A (R_C HRA.out) k (by rw [← HNA.out]; exact hkl)
              cases e7
              have hrd : rdA T.asks k = T.asks[k] := by unfold rdA; rw [List.getD_eq_getElem?_getD, List.getElem?_eq_getElem hkl]; rfl
              rw [hrd] at hy0
              obtain ⟨q, hq⟩ : ∃ q, T.asks[k].1 = q := ⟨_, rfl⟩
              rw [hq] at hy0 hnx2
              have pk : 0 ≤ (k : Int) := by omega
              have pk2 : (k : Int) < (na : Int) := by rw [← HNA.out]; omega
              have bk : decide ((k : Int) < (na : Int)) = true := decide_eq_true pk2
              have HKA := Aside0.mk hk
              have hwk : wrap64 ((k : Int) + 1) = ((k + 1 : Nat) : Int) := by have := HNA6.out; unfold wrap64; omega
              clear hrd hq hnx hkl hy1
              have HQ1 := Aside0.mk hnx2
              rw [hk]
              clear hk
              have hge : decide ((i : Int) ≤ (t : Int)) = true := decide_eq_true hgi
              have hgn : i ≤ t := by omega
              have hgd : decide (i ≤ t) = true := decide_eq_true hgn
              have hrm : ((((t : Int) - (i : Int)) % ev) == 0) = true := beq_iff_eq.mpr hrem
              have hw1 : IntKind.u64.wrap ((t : Int) - (i : Int)) = (t : Int) - (i : Int) := by rw [IntKind.wrap_u64]; omega
              have hw2 : ((t : Int) - (i : Int)).tmod ev = ((t : Int) - (i : Int)) % ev := Int.tmod_eq_emod_of_nonneg (by omega)
              have HNX := Aside0.mk (show aheadOf (t : Int) ev la D ls (i + 1) = k + 1 by rw [ahead_succ HDL.out i hi6, HKA.out, hkb]; first | done | rfl)
              have hon : oo ≠ 0 := by rw [← HOI.out, HAN.out.now_ ci2]; exact (HALL.out.out_ HM6.out HTT.out ci2).1 hkb
              have HRR := Aside0.mk (show decide (oo ≠ 0 ∧ outOf Di mn i = oo) = true from decide_eq_true ⟨hon, HOO.out⟩)
              have HDD := Aside0.mk (show (if oo ≠ 0 ∧ outOf Di mn i = oo then Di.set ((i : Int).toNat * 3 + 1) 0 else Di) = Di.set (i * 3 + 1) 0 by rw [if_pos ⟨hon, HOO.out⟩, Int.toNat_natCast])
              have HAN2 := Aside0.mk (HAN.out.set ci2 HM6.out)
              clear hon
              clear hkb hgi hrem
              go_wp2_with (first | (go_at_call 36; with_reducible refine (Out_calls g Di mn ev la T.ls i _ HP.out).mono ?_; rw [HOO.out]; rintro e w' ⟨rfl, hb⟩; have HP_ := Aside0.mk (HP.out.below hb); have HB_ := Aside0.mk (below_step HB.out hb); have HRA_ := Aside0.mk (Kd.R_below HRA.out hb); clear HP HB HRA; have HP := HP_; have HB := HB_; have HRA := HRA_; clear HP_ HB_ HRA_; clear hb) | (go_at_call 34; with_reducible refine (Answer_at g Di mn ev la T.ls i oo _ true (Di.set (i * 3 + 1) 0) HRR.out HDD.out HP.out).mono ?_; rintro e w' ⟨rfl, hI, hn⟩; have HB_ := Aside0.mk (hn.bel2 HG.out HB.out); have HRA_ := Aside0.mk (R_nearP HRA.out HP.out (by decide) hn); have HP_ := Aside0.mk (hI); clear HB HRA HP; have HB := HB_; have HRA := HRA_; have HP := HP_; clear HB_ HRA_ HP_; clear hI hn))
              go_roundg gk1
              case measure => omega
              case rel => exact ⟨i + 1, Di.set (i * 3 + 1) 0, congrArg (Value.int .i64) (by rw [HNX.out] <;> first | rfl | exact hwk | omega), congrArg (Value.int .u64) (by omega), ⟨by have := HKI.out; omega⟩, ⟨by omega⟩, HAN2, HRA, HP, HB⟩
            | false =>
              rw [hkb] at hask
              have hd := of_decide_eq_false hask.symm
              clear hask
              by_cases hgi : (i : Int) ≤ (t : Int)
              · have hrem : ((t : Int) - (i : Int)) % ev ≠ 0 := fun h => hd ⟨hgi, h⟩
                clear hd
                by_cases cn : aheadOf (t : Int) ev la D ls i < na
                · have hkl : aheadOf (t : Int) ev la D ls i < T.asks.length := by rw [HNA.out]; exact cn
                  have hnx := T_next HDL.out mn i ci2 HM6.out HTT.out hkl
                  rw [hkb] at hnx
                  obtain ⟨k, hk⟩ : ∃ k, aheadOf (t : Int) ev la D ls i = k := ⟨_, rfl⟩
                  rw [hk] at hkl
                  have hnx2 : (T.asks[k].1 == (i : Int)) = false := by simpa only [hk] using hnx
                  obtain ⟨ad, e7, hy0, hy1⟩ := at_A (R_C HRA.out) k (by rw [← HNA.out]; exact hkl)
                  cases e7
                  have hrd : rdA T.asks k = T.asks[k] := by unfold rdA; rw [List.getD_eq_getElem?_getD, List.getElem?_eq_getElem hkl]; rfl
                  rw [hrd] at hy0
                  obtain ⟨q, hq⟩ : ∃ q, T.asks[k].1 = q := ⟨_, rfl⟩
                  rw [hq] at hy0 hnx2
                  have pk : 0 ≤ (k : Int) := by omega
                  have pk2 : (k : Int) < (na : Int) := by rw [← HNA.out]; omega
                  have bk : decide ((k : Int) < (na : Int)) = true := decide_eq_true pk2
                  have HKA := Aside0.mk hk
                  have hwk : wrap64 ((k : Int) + 1) = ((k + 1 : Nat) : Int) := by have := HNA6.out; unfold wrap64; omega
                  clear hrd hq hnx hkl hy1
                  rw [hk]
                  clear hk
                  have hge : decide ((i : Int) ≤ (t : Int)) = true := decide_eq_true hgi
                  have hgn : i ≤ t := by omega
                  have hgd : decide (i ≤ t) = true := decide_eq_true hgn
                  have hrm : ((((t : Int) - (i : Int)) % ev) == 0) = false := beq_eq_false_iff_ne.mpr hrem
                  have hw1 : IntKind.u64.wrap ((t : Int) - (i : Int)) = (t : Int) - (i : Int) := by rw [IntKind.wrap_u64]; omega
                  have hw2 : ((t : Int) - (i : Int)).tmod ev = ((t : Int) - (i : Int)) % ev := Int.tmod_eq_emod_of_nonneg (by omega)
                  have HNX := Aside0.mk (show aheadOf (t : Int) ev la D ls (i + 1) = k by rw [ahead_succ HDL.out i hi6, HKA.out, hkb]; first | done | rfl)
                  have HAN2 := Aside0.mk (HAN.out.keep ci2 (fun _ => (HALL.out.out_ HM6.out HTT.out ci2).2 rfl hkb))
                  clear hkb hgi hrem cn
                  go_wp2
                  go_roundg gk1
                  case measure => omega
                  case rel => exact ⟨i + 1, Di, congrArg (Value.int .i64) (by rw [HNX.out] <;> first | rfl | exact hwk | omega), congrArg (Value.int .u64) (by omega), ⟨by have := HKI.out; omega⟩, ⟨by omega⟩, HAN2, HRA, HP, HB⟩
                · obtain ⟨k, hk⟩ : ∃ k, aheadOf (t : Int) ev la D ls i = k := ⟨_, rfl⟩
                  have HKA := Aside0.mk hk
                  have bkp : ¬ k < na := by rw [← hk]; exact cn
                  have bk : decide ((k : Int) < (na : Int)) = false := decide_eq_false (by omega)
                  have bkn : decide (k < na) = false := decide_eq_false bkp
                  rw [hk]
                  clear hk
                  have hge : decide ((i : Int) ≤ (t : Int)) = true := decide_eq_true hgi
                  have hgn : i ≤ t := by omega
                  have hgd : decide (i ≤ t) = true := decide_eq_true hgn
                  have hrm : ((((t : Int) - (i : Int)) % ev) == 0) = false := beq_eq_false_iff_ne.mpr hrem
                  have hw1 : IntKind.u64.wrap ((t : Int) - (i : Int)) = (t : Int) - (i : Int) := by rw [IntKind.wrap_u64]; omega
                  have hw2 : ((t : Int) - (i : Int)).tmod ev = ((t : Int) - (i : Int)) % ev := Int.tmod_eq_emod_of_nonneg (by omega)
                  have HNX := Aside0.mk (show aheadOf (t : Int) ev la D ls (i + 1) = k by rw [ahead_succ HDL.out i hi6, HKA.out, hkb]; first | done | rfl)
                  have HAN2 := Aside0.mk (HAN.out.keep ci2 (fun _ => (HALL.out.out_ HM6.out HTT.out ci2).2 rfl hkb))
                  clear hkb hgi hrem cn
                  go_wp2
                  go_roundg gk1
                  case measure => omega
                  case rel => exact ⟨i + 1, Di, congrArg (Value.int .i64) (by rw [HNX.out] <;> first | rfl | exact hwk | omega), congrArg (Value.int .u64) (by omega), ⟨by have := HKI.out; omega⟩, ⟨by omega⟩, HAN2, HRA, HP, HB⟩
              · clear hd
                by_cases cn : aheadOf (t : Int) ev la D ls i < na
                · have hkl : aheadOf (t : Int) ev la D ls i < T.asks.length := by rw [HNA.out]; exact cn
                  have hnx := T_next HDL.out mn i ci2 HM6.out HTT.out hkl
                  rw [hkb] at hnx
                  obtain ⟨k, hk⟩ : ∃ k, aheadOf (t : Int) ev la D ls i = k := ⟨_, rfl⟩
                  rw [hk] at hkl
                  have hnx2 : (T.asks[k].1 == (i : Int)) = false := by simpa only [hk] using hnx
                  obtain ⟨ad, e7, hy0, hy1⟩ := at_A (R_C HRA.out) k (by rw [← HNA.out]; exact hkl)
                  cases e7
                  have hrd : rdA T.asks k = T.asks[k] := by unfold rdA; rw [List.getD_eq_getElem?_getD, List.getElem?_eq_getElem hkl]; rfl
                  rw [hrd] at hy0
                  obtain ⟨q, hq⟩ : ∃ q, T.asks[k].1 = q := ⟨_, rfl⟩
                  rw [hq] at hy0 hnx2
                  have pk : 0 ≤ (k : Int) := by omega
                  have pk2 : (k : Int) < (na : Int) := by rw [← HNA.out]; omega
                  have bk : decide ((k : Int) < (na : Int)) = true := decide_eq_true pk2
                  have HKA := Aside0.mk hk
                  have hwk : wrap64 ((k : Int) + 1) = ((k + 1 : Nat) : Int) := by have := HNA6.out; unfold wrap64; omega
                  clear hrd hq hnx hkl hy1
                  rw [hk]
                  clear hk
                  have hge : decide ((i : Int) ≤ (t : Int)) = false := decide_eq_false hgi
                  have hgn : ¬ i ≤ t := by omega
                  have hgd : decide (i ≤ t) = false := decide_eq_false hgn
                  have HNX := Aside0.mk (show aheadOf (t : Int) ev la D ls (i + 1) = k by rw [ahead_succ HDL.out i hi6, HKA.out, hkb]; first | done | rfl)
                  have HAN2 := Aside0.mk (HAN.out.keep ci2 (fun _ => (HALL.out.out_ HM6.out HTT.out ci2).2 rfl hkb))
                  clear hkb hgi cn
                  go_wp2
                  go_roundg gk1
                  case measure => omega
                  case rel => exact ⟨i + 1, Di, congrArg (Value.int .i64) (by rw [HNX.out] <;> first | rfl | exact hwk | omega), congrArg (Value.int .u64) (by omega), ⟨by have := HKI.out; omega⟩, ⟨by omega⟩, HAN2, HRA, HP, HB⟩
                · obtain ⟨k, hk⟩ : ∃ k, aheadOf (t : Int) ev la D ls i = k := ⟨_, rfl⟩
                  have HKA := Aside0.mk hk
                  have bkp : ¬ k < na := by rw [← hk]; exact cn
                  have bk : decide ((k : Int) < (na : Int)) = false := decide_eq_false (by omega)
                  have bkn : decide (k < na) = false := decide_eq_false bkp
                  rw [hk]
                  clear hk
                  have hge : decide ((i : Int) ≤ (t : Int)) = false := decide_eq_false hgi
                  have hgn : ¬ i ≤ t := by omega
                  have hgd : decide (i ≤ t) = false := decide_eq_false hgn
                  have HNX := Aside0.mk (show aheadOf (t : Int) ev la D ls (i + 1) = k by rw [ahead_succ HDL.out i hi6, HKA.out, hkb]; first | done | rfl)
                  have HAN2 := Aside0.mk (HAN.out.keep ci2 (fun _ => (HALL.out.out_ HM6.out HTT.out ci2).2 rfl hkb))
                  clear hkb hgi cn
                  go_wp2
                  go_roundg gk1
                  case measure => omega
                  case rel => exact ⟨i + 1, Di, congrArg (Value.int .i64) (by rw [HNX.out] <;> first | rfl | exact hwk | omega), congrArg (Value.int .u64) (by omega), ⟨by have := HKI.out; omega⟩, ⟨by omega⟩, HAN2, HRA, HP, HB⟩
          · have cib : decide ((i : Int) < (mn : Int)) = false := decide_eq_false (by omega)
            have him : i = mn := by have := HIL.out; omega
            have hna2 : aheadOf (t : Int) ev la D ls i = na := by rw [him, HAE.out, HNA.out]
            rw [hna2]
            have bnn : ((na : Int) != (na : Int)) = false := by simp
            have HAL2 := Aside0.mk (show All mn ev la true ((t + 1 : Nat) : Int) T.ls Di by
              have h := HAN.out
              unfold Ans at h
              rw [him] at h
              have h2 := HNX0.out Di h.1 h.2.1 h.2.2.1 (fun j hj => by rw [h.2.2.2 j hj]; simp [hj])
              rw [HTS.out]
              exact h2)
            have hwt : IntKind.u64.wrap ((t : Int) + 1) = ((t + 1 : Nat) : Int) := HT1.out
            clear hna2 him
            go_wp2
            go_roundg gk0
            case measure => omega
            case rel => exact ⟨t + 1, T.ls, Di, congrArg (Value.int .u64) (by omega), ⟨by have := HK.out; omega⟩, ⟨by omega⟩, HAL2, HP, HB⟩
      · have cb : decide ((t : Int) < 100) = false := decide_eq_false (by omega)
        go_wp2
        go_ret
        exact ⟨rfl, HB.out⟩
  | false =>
    go_enter Try.func8, Try.ntmps8
    go_wp2_with (first | (go_at_call 25; with_reducible refine (awake_calls _).mono ?_; rintro e w' ⟨rfl, hb⟩; have HB_ := Aside0.mk (below_step HB.out hb); clear hb HB; have HB := HB_; clear HB_) | (go_at_call 27; with_reducible refine (New_ok mn ev la _ hok).mono ?_; rintro e w' ⟨g, rfl, hI, hg, hb⟩; have HP := Aside0.mk hI; have HG := Aside0.mk (Nat.le_trans HB.out.size hg); have HB_ := Aside0.mk (below_step HB.out hb); clear hI hg hb HB; have HB := HB_; clear HB_))
    go_loopg [37] 101 (fun kq v37 w' => ∃ (t : Nat) (ls : Int) (D : List Int), v37 = .int .u64 (t : Int) ∧ Aside0 (kq + t = 101) ∧ Aside0 (t ≤ 100) ∧ Aside0 (All mn ev la false t ls D) ∧ Aside0 (IsP w' g D mn ev la ls) ∧ Aside0 (Below w.heap.size w w'))
    case atStart => exact ⟨0, 0, newD 6, rfl, ⟨by omega⟩, ⟨by omega⟩, ⟨All.start mn ev la false HM6.out⟩, HP, HB⟩
    case round =>
      clear HP HB
      obtain ⟨t, ls, D, rfl, HK, HL, HALL, HP, HB⟩ := hrel
      obtain ⟨gk0, rfl⟩ : ∃ gk', gk = gk' + 1 := ⟨gk - 1, by have := HK.out; have := HL.out; omega⟩
      by_cases ct : t < 100
      · have cb : decide ((t : Int) < 100) = true := decide_eq_true (by omega)
        have HT1 := Aside0.mk (wrap_u64_nat (t + 1) (by omega))
        have HNB := Aside0.mk (show 0 ≤ (t : Int) ∧ (t : Int) ≤ 1000000000000 by omega)
        have HLB := Aside0.mk (show 0 ≤ ls ∧ ls ≤ 1000000000000 by have := HALL.out.ls_; omega)
        have HAS := Aside0.mk HALL.out.asked
        have HDL := Aside0.mk HALL.out.dlen
        have hT6 := ticks_asks (now := t) (ev := ev) (la := la) (s := ⟨D, ls, [], []⟩) mn
        simp only [List.length_nil] at hT6
        have hAE : aheadOf (t : Int) ev la D ls mn = (ticks t ev la ⟨D, ls, [], []⟩ mn).asks.length := rfl
        have hNX := fun D2 => HALL.out.next (D2 := D2) HM6.out HE1.out.1 HE1.out.2
        obtain ⟨T, hT⟩ : ∃ T, ticks (t : Int) ev la ⟨D, ls, [], []⟩ mn = T := ⟨_, rfl⟩
        rw [hT] at hT6 hAE
        simp only [hT] at hNX
        have HTL := Aside0.mk (show T.D.length = 18 by rw [← hT, ticks_len]; exact HDL.out)
        have HTT := Aside0.mk hT
        obtain ⟨na, hna⟩ : ∃ n, T.asks.length = n := ⟨_, rfl⟩
        obtain ⟨nl, hnl⟩ : ∃ n, T.lates.length = n := ⟨_, rfl⟩
        have HNA := Aside0.mk hna
        have HNL := Aside0.mk hnl
        have HNA6 := Aside0.mk (show na ≤ 6 by have := HM6.out; omega)
        have HAE := Aside0.mk hAE
        have HNX0 := Aside0.mk hNX
        have HTS := Aside0.mk (show T.ls = ls + T.asks.length by rw [← hT]; exact T_ls HDL.out mn HM6.out)
        clear hna hnl hT6 hAE hNX hT
        go_wp2_with (first | (go_at_call 29; with_reducible refine (Tick_at g D mn ev la ls (t : Int) _ T na _ HTT.out HNA.out HNL.out HP.out HNB.out.1 HNB.out.2 HEV.out HLB.out HAS.out).mono ?_; rintro e w' ⟨A1, c1, A2, c2, rfl, ha, hl, hI, hn⟩; have HRA := Aside0.mk (Kd.R_lower ha HB.out.size); have HB_ := Aside0.mk (hn.bel2 HG.out HB.out); have HP_ := Aside0.mk (hI); clear HB HP; have HB := HB_; have HP := HP_; clear HB_ HP_; clear ha hl hI hn))
        go_loopg [14, 54] (mn + 1) (fun kq v14 v54 w' => ∃ (i : Nat) (Di : List Int), v14 = .int .i64 (aheadOf (t : Int) ev la D ls i : Int) ∧ v54 = .int .u64 (i : Int) ∧ Aside0 (kq + i = mn + 1) ∧ Aside0 (i ≤ mn) ∧ Aside0 (Ans false mn i Di T.D) ∧ Aside0 (Kd.R kA 74 w' w.heap.size (fun _ => True) (.slice A1 na c1) T.asks) ∧ Aside0 (IsP w' g Di mn ev la T.ls) ∧ Aside0 (Below w.heap.size w w'))
        case atStart => exact ⟨0, T.D, rfl, rfl, ⟨by omega⟩, ⟨by omega⟩, ⟨Ans.start false mn HTL.out⟩, HRA, HP, HB⟩
        case round =>
          clear HP HB HRA
          obtain ⟨i, Di, rfl, rfl, HKI, HIL, HAN, HRA, HP, HB⟩ := hrel
          by_cases ci2 : i < mn
          · obtain ⟨gk1, rfl⟩ : ∃ gk', gk = gk' + 1 := ⟨gk - 1, by have := HKI.out; omega⟩
            have cib : decide ((i : Int) < (mn : Int)) = true := decide_eq_true (by omega)
            have hi6 : i < 6 := by have := HM6.out; omega
            have hw64 : wrap64 (i : Int) = (i : Int) := by unfold wrap64; omega
            have hwi : IntKind.u64.wrap ((i : Int) + 1) = ((i + 1 : Nat) : Int) := wrap_u64_nat (i + 1) (by omega)
            have hask := (HALL.out.node ci2).asks HE1.out.1 HE1.out.2 HNB.out.1
            obtain ⟨S, hS⟩ : ∃ S, stepOf ev la false = S := ⟨_, rfl⟩
            rw [hS] at hask
            have hS1 : 1 ≤ S := by rw [← hS]; have := HE1.out; unfold stepOf; (repeat' split) <;> omega
            have hS0 : (S == 0) = false := beq_eq_false_iff_ne.mpr (by omega)
            have hSn : ¬ S = 0 := by omega
            by_cases hel : ev < la
            · have hbl : decide (ev < la) = true := decide_eq_true hel
              obtain rfl : la = S := by rw [← hS]; unfold stepOf; rw [if_neg (by decide), if_pos hel]
              (try clear hS)
              obtain ⟨oo, hoo⟩ : ∃ o, outOf Di mn i = o := ⟨_, rfl⟩
              have HOO := Aside0.mk hoo
              have HOI := Aside0.mk (show nd Di (i * 3 + 1) = oo by rw [← outOf_in ci2]; exact hoo)
              clear hoo
              cases hkb : askB (t : Int) la D i with
              | true =>
                rw [hkb] at hask
                have hd := of_decide_eq_true hask.symm
                have hgi := hd.1
                have hrem := hd.2
                clear hd hask
                have hkl : aheadOf (t : Int) ev la D ls i < T.asks.length := T_more HDL.out mn i ci2 HM6.out HTT.out hkb
                have hnx := T_next HDL.out mn i ci2 HM6.out HTT.out hkl
                rw [hkb] at hnx
                obtain ⟨k, hk⟩ : ∃ k, aheadOf (t : Int) ev la D ls i = k := ⟨_, rfl⟩
                rw [hk] at hkl
                have hnx2 : (T.asks[k].1 == (i : Int)) = true := by simpa only [hk] using hnx
                obtain ⟨ad, e7, hy0, hy1⟩ := at_A (R_C HRA.out) k (by rw [← HNA.out]; exact hkl)
                cases e7
                have hrd : rdA T.asks k = T.asks[k] := by unfold rdA; rw [List.getD_eq_getElem?_getD, List.getElem?_eq_getElem hkl]; rfl
                rw [hrd] at hy0
                obtain ⟨q, hq⟩ : ∃ q, T.asks[k].1 = q := ⟨_, rfl⟩
                rw [hq] at hy0 hnx2
                have pk : 0 ≤ (k : Int) := by omega
                have pk2 : (k : Int) < (na : Int) := by rw [← HNA.out]; omega
                have bk : decide ((k : Int) < (na : Int)) = true := decide_eq_true pk2
                have HKA := Aside0.mk hk
                have hwk : wrap64 ((k : Int) + 1) = ((k + 1 : Nat) : Int) := by have := HNA6.out; unfold wrap64; omega
                clear hrd hq hnx hkl hy1
                have HQ1 := Aside0.mk hnx2
                rw [hk]
                clear hk
                have hge : decide ((i : Int) ≤ (t : Int)) = true := decide_eq_true hgi
                have hgn : i ≤ t := by omega
                have hgd : decide (i ≤ t) = true := decide_eq_true hgn
                have hrm : ((((t : Int) - (i : Int)) % la) == 0) = true := beq_iff_eq.mpr hrem
                have hw1 : IntKind.u64.wrap ((t : Int) - (i : Int)) = (t : Int) - (i : Int) := by rw [IntKind.wrap_u64]; omega
                have hw2 : ((t : Int) - (i : Int)).tmod la = ((t : Int) - (i : Int)) % la := Int.tmod_eq_emod_of_nonneg (by omega)
                have HNX := Aside0.mk (show aheadOf (t : Int) ev la D ls (i + 1) = k + 1 by rw [ahead_succ HDL.out i hi6, HKA.out, hkb]; first | done | rfl)
                have HAN2 := Aside0.mk (HAN.out.keep ci2 (fun h => by cases h))
                clear hkb hgi hrem
                go_wp2
                go_roundg gk1
                case measure => omega
                case rel => exact ⟨i + 1, Di, congrArg (Value.int .i64) (by rw [HNX.out] <;> first | rfl | exact hwk | omega), congrArg (Value.int .u64) (by omega), ⟨by have := HKI.out; omega⟩, ⟨by omega⟩, HAN2, HRA, HP, HB⟩
              | false =>
                rw [hkb] at hask
                have hd := of_decide_eq_false hask.symm
                clear hask
                by_cases hgi : (i : Int) ≤ (t : Int)
                · have hrem : ((t : Int) - (i : Int)) % la ≠ 0 := fun h => hd ⟨hgi, h⟩
                  clear hd
                  by_cases cn : aheadOf (t : Int) ev la D ls i < na
                  · have hkl : aheadOf (t : Int) ev la D ls i < T.asks.length := by rw [HNA.out]; exact cn
                    have hnx := T_next HDL.out mn i ci2 HM6.out HTT.out hkl
                    rw [hkb] at hnx
                    obtain ⟨k, hk⟩ : ∃ k, aheadOf (t : Int) ev la D ls i = k := ⟨_, rfl⟩
                    rw [hk] at hkl
                    have hnx2 : (T.asks[k].1 == (i : Int)) = false := by simpa only [hk] using hnx
                    obtain ⟨ad, e7, hy0, hy1⟩ := at_A (R_C HRA.out) k (by rw [← HNA.out]; exact hkl)
                    cases e7
                    have hrd : rdA T.asks k = T.asks[k] := by unfold rdA; rw [List.getD_eq_getElem?_getD, List.getElem?_eq_getElem hkl]; rfl
                    rw [hrd] at hy0
                    obtain ⟨q, hq⟩ : ∃ q, T.asks[k].1 = q := ⟨_, rfl⟩
                    rw [hq] at hy0 hnx2
                    have pk : 0 ≤ (k : Int) := by omega
                    have pk2 : (k : Int) < (na : Int) := by rw [← HNA.out]; omega
                    have bk : decide ((k : Int) < (na : Int)) = true := decide_eq_true pk2
                    have HKA := Aside0.mk hk
                    have hwk : wrap64 ((k : Int) + 1) = ((k + 1 : Nat) : Int) := by have := HNA6.out; unfold wrap64; omega
                    clear hrd hq hnx hkl hy1
                    rw [hk]
                    clear hk
                    have hge : decide ((i : Int) ≤ (t : Int)) = true := decide_eq_true hgi
                    have hgn : i ≤ t := by omega
                    have hgd : decide (i ≤ t) = true := decide_eq_true hgn
                    have hrm : ((((t : Int) - (i : Int)) % la) == 0) = false := beq_eq_false_iff_ne.mpr hrem
                    have hw1 : IntKind.u64.wrap ((t : Int) - (i : Int)) = (t : Int) - (i : Int) := by rw [IntKind.wrap_u64]; omega
                    have hw2 : ((t : Int) - (i : Int)).tmod la = ((t : Int) - (i : Int)) % la := Int.tmod_eq_emod_of_nonneg (by omega)
                    have HNX := Aside0.mk (show aheadOf (t : Int) ev la D ls (i + 1) = k by rw [ahead_succ HDL.out i hi6, HKA.out, hkb]; first | done | rfl)
                    have HAN2 := Aside0.mk (HAN.out.keep ci2 (fun h => by cases h))
                    clear hkb hgi hrem cn
                    go_wp2
                    go_roundg gk1
                    case measure => omega
                    case rel => exact ⟨i + 1, Di, congrArg (Value.int .i64) (by rw [HNX.out] <;> first | rfl | exact hwk | omega), congrArg (Value.int .u64) (by omega), ⟨by have := HKI.out; omega⟩, ⟨by omega⟩, HAN2, HRA, HP, HB⟩
                  · obtain ⟨k, hk⟩ : ∃ k, aheadOf (t : Int) ev la D ls i = k := ⟨_, rfl⟩
                    have HKA := Aside0.mk hk
                    have bkp : ¬ k < na := by rw [← hk]; exact cn
                    have bk : decide ((k : Int) < (na : Int)) = false := decide_eq_false (by omega)
                    have bkn : decide (k < na) = false := decide_eq_false bkp
                    rw [hk]
                    clear hk
                    have hge : decide ((i : Int) ≤ (t : Int)) = true := decide_eq_true hgi
                    have hgn : i ≤ t := by omega
                    have hgd : decide (i ≤ t) = true := decide_eq_true hgn
                    have hrm : ((((t : Int) - (i : Int)) % la) == 0) = false := beq_eq_false_iff_ne.mpr hrem
                    have hw1 : IntKind.u64.wrap ((t : Int) - (i : Int)) = (t : Int) - (i : Int) := by rw [IntKind.wrap_u64]; omega
                    have hw2 : ((t : Int) - (i : Int)).tmod la = ((t : Int) - (i : Int)) % la := Int.tmod_eq_emod_of_nonneg (by omega)
                    have HNX := Aside0.mk (show aheadOf (t : Int) ev la D ls (i + 1) = k by rw [ahead_succ HDL.out i hi6, HKA.out, hkb]; first | done | rfl)
                    have HAN2 := Aside0.mk (HAN.out.keep ci2 (fun h => by cases h))
                    clear hkb hgi hrem cn
                    go_wp2
                    go_roundg gk1
                    case measure => omega
                    case rel => exact ⟨i + 1, Di, congrArg (Value.int .i64) (by rw [HNX.out] <;> first | rfl | exact hwk | omega), congrArg (Value.int .u64) (by omega), ⟨by have := HKI.out; omega⟩, ⟨by omega⟩, HAN2, HRA, HP, HB⟩
                · clear hd
                  by_cases cn : aheadOf (t : Int) ev la D ls i < na
                  · have hkl : aheadOf (t : Int) ev la D ls i < T.asks.length := by rw [HNA.out]; exact cn
                    have hnx := T_next HDL.out mn i ci2 HM6.out HTT.out hkl
                    rw [hkb] at hnx
                    obtain ⟨k, hk⟩ : ∃ k, aheadOf (t : Int) ev la D ls i = k := ⟨_, rfl⟩
                    rw [hk] at hkl
                    have hnx2 : (T.asks[k].1 == (i : Int)) = false := by simpa only [hk] using hnx
                    obtain ⟨ad, e7, hy0, hy1⟩ := at_A (R_C HRA.out) k (by rw [← HNA.out]; exact hkl)
                    cases e7
                    have hrd : rdA T.asks k = T.asks[k] := by unfold rdA; rw [List.getD_eq_getElem?_getD, List.getElem?_eq_getElem hkl]; rfl
                    rw [hrd] at hy0
                    obtain ⟨q, hq⟩ : ∃ q, T.asks[k].1 = q := ⟨_, rfl⟩
                    rw [hq] at hy0 hnx2
                    have pk : 0 ≤ (k : Int) := by omega
                    have pk2 : (k : Int) < (na : Int) := by rw [← HNA.out]; omega
                    have bk : decide ((k : Int) < (na : Int)) = true := decide_eq_true pk2
                    have HKA := Aside0.mk hk
                    have hwk : wrap64 ((k : Int) + 1) = ((k + 1 : Nat) : Int) := by have := HNA6.out; unfold wrap64; omega
                    clear hrd hq hnx hkl hy1
                    rw [hk]
                    clear hk
                    have hge : decide ((i : Int) ≤ (t : Int)) = false := decide_eq_false hgi
                    have hgn : ¬ i ≤ t := by omega
                    have hgd : decide (i ≤ t) = false := decide_eq_false hgn
                    have HNX := Aside0.mk (show aheadOf (t : Int) ev la D ls (i + 1) = k by rw [ahead_succ HDL.out i hi6, HKA.out, hkb]; first | done | rfl)
                    have HAN2 := Aside0.mk (HAN.out.keep ci2 (fun h => by cases h))
                    clear hkb hgi cn
                    go_wp2
                    go_roundg gk1
                    case measure => omega
                    case rel => exact ⟨i + 1, Di, congrArg (Value.int .i64) (by rw [HNX.out] <;> first | rfl | exact hwk | omega), congrArg (Value.int .u64) (by omega), ⟨by have := HKI.out; omega⟩, ⟨by omega⟩, HAN2, HRA, HP, HB⟩
                  · obtain ⟨k, hk⟩ : ∃ k, aheadOf (t : Int) ev la D ls i = k := ⟨_, rfl⟩
                    have HKA := Aside0.mk hk
                    have bkp : ¬ k < na := by rw [← hk]; exact cn
                    have bk : decide ((k : Int) < (na : Int)) = false := decide_eq_false (by omega)
                    have bkn : decide (k < na) = false := decide_eq_false bkp
                    rw [hk]
                    clear hk
                    have hge : decide ((i : Int) ≤ (t : Int)) = false := decide_eq_false hgi
                    have hgn : ¬ i ≤ t := by omega
                    have hgd : decide (i ≤ t) = false := decide_eq_false hgn
                    have HNX := Aside0.mk (show aheadOf (t : Int) ev la D ls (i + 1) = k by rw [ahead_succ HDL.out i hi6, HKA.out, hkb]; first | done | rfl)
                    have HAN2 := Aside0.mk (HAN.out.keep ci2 (fun h => by cases h))
                    clear hkb hgi cn
                    go_wp2
                    go_roundg gk1
                    case measure => omega
                    case rel => exact ⟨i + 1, Di, congrArg (Value.int .i64) (by rw [HNX.out] <;> first | rfl | exact hwk | omega), congrArg (Value.int .u64) (by omega), ⟨by have := HKI.out; omega⟩, ⟨by omega⟩, HAN2, HRA, HP, HB⟩
            · have hbl : decide (ev < la) = false := decide_eq_false hel
              obtain rfl : ev = S := by rw [← hS]; unfold stepOf; rw [if_neg (by decide), if_neg hel]
              (try clear hS)
              obtain ⟨oo, hoo⟩ : ∃ o, outOf Di mn i = o := ⟨_, rfl⟩
              have HOO := Aside0.mk hoo
              have HOI := Aside0.mk (show nd Di (i * 3 + 1) = oo by rw [← outOf_in ci2]; exact hoo)
              clear hoo
              cases hkb : askB (t : Int) la D i with
              | true =>
                rw [hkb] at hask
                have hd := of_decide_eq_true hask.symm
                have hgi := hd.1
                have hrem := hd.2
                clear hd hask
                have hkl : aheadOf (t : Int) ev la D ls i < T.asks.length := T_more HDL.out mn i ci2 HM6.out HTT.out hkb
                have hnx := T_next HDL.out mn i ci2 HM6.out HTT.out hkl
                rw [hkb] at hnx
                obtain ⟨k, hk⟩ : ∃ k, aheadOf (t : Int) ev la D ls i = k := ⟨_, rfl⟩
                rw [hk] at hkl
                have hnx2 : (T.asks[k].1 == (i : Int)) = true := by simpa only [hk] using hnx
                obtain ⟨ad, e7, hy0, hy1⟩ := at_A (R_C HRA.out) k (by rw [← HNA.out]; exact hkl)
                cases e7
                have hrd : rdA T.asks k = T.asks[k] := by unfold rdA; rw [List.getD_eq_getElem?_getD, List.getElem?_eq_getElem hkl]; rfl
                rw [hrd] at hy0
                obtain ⟨q, hq⟩ : ∃ q, T.asks[k].1 = q := ⟨_, rfl⟩
                rw [hq] at hy0 hnx2
                have pk : 0 ≤ (k : Int) := by omega
                have pk2 : (k : Int) < (na : Int) := by rw [← HNA.out]; omega
                have bk : decide ((k : Int) < (na : Int)) = true := decide_eq_true pk2
                have HKA := Aside0.mk hk
                have hwk : wrap64 ((k : Int) + 1) = ((k + 1 : Nat) : Int) := by have := HNA6.out; unfold wrap64; omega
                clear hrd hq hnx hkl hy1
                have HQ1 := Aside0.mk hnx2
                rw [hk]
                clear hk
                have hge : decide ((i : Int) ≤ (t : Int)) = true := decide_eq_true hgi
                have hgn : i ≤ t := by omega
                have hgd : decide (i ≤ t) = true := decide_eq_true hgn
                have hrm : ((((t : Int) - (i : Int)) % ev) == 0) = true := beq_iff_eq.mpr hrem
                have hw1 : IntKind.u64.wrap ((t : Int) - (i : Int)) = (t : Int) - (i : Int) := by rw [IntKind.wrap_u64]; omega
                have hw2 : ((t : Int) - (i : Int)).tmod ev = ((t : Int) - (i : Int)) % ev := Int.tmod_eq_emod_of_nonneg (by omega)
                have HNX := Aside0.mk (show aheadOf (t : Int) ev la D ls (i + 1) = k + 1 by rw [ahead_succ HDL.out i hi6, HKA.out, hkb]; first | done | rfl)
                have HAN2 := Aside0.mk (HAN.out.keep ci2 (fun h => by cases h))
                clear hkb hgi hrem
                go_wp2
                go_roundg gk1
                case measure => omega
                case rel => exact ⟨i + 1, Di, congrArg (Value.int .i64) (by rw [HNX.out] <;> first | rfl | exact hwk | omega), congrArg (Value.int .u64) (by omega), ⟨by have := HKI.out; omega⟩, ⟨by omega⟩, HAN2, HRA, HP, HB⟩
              | false =>
                rw [hkb] at hask
                have hd := of_decide_eq_false hask.symm
                clear hask
                by_cases hgi : (i : Int) ≤ (t : Int)
                · have hrem : ((t : Int) - (i : Int)) % ev ≠ 0 := fun h => hd ⟨hgi, h⟩
                  clear hd
                  by_cases cn : aheadOf (t : Int) ev la D ls i < na
                  · have hkl : aheadOf (t : Int) ev la D ls i < T.asks.length := by rw [HNA.out]; exact cn
                    have hnx := T_next HDL.out mn i ci2 HM6.out HTT.out hkl
                    rw [hkb] at hnx
                    obtain ⟨k, hk⟩ : ∃ k, aheadOf (t : Int) ev la D ls i = k := ⟨_, rfl⟩
                    rw [hk] at hkl
                    have hnx2 : (T.asks[k].1 == (i : Int)) = false := by simpa only [hk] using hnx
                    obtain ⟨ad, e7, hy0, hy1⟩ := at_A (R_C HRA.out) k (by rw [← HNA.out]; exact hkl)
                    cases e7
                    have hrd : rdA T.asks k = T.asks[k] := by unfold rdA; rw [List.getD_eq_getElem?_getD, List.getElem?_eq_getElem hkl]; rfl
                    rw [hrd] at hy0
                    obtain ⟨q, hq⟩ : ∃ q, T.asks[k].1 = q := ⟨_, rfl⟩
                    rw [hq] at hy0 hnx2
                    have pk : 0 ≤ (k : Int) := by omega
                    have pk2 : (k : Int) < (na : Int) := by rw [← HNA.out]; omega
                    have bk : decide ((k : Int) < (na : Int)) = true := decide_eq_true pk2
                    have HKA := Aside0.mk hk
                    have hwk : wrap64 ((k : Int) + 1) = ((k + 1 : Nat) : Int) := by have := HNA6.out; unfold wrap64; omega
                    clear hrd hq hnx hkl hy1
                    rw [hk]
                    clear hk
                    have hge : decide ((i : Int) ≤ (t : Int)) = true := decide_eq_true hgi
                    have hgn : i ≤ t := by omega
                    have hgd : decide (i ≤ t) = true := decide_eq_true hgn
                    have hrm : ((((t : Int) - (i : Int)) % ev) == 0) = false := beq_eq_false_iff_ne.mpr hrem
                    have hw1 : IntKind.u64.wrap ((t : Int) - (i : Int)) = (t : Int) - (i : Int) := by rw [IntKind.wrap_u64]; omega
                    have hw2 : ((t : Int) - (i : Int)).tmod ev = ((t : Int) - (i : Int)) % ev := Int.tmod_eq_emod_of_nonneg (by omega)
                    have HNX := Aside0.mk (show aheadOf (t : Int) ev la D ls (i + 1) = k by rw [ahead_succ HDL.out i hi6, HKA.out, hkb]; first | done | rfl)
                    have HAN2 := Aside0.mk (HAN.out.keep ci2 (fun h => by cases h))
                    clear hkb hgi hrem cn
                    go_wp2
                    go_roundg gk1
                    case measure => omega
                    case rel => exact ⟨i + 1, Di, congrArg (Value.int .i64) (by rw [HNX.out] <;> first | rfl | exact hwk | omega), congrArg (Value.int .u64) (by omega), ⟨by have := HKI.out; omega⟩, ⟨by omega⟩, HAN2, HRA, HP, HB⟩
                  · obtain ⟨k, hk⟩ : ∃ k, aheadOf (t : Int) ev la D ls i = k := ⟨_, rfl⟩
                    have HKA := Aside0.mk hk
                    have bkp : ¬ k < na := by rw [← hk]; exact cn
                    have bk : decide ((k : Int) < (na : Int)) = false := decide_eq_false (by omega)
                    have bkn : decide (k < na) = false := decide_eq_false bkp
                    rw [hk]
                    clear hk
                    have hge : decide ((i : Int) ≤ (t : Int)) = true := decide_eq_true hgi
                    have hgn : i ≤ t := by omega
                    have hgd : decide (i ≤ t) = true := decide_eq_true hgn
                    have hrm : ((((t : Int) - (i : Int)) % ev) == 0) = false := beq_eq_false_iff_ne.mpr hrem
                    have hw1 : IntKind.u64.wrap ((t : Int) - (i : Int)) = (t : Int) - (i : Int) := by rw [IntKind.wrap_u64]; omega
                    have hw2 : ((t : Int) - (i : Int)).tmod ev = ((t : Int) - (i : Int)) % ev := Int.tmod_eq_emod_of_nonneg (by omega)
                    have HNX := Aside0.mk (show aheadOf (t : Int) ev la D ls (i + 1) = k by rw [ahead_succ HDL.out i hi6, HKA.out, hkb]; first | done | rfl)
                    have HAN2 := Aside0.mk (HAN.out.keep ci2 (fun h => by cases h))
                    clear hkb hgi hrem cn
                    go_wp2
                    go_roundg gk1
                    case measure => omega
                    case rel => exact ⟨i + 1, Di, congrArg (Value.int .i64) (by rw [HNX.out] <;> first | rfl | exact hwk | omega), congrArg (Value.int .u64) (by omega), ⟨by have := HKI.out; omega⟩, ⟨by omega⟩, HAN2, HRA, HP, HB⟩
                · clear hd
                  by_cases cn : aheadOf (t : Int) ev la D ls i < na
                  · have hkl : aheadOf (t : Int) ev la D ls i < T.asks.length := by rw [HNA.out]; exact cn
                    have hnx := T_next HDL.out mn i ci2 HM6.out HTT.out hkl
                    rw [hkb] at hnx
                    obtain ⟨k, hk⟩ : ∃ k, aheadOf (t : Int) ev la D ls i = k := ⟨_, rfl⟩
                    rw [hk] at hkl
                    have hnx2 : (T.asks[k].1 == (i : Int)) = false := by simpa only [hk] using hnx
                    obtain ⟨ad, e7, hy0, hy1⟩ := at_A (R_C HRA.out) k (by rw [← HNA.out]; exact hkl)
                    cases e7
                    have hrd : rdA T.asks k = T.asks[k] := by unfold rdA; rw [List.getD_eq_getElem?_getD, List.getElem?_eq_getElem hkl]; rfl
                    rw [hrd] at hy0
                    obtain ⟨q, hq⟩ : ∃ q, T.asks[k].1 = q := ⟨_, rfl⟩
                    rw [hq] at hy0 hnx2
                    have pk : 0 ≤ (k : Int) := by omega
                    have pk2 : (k : Int) < (na : Int) := by rw [← HNA.out]; omega
                    have bk : decide ((k : Int) < (na : Int)) = true := decide_eq_true pk2
                    have HKA := Aside0.mk hk
                    have hwk : wrap64 ((k : Int) + 1) = ((k + 1 : Nat) : Int) := by have := HNA6.out; unfold wrap64; omega
                    clear hrd hq hnx hkl hy1
                    rw [hk]
                    clear hk
                    have hge : decide ((i : Int) ≤ (t : Int)) = false := decide_eq_false hgi
                    have hgn : ¬ i ≤ t := by omega
                    have hgd : decide (i ≤ t) = false := decide_eq_false hgn
                    have HNX := Aside0.mk (show aheadOf (t : Int) ev la D ls (i + 1) = k by rw [ahead_succ HDL.out i hi6, HKA.out, hkb]; first | done | rfl)
                    have HAN2 := Aside0.mk (HAN.out.keep ci2 (fun h => by cases h))
                    clear hkb hgi cn
                    go_wp2
                    go_roundg gk1
                    case measure => omega
                    case rel => exact ⟨i + 1, Di, congrArg (Value.int .i64) (by rw [HNX.out] <;> first | rfl | exact hwk | omega), congrArg (Value.int .u64) (by omega), ⟨by have := HKI.out; omega⟩, ⟨by omega⟩, HAN2, HRA, HP, HB⟩
                  · obtain ⟨k, hk⟩ : ∃ k, aheadOf (t : Int) ev la D ls i = k := ⟨_, rfl⟩
                    have HKA := Aside0.mk hk
                    have bkp : ¬ k < na := by rw [← hk]; exact cn
                    have bk : decide ((k : Int) < (na : Int)) = false := decide_eq_false (by omega)
                    have bkn : decide (k < na) = false := decide_eq_false bkp
                    rw [hk]
                    clear hk
                    have hge : decide ((i : Int) ≤ (t : Int)) = false := decide_eq_false hgi
                    have hgn : ¬ i ≤ t := by omega
                    have hgd : decide (i ≤ t) = false := decide_eq_false hgn
                    have HNX := Aside0.mk (show aheadOf (t : Int) ev la D ls (i + 1) = k by rw [ahead_succ HDL.out i hi6, HKA.out, hkb]; first | done | rfl)
                    have HAN2 := Aside0.mk (HAN.out.keep ci2 (fun h => by cases h))
                    clear hkb hgi cn
                    go_wp2
                    go_roundg gk1
                    case measure => omega
                    case rel => exact ⟨i + 1, Di, congrArg (Value.int .i64) (by rw [HNX.out] <;> first | rfl | exact hwk | omega), congrArg (Value.int .u64) (by omega), ⟨by have := HKI.out; omega⟩, ⟨by omega⟩, HAN2, HRA, HP, HB⟩
          · have cib : decide ((i : Int) < (mn : Int)) = false := decide_eq_false (by omega)
            have him : i = mn := by have := HIL.out; omega
            have hna2 : aheadOf (t : Int) ev la D ls i = na := by rw [him, HAE.out, HNA.out]
            rw [hna2]
            have bnn : ((na : Int) != (na : Int)) = false := by simp
            have HAL2 := Aside0.mk (show All mn ev la false ((t + 1 : Nat) : Int) T.ls Di by
              have h := HAN.out
              unfold Ans at h
              rw [him] at h
              have h2 := HNX0.out Di h.1 h.2.1 h.2.2.1 (fun j hj => by rw [h.2.2.2 j hj]; simp [hj])
              rw [HTS.out]
              exact h2)
            have hwt : IntKind.u64.wrap ((t : Int) + 1) = ((t + 1 : Nat) : Int) := HT1.out
            clear hna2 him
            go_wp2
            go_roundg gk0
            case measure => omega
            case rel => exact ⟨t + 1, T.ls, Di, congrArg (Value.int .u64) (by omega), ⟨by have := HK.out; omega⟩, ⟨by omega⟩, HAL2, HP, HB⟩
      · have cb : decide ((t : Int) < 100) = false := decide_eq_false (by omega)
        go_wp2
        go_ret
        exact ⟨rfl, HB.out⟩

set_option maxHeartbeats 8000000 in
set_option maxRecDepth 100000 in
theorem ProbeAll_calls (n ev la : Int) (ans : Bool) (w : World) : Calls Try.prog 8 #[.int .i64 n, .int .u64 ev, .int .u64 la, .bool ans] w fun e w' => e = .returned (.bool true) ∧ Below w.heap.size w w' := by
  by_cases hok : okNew n ev la
  · obtain ⟨mn, rfl⟩ : ∃ m : Nat, n = (m : Int) := ⟨n.toNat, by unfold okNew at hok; omega⟩
    by_cases he : ev ≤ 20
    · by_cases hl : la ≤ 20
      · exact ProbeAll_ans mn ev la ans w hok he hl
      · have HB := Aside0.mk (Below.refl w.heap.size w)
        have b20 : decide (20 < ev) = false := decide_eq_false (by omega)
        have b21 : decide (20 < la) = true := decide_eq_true (by omega)
        clear he hl
        go_enter Try.func8, Try.ntmps8
        go_wp2_with (first | (go_at_call 25; with_reducible refine (awake_calls _).mono ?_; rintro e w' ⟨rfl, hb⟩; have HB_ := Aside0.mk (below_step HB.out hb); clear hb HB; have HB := HB_; clear HB_) | (go_at_call 27; with_reducible refine (New_ok mn ev la _ hok).mono ?_; rintro e w' ⟨g, rfl, hI, hg, hb⟩; have HP := Aside0.mk hI; have HG := Aside0.mk (Nat.le_trans HB.out.size hg); have HB_ := Aside0.mk (below_step HB.out hb); clear hI hg hb HB; have HB := HB_; clear HB_))
        go_ret
        exact ⟨rfl, HB.out⟩
    · have HB := Aside0.mk (Below.refl w.heap.size w)
      have b20 : decide (20 < ev) = true := decide_eq_true (by omega)
      clear he
      go_enter Try.func8, Try.ntmps8
      go_wp2_with (first | (go_at_call 25; with_reducible refine (awake_calls _).mono ?_; rintro e w' ⟨rfl, hb⟩; have HB_ := Aside0.mk (below_step HB.out hb); clear hb HB; have HB := HB_; clear HB_) | (go_at_call 27; with_reducible refine (New_ok mn ev la _ hok).mono ?_; rintro e w' ⟨g, rfl, hI, hg, hb⟩; have HP := Aside0.mk hI; have HG := Aside0.mk (Nat.le_trans HB.out.size hg); have HB_ := Aside0.mk (below_step HB.out hb); clear hI hg hb HB; have HB := HB_; clear HB_))
      go_ret
      exact ⟨rfl, HB.out⟩
  · have HB := Aside0.mk (Below.refl w.heap.size w)
    go_enter Try.func8, Try.ntmps8
    go_wp2_with (first | (go_at_call 25; with_reducible refine (awake_calls _).mono ?_; rintro e w' ⟨rfl, hb⟩; have HB_ := Aside0.mk (below_step HB.out hb); clear hb HB; have HB := HB_; clear HB_) | (go_at_call 27; with_reducible refine (New_bad n ev la _ hok).mono ?_; rintro e w' ⟨rfl, rfl⟩))
    go_ret
    exact ⟨rfl, HB.out⟩
end Go.Proofs.Ytagmefjpnmjcjaa.Pr
