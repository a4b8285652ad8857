-- By a program of this session (wip/pp: a turned copy of the kit's print) out of the translation; Lean checks it.
import Derived.Test.YtagmefjpnmjcjaaHex0
import Derived.Test.YtagmefjpnmjcjaaHex1
import Derived.Test.YtagmefjpnmjcjaaHex3
namespace Go.Proofs.Ytagmefjpnmjcjaa.He
open Go.RowKit Go.Proofs.YtagmefjpnmjcjaaW.PrintWords Go.Proofs.YtagmefjpnmjcjaaW.PrintLast Go.Proofs.YtagmefjpnmjcjaaW.PrintMore
attribute [local go_sem] max2_int min2_int max_two min_two max_three min_three max_four min_four   -- for this text's walks alone
set_option linter.unusedVariables false
set_option linter.unusedSimpArgs false

attribute [local go_sem high] eqA26
/-! ### signalmanlaw12_HealthPasses: function 4 -/
mutual
def signalmanlaw12_HealthPasses.j0 : Nat → List (S28) → List Int → Bool → Int → Int → Int → Option (Bool)
  | 0, _, _, _, _, _, _ => none
  | k + 1, x1, x2, x37, x146000, x146001, x146002 => if x37 = true then (some true) else (signalmanlaw12_HealthPasses.l0 k x2 x1 (x1.length : Int) 0 x146000 x146001 x146002 1 0)
def signalmanlaw12_HealthPasses.l0 : Nat → List Int → List (S28) → Int → Int → Int → Int → Int → Int → Int → Option (Bool)
  | 0, _, _, _, _, _, _, _, _, _ => none
  | k + 1, x2, x39, x40, x41, x146000, x146001, x146002, x149000, x149001 => if x41 < x40 then (if 0 ≤ x41 then (if x41 < (x39.length : Int) then ((health_Step.f k x146000 x146001 x146002 x149000 x149001 ((rd_T28 x39 x41).f0) ((rd_T28 x39 x41).f1)).bind fun bt151 => (if bt151.1 < 1 then (some false) else (if bt151.1 > 3 then (some false) else (if bt151.2 < 0 then (some false) else (if bt151.2 ≥ (mx x146000 x146001) then (some false) else (signalmanlaw12_HealthPasses.l0 k x2 x39 x40 (wrap64 (x41 + 1)) x146000 x146001 x146002 bt151.1 bt151.2)))))) else (none)) else (none)) else (signalmanlaw12_HealthPasses.l1 k x2 x146001 0 x146000 x146001 x146002 x149000 x149001 x149000 x149001)
def signalmanlaw12_HealthPasses.l1 : Nat → List Int → Int → Int → Int → Int → Int → Int → Int → Int → Int → Option (Bool)
  | 0, _, _, _, _, _, _, _, _, _, _ => none
  | k + 1, x2, x75, x76, x146000, x146001, x146002, x149000, x149001, x154000, x154001 => if x76 < x75 then (if x76 < (x2.length : Int) then (if 0 ≤ x76 then (signalmanlaw12_HealthPasses.j3 k x2 (mn (rd x2 x76) x146002) x75 x76 x146000 x146001 x146002 x149000 x149001 x154000 x154001) else (none)) else (signalmanlaw12_HealthPasses.j3 k x2 0 x75 x76 x146000 x146001 x146002 x149000 x149001 x154000 x154001)) else ((health_Serves.f x149000 x149001).bind fun t160 => (if t160 = true then (signalmanlaw12_HealthPasses.l2 k x146000 0 x146000 x146001 x146002 x149000 x149001) else (some false)))
def signalmanlaw12_HealthPasses.j3 : Nat → List Int → Int → Int → Int → Int → Int → Int → Int → Int → Int → Int → Option (Bool)
  | 0, _, _, _, _, _, _, _, _, _, _, _ => none
  | k + 1, x2, x12, x75, x76, x146000, x146001, x146002, x149000, x149001, x154000, x154001 => if x154000 = 2 then ((health_Serves.f x149000 x149001).bind fun t155 => (if t155 = true then (some false) else ((health_Step.f k x146000 x146001 x146002 x149000 x149001 true x12).bind fun bt156 => (signalmanlaw12_HealthPasses.l1 k x2 x75 (wrap64 (x76 + 1)) x146000 x146001 x146002 bt156.1 bt156.2 x154000 x154001)))) else ((health_Step.f k x146000 x146001 x146002 x149000 x149001 true x12).bind fun bt158 => (signalmanlaw12_HealthPasses.l1 k x2 x75 (wrap64 (x76 + 1)) x146000 x146001 x146002 bt158.1 bt158.2 x154000 x154001))
def signalmanlaw12_HealthPasses.l2 : Nat → Int → Int → Int → Int → Int → Int → Int → Option (Bool)
  | 0, _, _, _, _, _, _, _ => none
  | k + 1, x107, x108, x146000, x146001, x146002, x149000, x149001 => if x108 < x107 then ((health_Serves.f x149000 x149001).bind fun t161 => (if t161 = true then ((health_Step.f k x146000 x146001 x146002 x149000 x149001 false 0).bind fun bt162 => (signalmanlaw12_HealthPasses.l2 k x107 (wrap64 (x108 + 1)) x146000 x146001 x146002 bt162.1 bt162.2)) else (some false))) else (some (x149000 == 2 && (x149001 == 0)))
end
def signalmanlaw12_HealthPasses.f (k : Nat) (a0_0 : Int) (a0_1 : Int) (a0_2 : Int) (l1 : List (S28)) (l2 : List Int) : Option (Bool) := (signalmanlaw12_awake.f k).bind fun _ => ((signalmanref12_Right.f a0_0 a0_1 a0_2).bind fun t147 => (if t147 = true then (if (l1.length : Int) > 300 then (signalmanlaw12_HealthPasses.j0 k l1 l2 true a0_0 a0_1 a0_2) else (if (l2.length : Int) > 300 then (signalmanlaw12_HealthPasses.j0 k l1 l2 true a0_0 a0_1 a0_2) else (if a0_1 > 300 then (signalmanlaw12_HealthPasses.j0 k l1 l2 true a0_0 a0_1 a0_2) else (signalmanlaw12_HealthPasses.j0 k l1 l2 (decide (a0_0 > 300)) a0_0 a0_1 a0_2)))) else (signalmanlaw12_HealthPasses.j0 k l1 l2 true a0_0 a0_1 a0_2)))
theorem signalmanlaw12_HealthPasses.mono_l : ∀ k, (∀ y0 y1 y2 y3 y4 y5, LeO (signalmanlaw12_HealthPasses.j0 k y0 y1 y2 y3 y4 y5) (signalmanlaw12_HealthPasses.j0 (k + 1) y0 y1 y2 y3 y4 y5)) ∧ (∀ y0 y1 y2 y3 y4 y5 y6 y7 y8, LeO (signalmanlaw12_HealthPasses.l0 k y0 y1 y2 y3 y4 y5 y6 y7 y8) (signalmanlaw12_HealthPasses.l0 (k + 1) y0 y1 y2 y3 y4 y5 y6 y7 y8)) ∧ (∀ y0 y1 y2 y3 y4 y5 y6 y7 y8 y9, LeO (signalmanlaw12_HealthPasses.l1 k y0 y1 y2 y3 y4 y5 y6 y7 y8 y9) (signalmanlaw12_HealthPasses.l1 (k + 1) y0 y1 y2 y3 y4 y5 y6 y7 y8 y9)) ∧ (∀ y0 y1 y2 y3 y4 y5 y6 y7 y8 y9 y10, LeO (signalmanlaw12_HealthPasses.j3 k y0 y1 y2 y3 y4 y5 y6 y7 y8 y9 y10) (signalmanlaw12_HealthPasses.j3 (k + 1) y0 y1 y2 y3 y4 y5 y6 y7 y8 y9 y10)) ∧ (∀ y0 y1 y2 y3 y4 y5 y6, LeO (signalmanlaw12_HealthPasses.l2 k y0 y1 y2 y3 y4 y5 y6) (signalmanlaw12_HealthPasses.l2 (k + 1) y0 y1 y2 y3 y4 y5 y6))
  | 0 => ⟨fun _ _ _ _ _ _ r h => by simp [signalmanlaw12_HealthPasses.j0] at h, fun _ _ _ _ _ _ _ _ _ r h => by simp [signalmanlaw12_HealthPasses.l0] at h, fun _ _ _ _ _ _ _ _ _ _ r h => by simp [signalmanlaw12_HealthPasses.l1] at h, fun _ _ _ _ _ _ _ _ _ _ _ r h => by simp [signalmanlaw12_HealthPasses.j3] at h, fun _ _ _ _ _ _ _ r h => by simp [signalmanlaw12_HealthPasses.l2] at h⟩
  | k + 1 => by
    obtain ⟨ih0, ih1, ih2, ih3, ih4⟩ := signalmanlaw12_HealthPasses.mono_l k
    refine ⟨?_, ?_, ?_, ?_, ?_⟩
    · intro y0 y1 y2 y3 y4 y5
      unfold signalmanlaw12_HealthPasses.j0
      repeat' first
      | (with_reducible exact ih0 _ _ _ _ _ _)
      | (with_reducible exact ih1 _ _ _ _ _ _ _ _ _)
      | (with_reducible exact ih2 _ _ _ _ _ _ _ _ _ _)
      | (with_reducible exact ih3 _ _ _ _ _ _ _ _ _ _ _)
      | (with_reducible exact ih4 _ _ _ _ _ _ _)
      | (with_reducible exact health_Step.mono _ _ _ _ _ _ _ _)
      | (with_reducible exact signalmanlaw12_awake.mono _)
      | (with_reducible exact LeO.refl _)
      | (with_reducible exact LeO.none _)
      | (with_reducible refine LeO.ite ?_ ?_)
      | (with_reducible refine LeO.bind ?_ (fun _ => ?_))
      | exact ih0 _ _ _ _ _ _
      | exact ih1 _ _ _ _ _ _ _ _ _
      | exact ih2 _ _ _ _ _ _ _ _ _ _
      | exact ih3 _ _ _ _ _ _ _ _ _ _ _
      | exact ih4 _ _ _ _ _ _ _
      | exact health_Step.mono _ _ _ _ _ _ _ _
      | exact signalmanlaw12_awake.mono _
      | exact LeO.none _
      | refine LeO.ite ?_ ?_
      | refine LeO.bind ?_ (fun _ => ?_)
    · intro y0 y1 y2 y3 y4 y5 y6 y7 y8
      unfold signalmanlaw12_HealthPasses.l0
      repeat' first
      | (with_reducible exact ih0 _ _ _ _ _ _)
      | (with_reducible exact ih1 _ _ _ _ _ _ _ _ _)
      | (with_reducible exact ih2 _ _ _ _ _ _ _ _ _ _)
      | (with_reducible exact ih3 _ _ _ _ _ _ _ _ _ _ _)
      | (with_reducible exact ih4 _ _ _ _ _ _ _)
      | (with_reducible exact health_Step.mono _ _ _ _ _ _ _ _)
      | (with_reducible exact signalmanlaw12_awake.mono _)
      | (with_reducible exact LeO.refl _)
      | (with_reducible exact LeO.none _)
      | (with_reducible refine LeO.ite ?_ ?_)
      | (with_reducible refine LeO.bind ?_ (fun _ => ?_))
      | exact ih0 _ _ _ _ _ _
      | exact ih1 _ _ _ _ _ _ _ _ _
      | exact ih2 _ _ _ _ _ _ _ _ _ _
      | exact ih3 _ _ _ _ _ _ _ _ _ _ _
      | exact ih4 _ _ _ _ _ _ _
      | exact health_Step.mono _ _ _ _ _ _ _ _
      | exact signalmanlaw12_awake.mono _
      | exact LeO.none _
      | refine LeO.ite ?_ ?_
      | refine LeO.bind ?_ (fun _ => ?_)
    · intro y0 y1 y2 y3 y4 y5 y6 y7 y8 y9
      unfold signalmanlaw12_HealthPasses.l1
      repeat' first
      | (with_reducible exact ih0 _ _ _ _ _ _)
      | (with_reducible exact ih1 _ _ _ _ _ _ _ _ _)
      | (with_reducible exact ih2 _ _ _ _ _ _ _ _ _ _)
      | (with_reducible exact ih3 _ _ _ _ _ _ _ _ _ _ _)
      | (with_reducible exact ih4 _ _ _ _ _ _ _)
      | (with_reducible exact health_Step.mono _ _ _ _ _ _ _ _)
      | (with_reducible exact signalmanlaw12_awake.mono _)
      | (with_reducible exact LeO.refl _)
      | (with_reducible exact LeO.none _)
      | (with_reducible refine LeO.ite ?_ ?_)
      | (with_reducible refine LeO.bind ?_ (fun _ => ?_))
      | exact ih0 _ _ _ _ _ _
      | exact ih1 _ _ _ _ _ _ _ _ _
      | exact ih2 _ _ _ _ _ _ _ _ _ _
      | exact ih3 _ _ _ _ _ _ _ _ _ _ _
      | exact ih4 _ _ _ _ _ _ _
      | exact health_Step.mono _ _ _ _ _ _ _ _
      | exact signalmanlaw12_awake.mono _
      | exact LeO.none _
      | refine LeO.ite ?_ ?_
      | refine LeO.bind ?_ (fun _ => ?_)
    · intro y0 y1 y2 y3 y4 y5 y6 y7 y8 y9 y10
      unfold signalmanlaw12_HealthPasses.j3
      repeat' first
      | (with_reducible exact ih0 _ _ _ _ _ _)
      | (with_reducible exact ih1 _ _ _ _ _ _ _ _ _)
      | (with_reducible exact ih2 _ _ _ _ _ _ _ _ _ _)
      | (with_reducible exact ih3 _ _ _ _ _ _ _ _ _ _ _)
      | (with_reducible exact ih4 _ _ _ _ _ _ _)
      | (with_reducible exact health_Step.mono _ _ _ _ _ _ _ _)
      | (with_reducible exact signalmanlaw12_awake.mono _)
      | (with_reducible exact LeO.refl _)
      | (with_reducible exact LeO.none _)
      | (with_reducible refine LeO.ite ?_ ?_)
      | (with_reducible refine LeO.bind ?_ (fun _ => ?_))
      | exact ih0 _ _ _ _ _ _
      | exact ih1 _ _ _ _ _ _ _ _ _
      | exact ih2 _ _ _ _ _ _ _ _ _ _
      | exact ih3 _ _ _ _ _ _ _ _ _ _ _
      | exact ih4 _ _ _ _ _ _ _
      | exact health_Step.mono _ _ _ _ _ _ _ _
      | exact signalmanlaw12_awake.mono _
      | exact LeO.none _
      | refine LeO.ite ?_ ?_
      | refine LeO.bind ?_ (fun _ => ?_)
    · intro y0 y1 y2 y3 y4 y5 y6
      unfold signalmanlaw12_HealthPasses.l2
      repeat' first
      | (with_reducible exact ih0 _ _ _ _ _ _)
      | (with_reducible exact ih1 _ _ _ _ _ _ _ _ _)
      | (with_reducible exact ih2 _ _ _ _ _ _ _ _ _ _)
      | (with_reducible exact ih3 _ _ _ _ _ _ _ _ _ _ _)
      | (with_reducible exact ih4 _ _ _ _ _ _ _)
      | (with_reducible exact health_Step.mono _ _ _ _ _ _ _ _)
      | (with_reducible exact signalmanlaw12_awake.mono _)
      | (with_reducible exact LeO.refl _)
      | (with_reducible exact LeO.none _)
      | (with_reducible refine LeO.ite ?_ ?_)
      | (with_reducible refine LeO.bind ?_ (fun _ => ?_))
      | exact ih0 _ _ _ _ _ _
      | exact ih1 _ _ _ _ _ _ _ _ _
      | exact ih2 _ _ _ _ _ _ _ _ _ _
      | exact ih3 _ _ _ _ _ _ _ _ _ _ _
      | exact ih4 _ _ _ _ _ _ _
      | exact health_Step.mono _ _ _ _ _ _ _ _
      | exact signalmanlaw12_awake.mono _
      | exact LeO.none _
      | refine LeO.ite ?_ ?_
      | refine LeO.bind ?_ (fun _ => ?_)
theorem signalmanlaw12_HealthPasses.mono : ∀ a0 a1 a2 a3 a4 k, LeO (signalmanlaw12_HealthPasses.f k a0 a1 a2 a3 a4) (signalmanlaw12_HealthPasses.f (k + 1) a0 a1 a2 a3 a4) := by
  intro a0 a1 a2 a3 a4 k
  obtain ⟨ih0, ih1, ih2, ih3, ih4⟩ := signalmanlaw12_HealthPasses.mono_l k
  unfold signalmanlaw12_HealthPasses.f
  repeat' first
      | (with_reducible exact ih0 _ _ _ _ _ _)
      | (with_reducible exact ih1 _ _ _ _ _ _ _ _ _)
      | (with_reducible exact ih2 _ _ _ _ _ _ _ _ _ _)
      | (with_reducible exact ih3 _ _ _ _ _ _ _ _ _ _ _)
      | (with_reducible exact ih4 _ _ _ _ _ _ _)
      | (with_reducible exact health_Step.mono _ _ _ _ _ _ _ _)
      | (with_reducible exact signalmanlaw12_awake.mono _)
      | (with_reducible exact LeO.refl _)
      | (with_reducible exact LeO.none _)
      | (with_reducible refine LeO.ite ?_ ?_)
      | (with_reducible refine LeO.bind ?_ (fun _ => ?_))
      | exact ih0 _ _ _ _ _ _
      | exact ih1 _ _ _ _ _ _ _ _ _
      | exact ih2 _ _ _ _ _ _ _ _ _ _
      | exact ih3 _ _ _ _ _ _ _ _ _ _ _
      | exact ih4 _ _ _ _ _ _ _
      | exact health_Step.mono _ _ _ _ _ _ _ _
      | exact signalmanlaw12_awake.mono _
      | exact LeO.none _
      | refine LeO.ite ?_ ?_
      | refine LeO.bind ?_ (fun _ => ?_)
set_option maxHeartbeats 8000000 in
set_option maxRecDepth 100000 in
theorem signalmanlaw12_HealthPasses.calls (k : Nat) (a0_0 : Int) (a0_1 : Int) (a0_2 : Int) (A1 : Option Addr) (c1 : Nat) (l1 : List (S28)) (A2 : Option Addr) (c2 : Nat) (l2 : List Int) (r : Bool) (w : World) (hr1 : Kd.C k28 w A1 l1.length l1) (hc1 : l1.length ≤ c1) (hr2 : Kd.C (Kd.int .u64) w A2 l2.length l2) (hc2 : l2.length ≤ c2) (h : signalmanlaw12_HealthPasses.f k a0_0 a0_1 a0_2 l1 l2 = some r) :
    Calls Try.prog 4 #[.agg #[.int .i64 a0_0, .int .i64 a0_1, .int .u64 a0_2], .slice A1 l1.length c1, .slice A2 l2.length c2] w fun e w' => e = .returned (.bool r) ∧ Below w.heap.size w w' := by
  have hu24 := Try.underlying24
  have hu26 := Try.underlying26
  have hu28 := Try.underlying28
  have HR1 := Aside0.mk hr1
  have HC1 := Aside0.mk hc1
  clear hr1 hc1
  have HR2 := Aside0.mk hr2
  have HC2 := Aside0.mk hc2
  clear hr2 hc2
  have HB := Aside0.mk (Below.refl w.heap.size w)
  have H : ((signalmanlaw12_awake.f k).bind fun _ => ((signalmanref12_Right.f a0_0 a0_1 a0_2).bind fun t147 => (if t147 = true then (if (l1.length : Int) > 300 then (signalmanlaw12_HealthPasses.j0 k l1 l2 true a0_0 a0_1 a0_2) else (if (l2.length : Int) > 300 then (signalmanlaw12_HealthPasses.j0 k l1 l2 true a0_0 a0_1 a0_2) else (if a0_1 > 300 then (signalmanlaw12_HealthPasses.j0 k l1 l2 true a0_0 a0_1 a0_2) else (signalmanlaw12_HealthPasses.j0 k l1 l2 (decide (a0_0 > 300)) a0_0 a0_1 a0_2)))) else (signalmanlaw12_HealthPasses.j0 k l1 l2 true a0_0 a0_1 a0_2)))) = some r := h
  clear h
  replace H := Option.bind_eq_some_iff.mp H
  obtain ⟨z_, A40, H⟩ := H
  replace H : ((signalmanref12_Right.f a0_0 a0_1 a0_2).bind fun t147 => (if t147 = true then (if (l1.length : Int) > 300 then (signalmanlaw12_HealthPasses.j0 k l1 l2 true a0_0 a0_1 a0_2) else (if (l2.length : Int) > 300 then (signalmanlaw12_HealthPasses.j0 k l1 l2 true a0_0 a0_1 a0_2) else (if a0_1 > 300 then (signalmanlaw12_HealthPasses.j0 k l1 l2 true a0_0 a0_1 a0_2) else (signalmanlaw12_HealthPasses.j0 k l1 l2 (decide (a0_0 > 300)) a0_0 a0_1 a0_2)))) else (signalmanlaw12_HealthPasses.j0 k l1 l2 true a0_0 a0_1 a0_2))) = some r := H
  have A4 := Aside0.mk (show signalmanlaw12_awake.f k  = some true from fold_ (g := fun k_ => signalmanlaw12_awake.f k_ ) (fun k_ => signalmanlaw12_awake.mono  k_) (k' := 40) (by kernel_rfl) A40)
  clear A40
  have HC5 := Aside0.mk H
  clear H
  go_enter Try.func4, Try.ntmps4
  go_upto_region 3 with (first | ((with_reducible refine gate_dst (N := 3) rfl ?_); (try (refine gate_guard (by rfl) ?_; dsimp only)); refine box_event ?hg (N := 3) ?hd (cs := #[.int .i64 a0_0, .int .i64 a0_1, .int .u64 a0_2]) (t := 24) ?hr ?_; (case hd => rfl); (case hg => rfl); (case hr => first | (go_simp; done) | (go_simp; rfl)); intro gb145 hg w6 hbox hb; have n0_ := Aside0.mk (below_step (by repeat (first | (with_reducible first | exact HB.out | apply below_alloc | apply pw_below_drewN | apply below_drew1) | exact HB.out)) hb); have n1_ := Aside0.mk (hbox); have n2_ := Aside0.mk ((by rw [hg]; exact (below_size (by repeat (first | (with_reducible first | exact HB.out | apply below_alloc | apply pw_below_drewN | apply below_drew1) | exact HB.out))) : w.heap.size ≤ gb145)); have n3_ := Aside0.mk ((by rw [hg]; exact (below_size (by repeat (first | (with_reducible first | exact HB.out | apply below_alloc | apply pw_below_drewN | apply below_drew1) | exact HB.out))) : w.heap.size ≤ gb145)); clear HB; have HB := n0_; have BK145 := n1_; have GW145 := n2_; have GE145 := n3_; clear n0_ n1_ n2_ n3_; clear hb hbox hg) | (go_at_call 15; (with_reducible refine (signalmanlaw12_awake.calls k  true _ A4.out).mono ?_); rintro e w7 ⟨rfl, hb⟩; have n0_ := Aside0.mk (blk_below (g := gb145) (o := .cells #[.int .i64 a0_0, .int .i64 a0_1, .int .u64 a0_2] 24 (0, 0)) (by (with_reducible repeat (first | refine blk_drewN ?_ _ | refine blk_drew ?_ | refine blk_alloc ?_ _)); exact BK145.out) hb); have n1_ := Aside0.mk (below_step (by repeat (first | (with_reducible first | exact HB.out | apply below_alloc | apply pw_below_drewN | apply below_drew1 | refine below_set ?_ GE145.out) | exact HB.out)) hb); clear BK145; clear HB; have BK145 := n0_; have HB := n1_; clear n0_ n1_; (try clear hb); (try clear hb2); (try clear hk); (try clear hi)))
  repeat (go_quiet (first | ((with_reducible refine gate_dst (N := 3) rfl ?_); (try (refine gate_guard (by rfl) ?_; dsimp only)); refine box_event ?hg (N := 3) ?hd (cs := #[.int .i64 a0_0, .int .i64 a0_1, .int .u64 a0_2]) (t := 24) ?hr ?_; (case hd => rfl); (case hg => rfl); (case hr => first | (go_simp; done) | (go_simp; rfl)); intro gb145 hg w6 hbox hb; have n0_ := Aside0.mk (below_step (by repeat (first | (with_reducible first | exact HB.out | apply below_alloc | apply pw_below_drewN | apply below_drew1) | exact HB.out)) hb); have n1_ := Aside0.mk (hbox); have n2_ := Aside0.mk ((by rw [hg]; exact (below_size (by repeat (first | (with_reducible first | exact HB.out | apply below_alloc | apply pw_below_drewN | apply below_drew1) | exact HB.out))) : w.heap.size ≤ gb145)); have n3_ := Aside0.mk ((by rw [hg]; exact (below_size (by repeat (first | (with_reducible first | exact HB.out | apply below_alloc | apply pw_below_drewN | apply below_drew1) | exact HB.out))) : w.heap.size ≤ gb145)); clear HB; have HB := n0_; have BK145 := n1_; have GW145 := n2_; have GE145 := n3_; clear n0_ n1_ n2_ n3_; clear hb hbox hg) | (go_at_call 15; (with_reducible refine (signalmanlaw12_awake.calls k  true _ A4.out).mono ?_); rintro e w7 ⟨rfl, hb⟩; have n0_ := Aside0.mk (blk_below (g := gb145) (o := .cells #[.int .i64 a0_0, .int .i64 a0_1, .int .u64 a0_2] 24 (0, 0)) (by (with_reducible repeat (first | refine blk_drewN ?_ _ | refine blk_drew ?_ | refine blk_alloc ?_ _)); exact BK145.out) hb); have n1_ := Aside0.mk (below_step (by repeat (first | (with_reducible first | exact HB.out | apply below_alloc | apply pw_below_drewN | apply below_drew1 | refine below_set ?_ GE145.out) | exact HB.out)) hb); clear BK145; clear HB; have BK145 := n0_; have HB := n1_; clear n0_ n1_; (try clear hb); (try clear hb2); (try clear hk); (try clear hi))); go_upto_region 3 with (first | ((with_reducible refine gate_dst (N := 3) rfl ?_); (try (refine gate_guard (by rfl) ?_; dsimp only)); refine box_event ?hg (N := 3) ?hd (cs := #[.int .i64 a0_0, .int .i64 a0_1, .int .u64 a0_2]) (t := 24) ?hr ?_; (case hd => rfl); (case hg => rfl); (case hr => first | (go_simp; done) | (go_simp; rfl)); intro gb145 hg w6 hbox hb; have n0_ := Aside0.mk (below_step (by repeat (first | (with_reducible first | exact HB.out | apply below_alloc | apply pw_below_drewN | apply below_drew1) | exact HB.out)) hb); have n1_ := Aside0.mk (hbox); have n2_ := Aside0.mk ((by rw [hg]; exact (below_size (by repeat (first | (with_reducible first | exact HB.out | apply below_alloc | apply pw_below_drewN | apply below_drew1) | exact HB.out))) : w.heap.size ≤ gb145)); have n3_ := Aside0.mk ((by rw [hg]; exact (below_size (by repeat (first | (with_reducible first | exact HB.out | apply below_alloc | apply pw_below_drewN | apply below_drew1) | exact HB.out))) : w.heap.size ≤ gb145)); clear HB; have HB := n0_; have BK145 := n1_; have GW145 := n2_; have GE145 := n3_; clear n0_ n1_ n2_ n3_; clear hb hbox hg) | (go_at_call 15; (with_reducible refine (signalmanlaw12_awake.calls k  true _ A4.out).mono ?_); rintro e w7 ⟨rfl, hb⟩; have n0_ := Aside0.mk (blk_below (g := gb145) (o := .cells #[.int .i64 a0_0, .int .i64 a0_1, .int .u64 a0_2] 24 (0, 0)) (by (with_reducible repeat (first | refine blk_drewN ?_ _ | refine blk_drew ?_ | refine blk_alloc ?_ _)); exact BK145.out) hb); have n1_ := Aside0.mk (below_step (by repeat (first | (with_reducible first | exact HB.out | apply below_alloc | apply pw_below_drewN | apply below_drew1 | refine below_set ?_ GE145.out) | exact HB.out)) hb); clear BK145; clear HB; have BK145 := n0_; have HB := n1_; clear n0_ n1_; (try clear hb); (try clear hb2); (try clear hk); (try clear hi))))
  (try simp only [Act.put, List.setIfInBounds_toArray, List.set_cons_zero, List.set_cons_succ])
  go_cut [37] (fun v37 wc => ∃ (kq : Nat) (x37_4 : Bool), v37 = .bool x37_4 ∧ Aside0 (signalmanlaw12_HealthPasses.j0 kq l1 l2 x37_4 a0_0 a0_1 a0_2 = some r) ∧ Aside0 (kq ≤ k) ∧ Aside0 (wc.heap[gb145]? = some (.cells #[.int .i64 a0_0, .int .i64 a0_1, .int .u64 a0_2] 24 (0, 0))) ∧ Aside0 (Below w.heap.size w wc))
  case first =>
   have H := HC5.out
   clear HC5
   replace H := Option.bind_eq_some_iff.mp H
   obtain ⟨t147, A80, H⟩ := H
   replace H : (if t147 = true then (if (l1.length : Int) > 300 then (signalmanlaw12_HealthPasses.j0 k l1 l2 true a0_0 a0_1 a0_2) else (if (l2.length : Int) > 300 then (signalmanlaw12_HealthPasses.j0 k l1 l2 true a0_0 a0_1 a0_2) else (if a0_1 > 300 then (signalmanlaw12_HealthPasses.j0 k l1 l2 true a0_0 a0_1 a0_2) else (signalmanlaw12_HealthPasses.j0 k l1 l2 (decide (a0_0 > 300)) a0_0 a0_1 a0_2)))) else (signalmanlaw12_HealthPasses.j0 k l1 l2 true a0_0 a0_1 a0_2)) = some r := H
   have A8 := Aside0.mk A80
   clear A80
   by_cases c9 : t147 = true
   ·subst c9
    have H1 : (if (l1.length : Int) > 300 then (signalmanlaw12_HealthPasses.j0 k l1 l2 true a0_0 a0_1 a0_2) else (if (l2.length : Int) > 300 then (signalmanlaw12_HealthPasses.j0 k l1 l2 true a0_0 a0_1 a0_2) else (if a0_1 > 300 then (signalmanlaw12_HealthPasses.j0 k l1 l2 true a0_0 a0_1 a0_2) else (signalmanlaw12_HealthPasses.j0 k l1 l2 (decide (a0_0 > 300)) a0_0 a0_1 a0_2)))) = some r := by rw [if_pos rfl] at H; exact H
    clear H
    have H := H1
    clear H1
    by_cases c10 : (l1.length : Int) > 300
    ·rw [if_pos c10] at H
     have c10b0 : decide (300 < (l1.length : Int)) = true := decide_eq_true c10
     have c10b1 : decide (300 < l1.length) = true := decide_eq_true (by omega)
     clear c10
     (first | rw [c10b0] | (simp only [i64_w, i32_w]; rw [c10b0]) | skip)
     have H' := Aside0.mk H
     clear H
     have hcz11_0 : w7.cell? ⟨gb145, 0, none⟩ = some (.int .i64 a0_0) := (blk_cell BK145.out 0).trans rfl
     have hcz11_1 : w7.cell? ⟨gb145, 1, none⟩ = some (.int .i64 a0_1) := (blk_cell BK145.out 1).trans rfl
     have hcz11_2 : w7.cell? ⟨gb145, 2, none⟩ = some (.int .u64 a0_2) := (blk_cell BK145.out 2).trans rfl
     have hfz11_0 := blk_frozen BK145.out 0
     have hfz11_1 := blk_frozen BK145.out 1
     have hfz11_2 := blk_frozen BK145.out 2
     go_wp2_with (first | (go_at_call 17; (with_reducible refine (signalmanref12_Right.calls a0_0 a0_1 a0_2 true _ A8.out).mono ?_); rintro e w12 ⟨rfl, hb⟩; have n0_ := Aside0.mk (blk_below (g := gb145) (o := .cells #[.int .i64 a0_0, .int .i64 a0_1, .int .u64 a0_2] 24 (0, 0)) (by (with_reducible repeat (first | refine blk_drewN ?_ _ | refine blk_drew ?_ | refine blk_alloc ?_ _)); exact BK145.out) hb); have n1_ := Aside0.mk (below_step (by repeat (first | (with_reducible first | exact HB.out | apply below_alloc | apply pw_below_drewN | apply below_drew1 | refine below_set ?_ GE145.out) | exact HB.out)) hb); clear BK145; clear HB; have BK145 := n0_; have HB := n1_; clear n0_ n1_; (try clear hb); (try clear hb2); (try clear hk); (try clear hi)))
     repeat (go_quiet (first | (go_at_call 17; (with_reducible refine (signalmanref12_Right.calls a0_0 a0_1 a0_2 true _ A8.out).mono ?_); rintro e w12 ⟨rfl, hb⟩; have n0_ := Aside0.mk (blk_below (g := gb145) (o := .cells #[.int .i64 a0_0, .int .i64 a0_1, .int .u64 a0_2] 24 (0, 0)) (by (with_reducible repeat (first | refine blk_drewN ?_ _ | refine blk_drew ?_ | refine blk_alloc ?_ _)); exact BK145.out) hb); have n1_ := Aside0.mk (below_step (by repeat (first | (with_reducible first | exact HB.out | apply below_alloc | apply pw_below_drewN | apply below_drew1 | refine below_set ?_ GE145.out) | exact HB.out)) hb); clear BK145; clear HB; have BK145 := n0_; have HB := n1_; clear n0_ n1_; (try clear hb); (try clear hb2); (try clear hk); (try clear hi))); try go_wp2_with (first | (go_at_call 17; (with_reducible refine (signalmanref12_Right.calls a0_0 a0_1 a0_2 true _ A8.out).mono ?_); rintro e w12 ⟨rfl, hb⟩; have n0_ := Aside0.mk (blk_below (g := gb145) (o := .cells #[.int .i64 a0_0, .int .i64 a0_1, .int .u64 a0_2] 24 (0, 0)) (by (with_reducible repeat (first | refine blk_drewN ?_ _ | refine blk_drew ?_ | refine blk_alloc ?_ _)); exact BK145.out) hb); have n1_ := Aside0.mk (below_step (by repeat (first | (with_reducible first | exact HB.out | apply below_alloc | apply pw_below_drewN | apply below_drew1 | refine below_set ?_ GE145.out) | exact HB.out)) hb); clear BK145; clear HB; have BK145 := n0_; have HB := n1_; clear n0_ n1_; (try clear hb); (try clear hb2); (try clear hk); (try clear hi))))
     go_meet
     case rel => exact ⟨_, (true), (by first | rfl | (simp; done) | (simp [*]; done)), H', ⟨by first | omega | exact Nat.le_refl _⟩, ⟨by (with_reducible repeat (first | refine blk_drewN ?_ _ | refine blk_drew ?_ | refine blk_alloc ?_ _)); exact BK145.out⟩, ⟨by repeat (first | (with_reducible first | exact HB.out | apply below_alloc | apply pw_below_drewN | apply below_drew1 | refine below_set ?_ GE145.out) | exact HB.out)⟩⟩
    ·rw [if_neg c10] at H
     have c10b0 : decide (300 < (l1.length : Int)) = false := decide_eq_false c10
     have c10b1 : decide (300 < l1.length) = false := decide_eq_false (by omega)
     clear c10
     (first | rw [c10b0] | (simp only [i64_w, i32_w]; rw [c10b0]) | skip)
     by_cases c13 : (l2.length : Int) > 300
     ·rw [if_pos c13] at H
      have c13b0 : decide (300 < (l2.length : Int)) = true := decide_eq_true c13
      have c13b1 : decide (300 < l2.length) = true := decide_eq_true (by omega)
      clear c13
      have H' := Aside0.mk H
      clear H
      have hcz14_0 : w7.cell? ⟨gb145, 0, none⟩ = some (.int .i64 a0_0) := (blk_cell BK145.out 0).trans rfl
      have hcz14_1 : w7.cell? ⟨gb145, 1, none⟩ = some (.int .i64 a0_1) := (blk_cell BK145.out 1).trans rfl
      have hcz14_2 : w7.cell? ⟨gb145, 2, none⟩ = some (.int .u64 a0_2) := (blk_cell BK145.out 2).trans rfl
      have hfz14_0 := blk_frozen BK145.out 0
      have hfz14_1 := blk_frozen BK145.out 1
      have hfz14_2 := blk_frozen BK145.out 2
      go_wp2_with (first | (go_at_call 17; (with_reducible refine (signalmanref12_Right.calls a0_0 a0_1 a0_2 true _ A8.out).mono ?_); rintro e w15 ⟨rfl, hb⟩; have n0_ := Aside0.mk (blk_below (g := gb145) (o := .cells #[.int .i64 a0_0, .int .i64 a0_1, .int .u64 a0_2] 24 (0, 0)) (by (with_reducible repeat (first | refine blk_drewN ?_ _ | refine blk_drew ?_ | refine blk_alloc ?_ _)); exact BK145.out) hb); have n1_ := Aside0.mk (below_step (by repeat (first | (with_reducible first | exact HB.out | apply below_alloc | apply pw_below_drewN | apply below_drew1 | refine below_set ?_ GE145.out) | exact HB.out)) hb); clear BK145; clear HB; have BK145 := n0_; have HB := n1_; clear n0_ n1_; (try clear hb); (try clear hb2); (try clear hk); (try clear hi)))
      repeat (go_quiet (first | (go_at_call 17; (with_reducible refine (signalmanref12_Right.calls a0_0 a0_1 a0_2 true _ A8.out).mono ?_); rintro e w15 ⟨rfl, hb⟩; have n0_ := Aside0.mk (blk_below (g := gb145) (o := .cells #[.int .i64 a0_0, .int .i64 a0_1, .int .u64 a0_2] 24 (0, 0)) (by (with_reducible repeat (first | refine blk_drewN ?_ _ | refine blk_drew ?_ | refine blk_alloc ?_ _)); exact BK145.out) hb); have n1_ := Aside0.mk (below_step (by repeat (first | (with_reducible first | exact HB.out | apply below_alloc | apply pw_below_drewN | apply below_drew1 | refine below_set ?_ GE145.out) | exact HB.out)) hb); clear BK145; clear HB; have BK145 := n0_; have HB := n1_; clear n0_ n1_; (try clear hb); (try clear hb2); (try clear hk); (try clear hi))); try go_wp2_with (first | (go_at_call 17; (with_reducible refine (signalmanref12_Right.calls a0_0 a0_1 a0_2 true _ A8.out).mono ?_); rintro e w15 ⟨rfl, hb⟩; have n0_ := Aside0.mk (blk_below (g := gb145) (o := .cells #[.int .i64 a0_0, .int .i64 a0_1, .int .u64 a0_2] 24 (0, 0)) (by (with_reducible repeat (first | refine blk_drewN ?_ _ | refine blk_drew ?_ | refine blk_alloc ?_ _)); exact BK145.out) hb); have n1_ := Aside0.mk (below_step (by repeat (first | (with_reducible first | exact HB.out | apply below_alloc | apply pw_below_drewN | apply below_drew1 | refine below_set ?_ GE145.out) | exact HB.out)) hb); clear BK145; clear HB; have BK145 := n0_; have HB := n1_; clear n0_ n1_; (try clear hb); (try clear hb2); (try clear hk); (try clear hi))))
      go_meet
      case rel => exact ⟨_, (true), (by first | rfl | (simp; done) | (simp [*]; done)), H', ⟨by first | omega | exact Nat.le_refl _⟩, ⟨by (with_reducible repeat (first | refine blk_drewN ?_ _ | refine blk_drew ?_ | refine blk_alloc ?_ _)); exact BK145.out⟩, ⟨by repeat (first | (with_reducible first | exact HB.out | apply below_alloc | apply pw_below_drewN | apply below_drew1 | refine below_set ?_ GE145.out) | exact HB.out)⟩⟩
     ·rw [if_neg c13] at H
      have c13b0 : decide (300 < (l2.length : Int)) = false := decide_eq_false c13
      have c13b1 : decide (300 < l2.length) = false := decide_eq_false (by omega)
      clear c13
      by_cases c16 : a0_1 > 300
      ·rw [if_pos c16] at H
       have c16b0 : decide (300 < a0_1) = true := decide_eq_true c16
       clear c16
       have H' := Aside0.mk H
       clear H
       have hcz17_0 : w7.cell? ⟨gb145, 0, none⟩ = some (.int .i64 a0_0) := (blk_cell BK145.out 0).trans rfl
       have hcz17_1 : w7.cell? ⟨gb145, 1, none⟩ = some (.int .i64 a0_1) := (blk_cell BK145.out 1).trans rfl
       have hcz17_2 : w7.cell? ⟨gb145, 2, none⟩ = some (.int .u64 a0_2) := (blk_cell BK145.out 2).trans rfl
       have hfz17_0 := blk_frozen BK145.out 0
       have hfz17_1 := blk_frozen BK145.out 1
       have hfz17_2 := blk_frozen BK145.out 2
       go_wp2_with (first | (go_at_call 17; (with_reducible refine (signalmanref12_Right.calls a0_0 a0_1 a0_2 true _ A8.out).mono ?_); rintro e w18 ⟨rfl, hb⟩; have n0_ := Aside0.mk (blk_below (g := gb145) (o := .cells #[.int .i64 a0_0, .int .i64 a0_1, .int .u64 a0_2] 24 (0, 0)) (by (with_reducible repeat (first | refine blk_drewN ?_ _ | refine blk_drew ?_ | refine blk_alloc ?_ _)); exact BK145.out) hb); have n1_ := Aside0.mk (below_step (by repeat (first | (with_reducible first | exact HB.out | apply below_alloc | apply pw_below_drewN | apply below_drew1 | refine below_set ?_ GE145.out) | exact HB.out)) hb); clear BK145; clear HB; have BK145 := n0_; have HB := n1_; clear n0_ n1_; (try clear hb); (try clear hb2); (try clear hk); (try clear hi); have hcz19_0 : w18.cell? ⟨gb145, 0, none⟩ = some (.int .i64 a0_0) := (blk_cell BK145.out 0).trans rfl; have hcz19_1 : w18.cell? ⟨gb145, 1, none⟩ = some (.int .i64 a0_1) := (blk_cell BK145.out 1).trans rfl; have hcz19_2 : w18.cell? ⟨gb145, 2, none⟩ = some (.int .u64 a0_2) := (blk_cell BK145.out 2).trans rfl; have hfz19_0 := blk_frozen BK145.out 0; have hfz19_1 := blk_frozen BK145.out 1; have hfz19_2 := blk_frozen BK145.out 2))
       repeat (go_quiet (first | (go_at_call 17; (with_reducible refine (signalmanref12_Right.calls a0_0 a0_1 a0_2 true _ A8.out).mono ?_); rintro e w18 ⟨rfl, hb⟩; have n0_ := Aside0.mk (blk_below (g := gb145) (o := .cells #[.int .i64 a0_0, .int .i64 a0_1, .int .u64 a0_2] 24 (0, 0)) (by (with_reducible repeat (first | refine blk_drewN ?_ _ | refine blk_drew ?_ | refine blk_alloc ?_ _)); exact BK145.out) hb); have n1_ := Aside0.mk (below_step (by repeat (first | (with_reducible first | exact HB.out | apply below_alloc | apply pw_below_drewN | apply below_drew1 | refine below_set ?_ GE145.out) | exact HB.out)) hb); clear BK145; clear HB; have BK145 := n0_; have HB := n1_; clear n0_ n1_; (try clear hb); (try clear hb2); (try clear hk); (try clear hi); have hcz19_0 : w18.cell? ⟨gb145, 0, none⟩ = some (.int .i64 a0_0) := (blk_cell BK145.out 0).trans rfl; have hcz19_1 : w18.cell? ⟨gb145, 1, none⟩ = some (.int .i64 a0_1) := (blk_cell BK145.out 1).trans rfl; have hcz19_2 : w18.cell? ⟨gb145, 2, none⟩ = some (.int .u64 a0_2) := (blk_cell BK145.out 2).trans rfl; have hfz19_0 := blk_frozen BK145.out 0; have hfz19_1 := blk_frozen BK145.out 1; have hfz19_2 := blk_frozen BK145.out 2)); try go_wp2_with (first | (go_at_call 17; (with_reducible refine (signalmanref12_Right.calls a0_0 a0_1 a0_2 true _ A8.out).mono ?_); rintro e w18 ⟨rfl, hb⟩; have n0_ := Aside0.mk (blk_below (g := gb145) (o := .cells #[.int .i64 a0_0, .int .i64 a0_1, .int .u64 a0_2] 24 (0, 0)) (by (with_reducible repeat (first | refine blk_drewN ?_ _ | refine blk_drew ?_ | refine blk_alloc ?_ _)); exact BK145.out) hb); have n1_ := Aside0.mk (below_step (by repeat (first | (with_reducible first | exact HB.out | apply below_alloc | apply pw_below_drewN | apply below_drew1 | refine below_set ?_ GE145.out) | exact HB.out)) hb); clear BK145; clear HB; have BK145 := n0_; have HB := n1_; clear n0_ n1_; (try clear hb); (try clear hb2); (try clear hk); (try clear hi); have hcz19_0 : w18.cell? ⟨gb145, 0, none⟩ = some (.int .i64 a0_0) := (blk_cell BK145.out 0).trans rfl; have hcz19_1 : w18.cell? ⟨gb145, 1, none⟩ = some (.int .i64 a0_1) := (blk_cell BK145.out 1).trans rfl; have hcz19_2 : w18.cell? ⟨gb145, 2, none⟩ = some (.int .u64 a0_2) := (blk_cell BK145.out 2).trans rfl; have hfz19_0 := blk_frozen BK145.out 0; have hfz19_1 := blk_frozen BK145.out 1; have hfz19_2 := blk_frozen BK145.out 2)))
       go_meet
       case rel => exact ⟨_, (true), (by first | rfl | (simp; done) | (simp [*]; done)), H', ⟨by first | omega | exact Nat.le_refl _⟩, ⟨by (with_reducible repeat (first | refine blk_drewN ?_ _ | refine blk_drew ?_ | refine blk_alloc ?_ _)); exact BK145.out⟩, ⟨by repeat (first | (with_reducible first | exact HB.out | apply below_alloc | apply pw_below_drewN | apply below_drew1 | refine below_set ?_ GE145.out) | exact HB.out)⟩⟩
      ·rw [if_neg c16] at H
       have c16b0 : decide (300 < a0_1) = false := decide_eq_false c16
       clear c16
       have H' := Aside0.mk H
       clear H
       have hcz20_0 : w7.cell? ⟨gb145, 0, none⟩ = some (.int .i64 a0_0) := (blk_cell BK145.out 0).trans rfl
       have hcz20_1 : w7.cell? ⟨gb145, 1, none⟩ = some (.int .i64 a0_1) := (blk_cell BK145.out 1).trans rfl
       have hcz20_2 : w7.cell? ⟨gb145, 2, none⟩ = some (.int .u64 a0_2) := (blk_cell BK145.out 2).trans rfl
       have hfz20_0 := blk_frozen BK145.out 0
       have hfz20_1 := blk_frozen BK145.out 1
       have hfz20_2 := blk_frozen BK145.out 2
       go_wp2_with (first | (go_at_call 17; (with_reducible refine (signalmanref12_Right.calls a0_0 a0_1 a0_2 true _ A8.out).mono ?_); rintro e w21 ⟨rfl, hb⟩; have n0_ := Aside0.mk (blk_below (g := gb145) (o := .cells #[.int .i64 a0_0, .int .i64 a0_1, .int .u64 a0_2] 24 (0, 0)) (by (with_reducible repeat (first | refine blk_drewN ?_ _ | refine blk_drew ?_ | refine blk_alloc ?_ _)); exact BK145.out) hb); have n1_ := Aside0.mk (below_step (by repeat (first | (with_reducible first | exact HB.out | apply below_alloc | apply pw_below_drewN | apply below_drew1 | refine below_set ?_ GE145.out) | exact HB.out)) hb); clear BK145; clear HB; have BK145 := n0_; have HB := n1_; clear n0_ n1_; (try clear hb); (try clear hb2); (try clear hk); (try clear hi); have hcz22_0 : w21.cell? ⟨gb145, 0, none⟩ = some (.int .i64 a0_0) := (blk_cell BK145.out 0).trans rfl; have hcz22_1 : w21.cell? ⟨gb145, 1, none⟩ = some (.int .i64 a0_1) := (blk_cell BK145.out 1).trans rfl; have hcz22_2 : w21.cell? ⟨gb145, 2, none⟩ = some (.int .u64 a0_2) := (blk_cell BK145.out 2).trans rfl; have hfz22_0 := blk_frozen BK145.out 0; have hfz22_1 := blk_frozen BK145.out 1; have hfz22_2 := blk_frozen BK145.out 2))
       repeat (go_quiet (first | (go_at_call 17; (with_reducible refine (signalmanref12_Right.calls a0_0 a0_1 a0_2 true _ A8.out).mono ?_); rintro e w21 ⟨rfl, hb⟩; have n0_ := Aside0.mk (blk_below (g := gb145) (o := .cells #[.int .i64 a0_0, .int .i64 a0_1, .int .u64 a0_2] 24 (0, 0)) (by (with_reducible repeat (first | refine blk_drewN ?_ _ | refine blk_drew ?_ | refine blk_alloc ?_ _)); exact BK145.out) hb); have n1_ := Aside0.mk (below_step (by repeat (first | (with_reducible first | exact HB.out | apply below_alloc | apply pw_below_drewN | apply below_drew1 | refine below_set ?_ GE145.out) | exact HB.out)) hb); clear BK145; clear HB; have BK145 := n0_; have HB := n1_; clear n0_ n1_; (try clear hb); (try clear hb2); (try clear hk); (try clear hi); have hcz22_0 : w21.cell? ⟨gb145, 0, none⟩ = some (.int .i64 a0_0) := (blk_cell BK145.out 0).trans rfl; have hcz22_1 : w21.cell? ⟨gb145, 1, none⟩ = some (.int .i64 a0_1) := (blk_cell BK145.out 1).trans rfl; have hcz22_2 : w21.cell? ⟨gb145, 2, none⟩ = some (.int .u64 a0_2) := (blk_cell BK145.out 2).trans rfl; have hfz22_0 := blk_frozen BK145.out 0; have hfz22_1 := blk_frozen BK145.out 1; have hfz22_2 := blk_frozen BK145.out 2)); try go_wp2_with (first | (go_at_call 17; (with_reducible refine (signalmanref12_Right.calls a0_0 a0_1 a0_2 true _ A8.out).mono ?_); rintro e w21 ⟨rfl, hb⟩; have n0_ := Aside0.mk (blk_below (g := gb145) (o := .cells #[.int .i64 a0_0, .int .i64 a0_1, .int .u64 a0_2] 24 (0, 0)) (by (with_reducible repeat (first | refine blk_drewN ?_ _ | refine blk_drew ?_ | refine blk_alloc ?_ _)); exact BK145.out) hb); have n1_ := Aside0.mk (below_step (by repeat (first | (with_reducible first | exact HB.out | apply below_alloc | apply pw_below_drewN | apply below_drew1 | refine below_set ?_ GE145.out) | exact HB.out)) hb); clear BK145; clear HB; have BK145 := n0_; have HB := n1_; clear n0_ n1_; (try clear hb); (try clear hb2); (try clear hk); (try clear hi); have hcz22_0 : w21.cell? ⟨gb145, 0, none⟩ = some (.int .i64 a0_0) := (blk_cell BK145.out 0).trans rfl; have hcz22_1 : w21.cell? ⟨gb145, 1, none⟩ = some (.int .i64 a0_1) := (blk_cell BK145.out 1).trans rfl; have hcz22_2 : w21.cell? ⟨gb145, 2, none⟩ = some (.int .u64 a0_2) := (blk_cell BK145.out 2).trans rfl; have hfz22_0 := blk_frozen BK145.out 0; have hfz22_1 := blk_frozen BK145.out 1; have hfz22_2 := blk_frozen BK145.out 2)))
       go_meet
       case rel => exact ⟨_, (decide (a0_0 > 300)), (by first | rfl | (simp; done) | (simp [*]; done)), H', ⟨by first | omega | exact Nat.le_refl _⟩, ⟨by (with_reducible repeat (first | refine blk_drewN ?_ _ | refine blk_drew ?_ | refine blk_alloc ?_ _)); exact BK145.out⟩, ⟨by repeat (first | (with_reducible first | exact HB.out | apply below_alloc | apply pw_below_drewN | apply below_drew1 | refine below_set ?_ GE145.out) | exact HB.out)⟩⟩
   ·replace c9 := Bool.eq_false_iff.mpr c9
    subst c9
    have H1 : (signalmanlaw12_HealthPasses.j0 k l1 l2 true a0_0 a0_1 a0_2) = some r := by rw [if_neg (show ¬ (false = true) by decide)] at H; exact H
    clear H
    have H := H1
    clear H1
    have H' := Aside0.mk H
    clear H
    have hcz23_0 : w7.cell? ⟨gb145, 0, none⟩ = some (.int .i64 a0_0) := (blk_cell BK145.out 0).trans rfl
    have hcz23_1 : w7.cell? ⟨gb145, 1, none⟩ = some (.int .i64 a0_1) := (blk_cell BK145.out 1).trans rfl
    have hcz23_2 : w7.cell? ⟨gb145, 2, none⟩ = some (.int .u64 a0_2) := (blk_cell BK145.out 2).trans rfl
    have hfz23_0 := blk_frozen BK145.out 0
    have hfz23_1 := blk_frozen BK145.out 1
    have hfz23_2 := blk_frozen BK145.out 2
    go_wp2_with (first | (go_at_call 17; (with_reducible refine (signalmanref12_Right.calls a0_0 a0_1 a0_2 false _ A8.out).mono ?_); rintro e w24 ⟨rfl, hb⟩; have n0_ := Aside0.mk (blk_below (g := gb145) (o := .cells #[.int .i64 a0_0, .int .i64 a0_1, .int .u64 a0_2] 24 (0, 0)) (by (with_reducible repeat (first | refine blk_drewN ?_ _ | refine blk_drew ?_ | refine blk_alloc ?_ _)); exact BK145.out) hb); have n1_ := Aside0.mk (below_step (by repeat (first | (with_reducible first | exact HB.out | apply below_alloc | apply pw_below_drewN | apply below_drew1 | refine below_set ?_ GE145.out) | exact HB.out)) hb); clear BK145; clear HB; have BK145 := n0_; have HB := n1_; clear n0_ n1_; (try clear hb); (try clear hb2); (try clear hk); (try clear hi)))
    repeat (go_quiet (first | (go_at_call 17; (with_reducible refine (signalmanref12_Right.calls a0_0 a0_1 a0_2 false _ A8.out).mono ?_); rintro e w24 ⟨rfl, hb⟩; have n0_ := Aside0.mk (blk_below (g := gb145) (o := .cells #[.int .i64 a0_0, .int .i64 a0_1, .int .u64 a0_2] 24 (0, 0)) (by (with_reducible repeat (first | refine blk_drewN ?_ _ | refine blk_drew ?_ | refine blk_alloc ?_ _)); exact BK145.out) hb); have n1_ := Aside0.mk (below_step (by repeat (first | (with_reducible first | exact HB.out | apply below_alloc | apply pw_below_drewN | apply below_drew1 | refine below_set ?_ GE145.out) | exact HB.out)) hb); clear BK145; clear HB; have BK145 := n0_; have HB := n1_; clear n0_ n1_; (try clear hb); (try clear hb2); (try clear hk); (try clear hi))); try go_wp2_with (first | (go_at_call 17; (with_reducible refine (signalmanref12_Right.calls a0_0 a0_1 a0_2 false _ A8.out).mono ?_); rintro e w24 ⟨rfl, hb⟩; have n0_ := Aside0.mk (blk_below (g := gb145) (o := .cells #[.int .i64 a0_0, .int .i64 a0_1, .int .u64 a0_2] 24 (0, 0)) (by (with_reducible repeat (first | refine blk_drewN ?_ _ | refine blk_drew ?_ | refine blk_alloc ?_ _)); exact BK145.out) hb); have n1_ := Aside0.mk (below_step (by repeat (first | (with_reducible first | exact HB.out | apply below_alloc | apply pw_below_drewN | apply below_drew1 | refine below_set ?_ GE145.out) | exact HB.out)) hb); clear BK145; clear HB; have BK145 := n0_; have HB := n1_; clear n0_ n1_; (try clear hb); (try clear hb2); (try clear hk); (try clear hi))))
    go_meet
    case rel => exact ⟨_, (true), (by first | rfl | (simp; done) | (simp [*]; done)), H', ⟨by first | omega | exact Nat.le_refl _⟩, ⟨by (with_reducible repeat (first | refine blk_drewN ?_ _ | refine blk_drew ?_ | refine blk_alloc ?_ _)); exact BK145.out⟩, ⟨by repeat (first | (with_reducible first | exact HB.out | apply below_alloc | apply pw_below_drewN | apply below_drew1 | refine below_set ?_ GE145.out) | exact HB.out)⟩⟩
  case rest =>
   clear HC5
   try clear c1
   try clear c2
   try clear p2
   try clear c4
   try clear c9
   try clear c10
   try clear c10b0
   try clear c10b1
   try clear c13
   try clear c13b0
   try clear c13b1
   try clear c16
   try clear c16b0
   try clear hcz11_0
   try clear hcz11_1
   try clear hcz11_2
   try clear hcz14_0
   try clear hcz14_1
   try clear hcz14_2
   try clear hcz17_0
   try clear hcz17_1
   try clear hcz17_2
   try clear hcz19_0
   try clear hcz19_1
   try clear hcz19_2
   try clear hcz20_0
   try clear hcz20_1
   try clear hcz20_2
   try clear hcz22_0
   try clear hcz22_1
   try clear hcz22_2
   try clear hcz23_0
   try clear hcz23_1
   try clear hcz23_2
   try clear hfz11_0
   try clear hfz11_1
   try clear hfz11_2
   try clear hfz14_0
   try clear hfz14_1
   try clear hfz14_2
   try clear hfz17_0
   try clear hfz17_1
   try clear hfz17_2
   try clear hfz19_0
   try clear hfz19_1
   try clear hfz19_2
   try clear hfz20_0
   try clear hfz20_1
   try clear hfz20_2
   try clear hfz22_0
   try clear hfz22_1
   try clear hfz22_2
   try clear hfz23_0
   try clear hfz23_1
   try clear hfz23_2
   obtain ⟨kq, x37_4, rfl, HA, HJ4, BK145, HB⟩ := hcut
   cases kq with
   | zero => exact absurd HA.out (by simp [signalmanlaw12_HealthPasses.j0])
   | succ kj4 =>
    have H := HA.out
    clear HA
    simp only [signalmanlaw12_HealthPasses.j0] at H
    by_cases c25 : x37_4 = true
    ·subst c25
     have H1 : (some true) = some r := by rw [if_pos rfl] at H; exact H
     clear H
     have H := H1
     clear H1
     obtain rfl := Option.some.inj H
     go_wp2
     repeat (go_quiet (fail); try go_wp2)
     go_ret
     exact ⟨by first | rfl | (simp [errW_none, errW_some] <;> rfl) | (simp [*, errW_none, errW_some] <;> rfl), by repeat (first | (with_reducible first | exact HB.out | apply below_alloc | apply pw_below_drewN | apply below_drew1 | refine below_set ?_ GE145.out) | exact HB.out)⟩
    ·replace c25 := Bool.eq_false_iff.mpr c25
     subst c25
     have H1 : (signalmanlaw12_HealthPasses.l0 kj4 l2 l1 (l1.length : Int) 0 a0_0 a0_1 a0_2 1 0) = some r := by rw [if_neg (show ¬ (false = true) by decide)] at H; exact H
     clear H
     have H := H1
     clear H1
     have H' := Aside0.mk H
     clear H
     go_wp2_with (first | ((with_reducible refine gate_dst (N := 7) rfl ?_); (try (refine gate_guard (by rfl) ?_; dsimp only)); refine box_event ?hg (N := 7) ?hd (cs := #[.int .i64 0, .int .i64 0]) (t := 26) ?hr ?_; (case hd => rfl); (case hg => rfl); (case hr => first | (go_simp; done) | (go_simp; rfl)); intro gb148 hg w26 hbox hb; have n0_ := Aside0.mk (blk_below (g := gb145) (o := .cells #[.int .i64 a0_0, .int .i64 a0_1, .int .u64 a0_2] 24 (0, 0)) (by (with_reducible repeat (first | refine blk_drewN ?_ _ | refine blk_drew ?_ | refine blk_alloc ?_ _)); exact BK145.out) hb); have n1_ := Aside0.mk (below_step (by repeat (first | (with_reducible first | exact HB.out | apply below_alloc | apply pw_below_drewN | apply below_drew1 | refine below_set ?_ GE145.out) | exact HB.out)) hb); have n2_ := Aside0.mk (hbox); have n3_ := Aside0.mk ((by rw [hg]; exact (below_size (by repeat (first | (with_reducible first | exact HB.out | apply below_alloc | apply pw_below_drewN | apply below_drew1 | refine below_set ?_ GE145.out) | exact HB.out))) : w.heap.size ≤ gb148)); have n4_ := Aside0.mk ((by rw [hg]; exact (below_size (by repeat (first | (with_reducible first | exact HB.out | apply below_alloc | apply pw_below_drewN | apply below_drew1 | refine below_set ?_ GE145.out) | exact HB.out))) : w.heap.size ≤ gb148)); have n5_ := Aside0.mk ((by rw [hg]; exact Nat.ne_of_lt (blk_lt (g := gb145) (o := .cells #[.int .i64 a0_0, .int .i64 a0_1, .int .u64 a0_2] 24 (0, 0)) (by (with_reducible repeat (first | refine blk_drewN ?_ _ | refine blk_drew ?_ | refine blk_alloc ?_ _)); exact BK145.out)) : gb145 ≠ gb148)); have n6_ := Aside0.mk ((by rw [hg]; exact Nat.ne_of_gt (blk_lt (g := gb145) (o := .cells #[.int .i64 a0_0, .int .i64 a0_1, .int .u64 a0_2] 24 (0, 0)) (by (with_reducible repeat (first | refine blk_drewN ?_ _ | refine blk_drew ?_ | refine blk_alloc ?_ _)); exact BK145.out)) : gb148 ≠ gb145)); clear BK145; clear HB; have BK145 := n0_; have HB := n1_; have BK148 := n2_; have GW148 := n3_; have GE148 := n4_; have NB145_148 := n5_; have NB148_145 := n6_; clear n0_ n1_ n2_ n3_ n4_ n5_ n6_; clear hb hbox hg; have hnb27 := NB148_145.out; have hnc27 := NB145_148.out; have hcz28_0 : w26.cell? ⟨gb148, 0, none⟩ = some (.int .i64 0) := (blk_cell BK148.out 0).trans rfl; have hcz28_1 : w26.cell? ⟨gb148, 1, none⟩ = some (.int .i64 0) := (blk_cell BK148.out 1).trans rfl; have hfz28_0 := blk_frozen BK148.out 0; have hfz28_1 := blk_frozen BK148.out 1))
     repeat (go_quiet (first | ((with_reducible refine gate_dst (N := 7) rfl ?_); (try (refine gate_guard (by rfl) ?_; dsimp only)); refine box_event ?hg (N := 7) ?hd (cs := #[.int .i64 0, .int .i64 0]) (t := 26) ?hr ?_; (case hd => rfl); (case hg => rfl); (case hr => first | (go_simp; done) | (go_simp; rfl)); intro gb148 hg w26 hbox hb; have n0_ := Aside0.mk (blk_below (g := gb145) (o := .cells #[.int .i64 a0_0, .int .i64 a0_1, .int .u64 a0_2] 24 (0, 0)) (by (with_reducible repeat (first | refine blk_drewN ?_ _ | refine blk_drew ?_ | refine blk_alloc ?_ _)); exact BK145.out) hb); have n1_ := Aside0.mk (below_step (by repeat (first | (with_reducible first | exact HB.out | apply below_alloc | apply pw_below_drewN | apply below_drew1 | refine below_set ?_ GE145.out) | exact HB.out)) hb); have n2_ := Aside0.mk (hbox); have n3_ := Aside0.mk ((by rw [hg]; exact (below_size (by repeat (first | (with_reducible first | exact HB.out | apply below_alloc | apply pw_below_drewN | apply below_drew1 | refine below_set ?_ GE145.out) | exact HB.out))) : w.heap.size ≤ gb148)); have n4_ := Aside0.mk ((by rw [hg]; exact (below_size (by repeat (first | (with_reducible first | exact HB.out | apply below_alloc | apply pw_below_drewN | apply below_drew1 | refine below_set ?_ GE145.out) | exact HB.out))) : w.heap.size ≤ gb148)); have n5_ := Aside0.mk ((by rw [hg]; exact Nat.ne_of_lt (blk_lt (g := gb145) (o := .cells #[.int .i64 a0_0, .int .i64 a0_1, .int .u64 a0_2] 24 (0, 0)) (by (with_reducible repeat (first | refine blk_drewN ?_ _ | refine blk_drew ?_ | refine blk_alloc ?_ _)); exact BK145.out)) : gb145 ≠ gb148)); have n6_ := Aside0.mk ((by rw [hg]; exact Nat.ne_of_gt (blk_lt (g := gb145) (o := .cells #[.int .i64 a0_0, .int .i64 a0_1, .int .u64 a0_2] 24 (0, 0)) (by (with_reducible repeat (first | refine blk_drewN ?_ _ | refine blk_drew ?_ | refine blk_alloc ?_ _)); exact BK145.out)) : gb148 ≠ gb145)); clear BK145; clear HB; have BK145 := n0_; have HB := n1_; have BK148 := n2_; have GW148 := n3_; have GE148 := n4_; have NB145_148 := n5_; have NB148_145 := n6_; clear n0_ n1_ n2_ n3_ n4_ n5_ n6_; clear hb hbox hg; have hnb27 := NB148_145.out; have hnc27 := NB145_148.out; have hcz28_0 : w26.cell? ⟨gb148, 0, none⟩ = some (.int .i64 0) := (blk_cell BK148.out 0).trans rfl; have hcz28_1 : w26.cell? ⟨gb148, 1, none⟩ = some (.int .i64 0) := (blk_cell BK148.out 1).trans rfl; have hfz28_0 := blk_frozen BK148.out 0; have hfz28_1 := blk_frozen BK148.out 1)); try go_wp2_with (first | ((with_reducible refine gate_dst (N := 7) rfl ?_); (try (refine gate_guard (by rfl) ?_; dsimp only)); refine box_event ?hg (N := 7) ?hd (cs := #[.int .i64 0, .int .i64 0]) (t := 26) ?hr ?_; (case hd => rfl); (case hg => rfl); (case hr => first | (go_simp; done) | (go_simp; rfl)); intro gb148 hg w26 hbox hb; have n0_ := Aside0.mk (blk_below (g := gb145) (o := .cells #[.int .i64 a0_0, .int .i64 a0_1, .int .u64 a0_2] 24 (0, 0)) (by (with_reducible repeat (first | refine blk_drewN ?_ _ | refine blk_drew ?_ | refine blk_alloc ?_ _)); exact BK145.out) hb); have n1_ := Aside0.mk (below_step (by repeat (first | (with_reducible first | exact HB.out | apply below_alloc | apply pw_below_drewN | apply below_drew1 | refine below_set ?_ GE145.out) | exact HB.out)) hb); have n2_ := Aside0.mk (hbox); have n3_ := Aside0.mk ((by rw [hg]; exact (below_size (by repeat (first | (with_reducible first | exact HB.out | apply below_alloc | apply pw_below_drewN | apply below_drew1 | refine below_set ?_ GE145.out) | exact HB.out))) : w.heap.size ≤ gb148)); have n4_ := Aside0.mk ((by rw [hg]; exact (below_size (by repeat (first | (with_reducible first | exact HB.out | apply below_alloc | apply pw_below_drewN | apply below_drew1 | refine below_set ?_ GE145.out) | exact HB.out))) : w.heap.size ≤ gb148)); have n5_ := Aside0.mk ((by rw [hg]; exact Nat.ne_of_lt (blk_lt (g := gb145) (o := .cells #[.int .i64 a0_0, .int .i64 a0_1, .int .u64 a0_2] 24 (0, 0)) (by (with_reducible repeat (first | refine blk_drewN ?_ _ | refine blk_drew ?_ | refine blk_alloc ?_ _)); exact BK145.out)) : gb145 ≠ gb148)); have n6_ := Aside0.mk ((by rw [hg]; exact Nat.ne_of_gt (blk_lt (g := gb145) (o := .cells #[.int .i64 a0_0, .int .i64 a0_1, .int .u64 a0_2] 24 (0, 0)) (by (with_reducible repeat (first | refine blk_drewN ?_ _ | refine blk_drew ?_ | refine blk_alloc ?_ _)); exact BK145.out)) : gb148 ≠ gb145)); clear BK145; clear HB; have BK145 := n0_; have HB := n1_; have BK148 := n2_; have GW148 := n3_; have GE148 := n4_; have NB145_148 := n5_; have NB148_145 := n6_; clear n0_ n1_ n2_ n3_ n4_ n5_ n6_; clear hb hbox hg; have hnb27 := NB148_145.out; have hnc27 := NB145_148.out; have hcz28_0 : w26.cell? ⟨gb148, 0, none⟩ = some (.int .i64 0) := (blk_cell BK148.out 0).trans rfl; have hcz28_1 : w26.cell? ⟨gb148, 1, none⟩ = some (.int .i64 0) := (blk_cell BK148.out 1).trans rfl; have hfz28_0 := blk_frozen BK148.out 0; have hfz28_1 := blk_frozen BK148.out 1)))
     go_loopg [41] kj4 (fun kq v41 w' => ∃ (x41_2 : Int) (x149000_2 : Int) (x149001_2 : Int), v41 = .int .i64 x41_2 ∧ Aside0 (signalmanlaw12_HealthPasses.l0 kq l2 l1 (l1.length : Int) x41_2 a0_0 a0_1 a0_2 x149000_2 x149001_2 = some r) ∧ Aside0 (kq ≤ kj4) ∧ Aside0 (w'.heap[gb145]? = some (.cells #[.int .i64 a0_0, .int .i64 a0_1, .int .u64 a0_2] 24 (0, 0))) ∧ Aside0 (w'.heap[gb148]? = some (.cells #[.int .i64 x149000_2, .int .i64 x149001_2] 26 (0, 0))) ∧ Aside0 (Below w.heap.size w w'))
     case atStart => exact ⟨(0), (1), (0), (by first | rfl | (simp; done) | (simp [*]; done)), H', ⟨Nat.le_refl _⟩, ⟨by (with_reducible repeat (first | refine blk_drewN ?_ _ | refine blk_drew ?_ | refine blk_alloc ?_ _)); refine blk_far ?_ NB145_148.out _; (with_reducible repeat (first | refine blk_drewN ?_ _ | refine blk_drew ?_ | refine blk_alloc ?_ _)); refine blk_far ?_ NB145_148.out _; (with_reducible repeat (first | refine blk_drewN ?_ _ | refine blk_drew ?_ | refine blk_alloc ?_ _)); exact BK145.out⟩, ⟨by (with_reducible repeat (first | refine blk_drewN ?_ _ | refine blk_drew ?_ | refine blk_alloc ?_ _)); refine blk_put (cs := #[.int .i64 1, .int .i64 0]) ?_ 1 _ rfl; (with_reducible repeat (first | refine blk_drewN ?_ _ | refine blk_drew ?_ | refine blk_alloc ?_ _)); refine blk_put (cs := #[.int .i64 0, .int .i64 0]) ?_ 0 _ rfl; (with_reducible repeat (first | refine blk_drewN ?_ _ | refine blk_drew ?_ | refine blk_alloc ?_ _)); exact BK148.out⟩, ⟨by repeat (first | (with_reducible first | exact HB.out | apply below_alloc | apply pw_below_drewN | apply below_drew1 | refine below_set ?_ GE145.out | refine below_set ?_ GE148.out) | exact HB.out)⟩⟩
     case round =>
      clear H'
      try clear c1
      try clear c2
      try clear p2
      try clear c4
      try clear c9
      try clear c10
      try clear c10b0
      try clear c10b1
      try clear c13
      try clear c13b0
      try clear c13b1
      try clear c16
      try clear c16b0
      try clear c25
      try clear c27
      try clear hcz11_0
      try clear hcz11_1
      try clear hcz11_2
      try clear hcz14_0
      try clear hcz14_1
      try clear hcz14_2
      try clear hcz17_0
      try clear hcz17_1
      try clear hcz17_2
      try clear hcz19_0
      try clear hcz19_1
      try clear hcz19_2
      try clear hcz20_0
      try clear hcz20_1
      try clear hcz20_2
      try clear hcz22_0
      try clear hcz22_1
      try clear hcz22_2
      try clear hcz23_0
      try clear hcz23_1
      try clear hcz23_2
      try clear hcz28_0
      try clear hcz28_1
      try clear hfz11_0
      try clear hfz11_1
      try clear hfz11_2
      try clear hfz14_0
      try clear hfz14_1
      try clear hfz14_2
      try clear hfz17_0
      try clear hfz17_1
      try clear hfz17_2
      try clear hfz19_0
      try clear hfz19_1
      try clear hfz19_2
      try clear hfz20_0
      try clear hfz20_1
      try clear hfz20_2
      try clear hfz22_0
      try clear hfz22_1
      try clear hfz22_2
      try clear hfz23_0
      try clear hfz23_1
      try clear hfz23_2
      try clear hfz28_0
      try clear hfz28_1
      try clear p2
      obtain ⟨x41_2, x149000_2, x149001_2, rfl, HA, HK2, BK145, BK148, HB⟩ := hrel
      cases gk with
      | zero => exact absurd HA.out (by simp [signalmanlaw12_HealthPasses.l0])
      | succ k2 =>
       have H := HA.out
       clear HA
       simp only [signalmanlaw12_HealthPasses.l0] at H
       by_cases c29 : x41_2 < (l1.length : Int)
       ·rw [if_pos c29] at H
        have c29b0 : decide (x41_2 < (l1.length : Int)) = true := decide_eq_true c29
        clear c29
        by_cases c30 : 0 ≤ x41_2
        ·rw [if_pos c30] at H
         have c30b0 : decide (0 ≤ x41_2) = true := decide_eq_true c30
         clear c30
         by_cases c31 : x41_2 < (l1.length : Int)
         ·rw [if_pos c31] at H
          have c31b0 : decide (x41_2 < (l1.length : Int)) = true := decide_eq_true c31
          clear c31
          replace H := Option.bind_eq_some_iff.mp H
          obtain ⟨⟨t151, t152⟩, A320, H⟩ := H
          replace H : (if t151 < 1 then (some false) else (if t151 > 3 then (some false) else (if t152 < 0 then (some false) else (if t152 ≥ (mx a0_0 a0_1) then (some false) else (signalmanlaw12_HealthPasses.l0 k2 l2 l1 (l1.length : Int) (wrap64 (x41_2 + 1)) a0_0 a0_1 a0_2 t151 t152))))) = some r := H
          have A32 := Aside0.mk A320
          clear A320
          by_cases c33 : t151 < 1
          ·rw [if_pos c33] at H
           have c33b0 : decide (t151 < 1) = true := decide_eq_true c33
           clear c33
           obtain rfl := Option.some.inj H
           have p149 : 0 ≤ (x41_2 : Int) := of_decide_eq_true (by first | (with_reducible assumption) | assumption)
           have q149 : x41_2 < (l1.length : Int) := of_decide_eq_true (by first | (with_reducible assumption) | assumption)
           obtain ⟨ad149, e149, hx149_0, hx149_1⟩ := at_T28 HR1.out x41_2 p149 q149
           cases e149
           replace hx149_0 := (HB.out.cell (World.block_lt_of_cell? w _ hx149_0)).trans hx149_0
           replace hx149_1 := (HB.out.cell (World.block_lt_of_cell? w _ hx149_1)).trans hx149_1
           replace p149 := eq_true p149
           replace q149 := eq_true q149
           go_wp2_with (first | ((with_reducible refine gate_dst (N := 9) rfl ?_); (try (refine gate_guard (by rfl) ?_; dsimp only)); refine box_event ?hg (N := 9) ?hd (cs := #[.bool false, .int .u64 0]) (t := 28) ?hr ?_; (case hd => rfl); (case hg => rfl); (case hr => first | (go_simp; done) | (go_simp; rfl)); intro gb150 hg w34 hbox hb; have n0_ := Aside0.mk (blk_below (g := gb145) (o := .cells #[.int .i64 a0_0, .int .i64 a0_1, .int .u64 a0_2] 24 (0, 0)) (by (with_reducible repeat (first | refine blk_drewN ?_ _ | refine blk_drew ?_ | refine blk_alloc ?_ _)); exact BK145.out) hb); have n1_ := Aside0.mk (blk_below (g := gb148) (o := .cells #[.int .i64 x149000_2, .int .i64 x149001_2] 26 (0, 0)) (by (with_reducible repeat (first | refine blk_drewN ?_ _ | refine blk_drew ?_ | refine blk_alloc ?_ _)); exact BK148.out) hb); have n2_ := Aside0.mk (below_step (by repeat (first | (with_reducible first | exact HB.out | apply below_alloc | apply pw_below_drewN | apply below_drew1 | refine below_set ?_ GE145.out | refine below_set ?_ GE148.out) | exact HB.out)) hb); have n3_ := Aside0.mk (hbox); have n4_ := Aside0.mk ((by rw [hg]; exact (below_size (by repeat (first | (with_reducible first | exact HB.out | apply below_alloc | apply pw_below_drewN | apply below_drew1 | refine below_set ?_ GE145.out | refine below_set ?_ GE148.out) | exact HB.out))) : w.heap.size ≤ gb150)); have n5_ := Aside0.mk ((by rw [hg]; exact (below_size (by repeat (first | (with_reducible first | exact HB.out | apply below_alloc | apply pw_below_drewN | apply below_drew1 | refine below_set ?_ GE145.out | refine below_set ?_ GE148.out) | exact HB.out))) : w.heap.size ≤ gb150)); have n6_ := Aside0.mk ((by rw [hg]; exact Nat.ne_of_lt (blk_lt (g := gb145) (o := .cells #[.int .i64 a0_0, .int .i64 a0_1, .int .u64 a0_2] 24 (0, 0)) (by (with_reducible repeat (first | refine blk_drewN ?_ _ | refine blk_drew ?_ | refine blk_alloc ?_ _)); exact BK145.out)) : gb145 ≠ gb150)); have n7_ := Aside0.mk ((by rw [hg]; exact Nat.ne_of_gt (blk_lt (g := gb145) (o := .cells #[.int .i64 a0_0, .int .i64 a0_1, .int .u64 a0_2] 24 (0, 0)) (by (with_reducible repeat (first | refine blk_drewN ?_ _ | refine blk_drew ?_ | refine blk_alloc ?_ _)); exact BK145.out)) : gb150 ≠ gb145)); have n8_ := Aside0.mk ((by rw [hg]; exact Nat.ne_of_lt (blk_lt (g := gb148) (o := .cells #[.int .i64 x149000_2, .int .i64 x149001_2] 26 (0, 0)) (by (with_reducible repeat (first | refine blk_drewN ?_ _ | refine blk_drew ?_ | refine blk_alloc ?_ _)); exact BK148.out)) : gb148 ≠ gb150)); have n9_ := Aside0.mk ((by rw [hg]; exact Nat.ne_of_gt (blk_lt (g := gb148) (o := .cells #[.int .i64 x149000_2, .int .i64 x149001_2] 26 (0, 0)) (by (with_reducible repeat (first | refine blk_drewN ?_ _ | refine blk_drew ?_ | refine blk_alloc ?_ _)); exact BK148.out)) : gb150 ≠ gb148)); clear BK145; clear BK148; clear HB; have BK145 := n0_; have BK148 := n1_; have HB := n2_; have BK150 := n3_; have GW150 := n4_; have GE150 := n5_; have NB145_150 := n6_; have NB150_145 := n7_; have NB148_150 := n8_; have NB150_148 := n9_; clear n0_ n1_ n2_ n3_ n4_ n5_ n6_ n7_ n8_ n9_; clear hb hbox hg; have hnb35 := NB150_145.out; have hnc35 := NB145_150.out; have hnb36 := NB150_148.out; have hnc36 := NB148_150.out; have hcz37_0 : w34.cell? ⟨gb150, 0, none⟩ = some (.bool false) := (blk_cell BK150.out 0).trans rfl; have hcz37_1 : w34.cell? ⟨gb150, 1, none⟩ = some (.int .u64 0) := (blk_cell BK150.out 1).trans rfl; have hfz37_0 := blk_frozen BK150.out 0; have hfz37_1 := blk_frozen BK150.out 1; have hnb38 := NB145_148.out; have hnc38 := NB148_145.out; have hcz39_0 : w34.cell? ⟨gb145, 0, none⟩ = some (.int .i64 a0_0) := (blk_cell BK145.out 0).trans rfl; have hcz39_1 : w34.cell? ⟨gb145, 1, none⟩ = some (.int .i64 a0_1) := (blk_cell BK145.out 1).trans rfl; have hcz39_2 : w34.cell? ⟨gb145, 2, none⟩ = some (.int .u64 a0_2) := (blk_cell BK145.out 2).trans rfl; have hfz39_0 := blk_frozen BK145.out 0; have hfz39_1 := blk_frozen BK145.out 1; have hfz39_2 := blk_frozen BK145.out 2; have hcz40_0 : w34.cell? ⟨gb148, 0, none⟩ = some (.int .i64 x149000_2) := (blk_cell BK148.out 0).trans rfl; have hcz40_1 : w34.cell? ⟨gb148, 1, none⟩ = some (.int .i64 x149001_2) := (blk_cell BK148.out 1).trans rfl; have hfz40_0 := blk_frozen BK148.out 0; have hfz40_1 := blk_frozen BK148.out 1) | (go_at_call 23; (with_reducible refine (health_Step.calls k2 a0_0 a0_1 a0_2 x149000_2 x149001_2 ((rd_T28 l1 x41_2).f0) ((rd_T28 l1 x41_2).f1) t151 t152 _ (by first | exact A32.out | (have h_ := A32.out; exact h_))).mono ?_); rintro e w41 ⟨rfl, hb⟩; have n0_ := Aside0.mk (blk_below (g := gb145) (o := .cells #[.int .i64 a0_0, .int .i64 a0_1, .int .u64 a0_2] 24 (0, 0)) (by (with_reducible repeat (first | refine blk_drewN ?_ _ | refine blk_drew ?_ | refine blk_alloc ?_ _)); refine blk_far ?_ NB145_150.out _; (with_reducible repeat (first | refine blk_drewN ?_ _ | refine blk_drew ?_ | refine blk_alloc ?_ _)); refine blk_far ?_ NB145_150.out _; (with_reducible repeat (first | refine blk_drewN ?_ _ | refine blk_drew ?_ | refine blk_alloc ?_ _)); exact BK145.out) hb); have n1_ := Aside0.mk (blk_below (g := gb148) (o := .cells #[.int .i64 x149000_2, .int .i64 x149001_2] 26 (0, 0)) (by (with_reducible repeat (first | refine blk_drewN ?_ _ | refine blk_drew ?_ | refine blk_alloc ?_ _)); refine blk_far ?_ NB148_150.out _; (with_reducible repeat (first | refine blk_drewN ?_ _ | refine blk_drew ?_ | refine blk_alloc ?_ _)); refine blk_far ?_ NB148_150.out _; (with_reducible repeat (first | refine blk_drewN ?_ _ | refine blk_drew ?_ | refine blk_alloc ?_ _)); exact BK148.out) hb); have n2_ := Aside0.mk (blk_below (g := gb150) (o := .cells #[.bool ((rd_T28 l1 x41_2).f0), .int .u64 ((rd_T28 l1 x41_2).f1)] 28 (0, 0)) (by (with_reducible repeat (first | refine blk_drewN ?_ _ | refine blk_drew ?_ | refine blk_alloc ?_ _)); refine blk_put (cs := #[.bool ((rd_T28 l1 x41_2).f0), .int .u64 0]) ?_ 1 _ rfl; (with_reducible repeat (first | refine blk_drewN ?_ _ | refine blk_drew ?_ | refine blk_alloc ?_ _)); refine blk_put (cs := #[.bool false, .int .u64 0]) ?_ 0 _ rfl; (with_reducible repeat (first | refine blk_drewN ?_ _ | refine blk_drew ?_ | refine blk_alloc ?_ _)); exact BK150.out) hb); have n3_ := Aside0.mk (below_step (by repeat (first | (with_reducible first | exact HB.out | apply below_alloc | apply pw_below_drewN | apply below_drew1 | refine below_set ?_ GE145.out | refine below_set ?_ GE148.out | refine below_set ?_ GE150.out) | exact HB.out)) hb); clear BK145; clear BK148; clear BK150; clear HB; have BK145 := n0_; have BK148 := n1_; have BK150 := n2_; have HB := n3_; clear n0_ n1_ n2_ n3_; (try clear hb); (try clear hb2); (try clear hk); (try clear hi); have hcz42_0 : w41.cell? ⟨gb148, 0, none⟩ = some (.int .i64 x149000_2) := (blk_cell BK148.out 0).trans rfl; have hcz42_1 : w41.cell? ⟨gb148, 1, none⟩ = some (.int .i64 x149001_2) := (blk_cell BK148.out 1).trans rfl; have hfz42_0 := blk_frozen BK148.out 0; have hfz42_1 := blk_frozen BK148.out 1))
           repeat (go_quiet (first | ((with_reducible refine gate_dst (N := 9) rfl ?_); (try (refine gate_guard (by rfl) ?_; dsimp only)); refine box_event ?hg (N := 9) ?hd (cs := #[.bool false, .int .u64 0]) (t := 28) ?hr ?_; (case hd => rfl); (case hg => rfl); (case hr => first | (go_simp; done) | (go_simp; rfl)); intro gb150 hg w34 hbox hb; have n0_ := Aside0.mk (blk_below (g := gb145) (o := .cells #[.int .i64 a0_0, .int .i64 a0_1, .int .u64 a0_2] 24 (0, 0)) (by (with_reducible repeat (first | refine blk_drewN ?_ _ | refine blk_drew ?_ | refine blk_alloc ?_ _)); exact BK145.out) hb); have n1_ := Aside0.mk (blk_below (g := gb148) (o := .cells #[.int .i64 x149000_2, .int .i64 x149001_2] 26 (0, 0)) (by (with_reducible repeat (first | refine blk_drewN ?_ _ | refine blk_drew ?_ | refine blk_alloc ?_ _)); exact BK148.out) hb); have n2_ := Aside0.mk (below_step (by repeat (first | (with_reducible first | exact HB.out | apply below_alloc | apply pw_below_drewN | apply below_drew1 | refine below_set ?_ GE145.out | refine below_set ?_ GE148.out) | exact HB.out)) hb); have n3_ := Aside0.mk (hbox); have n4_ := Aside0.mk ((by rw [hg]; exact (below_size (by repeat (first | (with_reducible first | exact HB.out | apply below_alloc | apply pw_below_drewN | apply below_drew1 | refine below_set ?_ GE145.out | refine below_set ?_ GE148.out) | exact HB.out))) : w.heap.size ≤ gb150)); have n5_ := Aside0.mk ((by rw [hg]; exact (below_size (by repeat (first | (with_reducible first | exact HB.out | apply below_alloc | apply pw_below_drewN | apply below_drew1 | refine below_set ?_ GE145.out | refine below_set ?_ GE148.out) | exact HB.out))) : w.heap.size ≤ gb150)); have n6_ := Aside0.mk ((by rw [hg]; exact Nat.ne_of_lt (blk_lt (g := gb145) (o := .cells #[.int .i64 a0_0, .int .i64 a0_1, .int .u64 a0_2] 24 (0, 0)) (by (with_reducible repeat (first | refine blk_drewN ?_ _ | refine blk_drew ?_ | refine blk_alloc ?_ _)); exact BK145.out)) : gb145 ≠ gb150)); have n7_ := Aside0.mk ((by rw [hg]; exact Nat.ne_of_gt (blk_lt (g := gb145) (o := .cells #[.int .i64 a0_0, .int .i64 a0_1, .int .u64 a0_2] 24 (0, 0)) (by (with_reducible repeat (first | refine blk_drewN ?_ _ | refine blk_drew ?_ | refine blk_alloc ?_ _)); exact BK145.out)) : gb150 ≠ gb145)); have n8_ := Aside0.mk ((by rw [hg]; exact Nat.ne_of_lt (blk_lt (g := gb148) (o := .cells #[.int .i64 x149000_2, .int .i64 x149001_2] 26 (0, 0)) (by (with_reducible repeat (first | refine blk_drewN ?_ _ | refine blk_drew ?_ | refine blk_alloc ?_ _)); exact BK148.out)) : gb148 ≠ gb150)); have n9_ := Aside0.mk ((by rw [hg]; exact Nat.ne_of_gt (blk_lt (g := gb148) (o := .cells #[.int .i64 x149000_2, .int .i64 x149001_2] 26 (0, 0)) (by (with_reducible repeat (first | refine blk_drewN ?_ _ | refine blk_drew ?_ | refine blk_alloc ?_ _)); exact BK148.out)) : gb150 ≠ gb148)); clear BK145; clear BK148; clear HB; have BK145 := n0_; have BK148 := n1_; have HB := n2_; have BK150 := n3_; have GW150 := n4_; have GE150 := n5_; have NB145_150 := n6_; have NB150_145 := n7_; have NB148_150 := n8_; have NB150_148 := n9_; clear n0_ n1_ n2_ n3_ n4_ n5_ n6_ n7_ n8_ n9_; clear hb hbox hg; have hnb35 := NB150_145.out; have hnc35 := NB145_150.out; have hnb36 := NB150_148.out; have hnc36 := NB148_150.out; have hcz37_0 : w34.cell? ⟨gb150, 0, none⟩ = some (.bool false) := (blk_cell BK150.out 0).trans rfl; have hcz37_1 : w34.cell? ⟨gb150, 1, none⟩ = some (.int .u64 0) := (blk_cell BK150.out 1).trans rfl; have hfz37_0 := blk_frozen BK150.out 0; have hfz37_1 := blk_frozen BK150.out 1; have hnb38 := NB145_148.out; have hnc38 := NB148_145.out; have hcz39_0 : w34.cell? ⟨gb145, 0, none⟩ = some (.int .i64 a0_0) := (blk_cell BK145.out 0).trans rfl; have hcz39_1 : w34.cell? ⟨gb145, 1, none⟩ = some (.int .i64 a0_1) := (blk_cell BK145.out 1).trans rfl; have hcz39_2 : w34.cell? ⟨gb145, 2, none⟩ = some (.int .u64 a0_2) := (blk_cell BK145.out 2).trans rfl; have hfz39_0 := blk_frozen BK145.out 0; have hfz39_1 := blk_frozen BK145.out 1; have hfz39_2 := blk_frozen BK145.out 2; have hcz40_0 : w34.cell? ⟨gb148, 0, none⟩ = some (.int .i64 x149000_2) := (blk_cell BK148.out 0).trans rfl; have hcz40_1 : w34.cell? ⟨gb148, 1, none⟩ = some (.int .i64 x149001_2) := (blk_cell BK148.out 1).trans rfl; have hfz40_0 := blk_frozen BK148.out 0; have hfz40_1 := blk_frozen BK148.out 1) | (go_at_call 23; (with_reducible refine (health_Step.calls k2 a0_0 a0_1 a0_2 x149000_2 x149001_2 ((rd_T28 l1 x41_2).f0) ((rd_T28 l1 x41_2).f1) t151 t152 _ (by first | exact A32.out | (have h_ := A32.out; exact h_))).mono ?_); rintro e w41 ⟨rfl, hb⟩; have n0_ := Aside0.mk (blk_below (g := gb145) (o := .cells #[.int .i64 a0_0, .int .i64 a0_1, .int .u64 a0_2] 24 (0, 0)) (by (with_reducible repeat (first | refine blk_drewN ?_ _ | refine blk_drew ?_ | refine blk_alloc ?_ _)); refine blk_far ?_ NB145_150.out _; (with_reducible repeat (first | refine blk_drewN ?_ _ | refine blk_drew ?_ | refine blk_alloc ?_ _)); refine blk_far ?_ NB145_150.out _; (with_reducible repeat (first | refine blk_drewN ?_ _ | refine blk_drew ?_ | refine blk_alloc ?_ _)); exact BK145.out) hb); have n1_ := Aside0.mk (blk_below (g := gb148) (o := .cells #[.int .i64 x149000_2, .int .i64 x149001_2] 26 (0, 0)) (by (with_reducible repeat (first | refine blk_drewN ?_ _ | refine blk_drew ?_ | refine blk_alloc ?_ _)); refine blk_far ?_ NB148_150.out _; (with_reducible repeat (first | refine blk_drewN ?_ _ | refine blk_drew ?_ | refine blk_alloc ?_ _)); refine blk_far ?_ NB148_150.out _; (with_reducible repeat (first | refine blk_drewN ?_ _ | refine blk_drew ?_ | refine blk_alloc ?_ _)); exact BK148.out) hb); have n2_ := Aside0.mk (blk_below (g := gb150) (o := .cells #[.bool ((rd_T28 l1 x41_2).f0), .int .u64 ((rd_T28 l1 x41_2).f1)] 28 (0, 0)) (by (with_reducible repeat (first | refine blk_drewN ?_ _ | refine blk_drew ?_ | refine blk_alloc ?_ _)); refine blk_put (cs := #[.bool ((rd_T28 l1 x41_2).f0), .int .u64 0]) ?_ 1 _ rfl; (with_reducible repeat (first | refine blk_drewN ?_ _ | refine blk_drew ?_ | refine blk_alloc ?_ _)); refine blk_put (cs := #[.bool false, .int .u64 0]) ?_ 0 _ rfl; (with_reducible repeat (first | refine blk_drewN ?_ _ | refine blk_drew ?_ | refine blk_alloc ?_ _)); exact BK150.out) hb); have n3_ := Aside0.mk (below_step (by repeat (first | (with_reducible first | exact HB.out | apply below_alloc | apply pw_below_drewN | apply below_drew1 | refine below_set ?_ GE145.out | refine below_set ?_ GE148.out | refine below_set ?_ GE150.out) | exact HB.out)) hb); clear BK145; clear BK148; clear BK150; clear HB; have BK145 := n0_; have BK148 := n1_; have BK150 := n2_; have HB := n3_; clear n0_ n1_ n2_ n3_; (try clear hb); (try clear hb2); (try clear hk); (try clear hi); have hcz42_0 : w41.cell? ⟨gb148, 0, none⟩ = some (.int .i64 x149000_2) := (blk_cell BK148.out 0).trans rfl; have hcz42_1 : w41.cell? ⟨gb148, 1, none⟩ = some (.int .i64 x149001_2) := (blk_cell BK148.out 1).trans rfl; have hfz42_0 := blk_frozen BK148.out 0; have hfz42_1 := blk_frozen BK148.out 1)); try go_wp2_with (first | ((with_reducible refine gate_dst (N := 9) rfl ?_); (try (refine gate_guard (by rfl) ?_; dsimp only)); refine box_event ?hg (N := 9) ?hd (cs := #[.bool false, .int .u64 0]) (t := 28) ?hr ?_; (case hd => rfl); (case hg => rfl); (case hr => first | (go_simp; done) | (go_simp; rfl)); intro gb150 hg w34 hbox hb; have n0_ := Aside0.mk (blk_below (g := gb145) (o := .cells #[.int .i64 a0_0, .int .i64 a0_1, .int .u64 a0_2] 24 (0, 0)) (by (with_reducible repeat (first | refine blk_drewN ?_ _ | refine blk_drew ?_ | refine blk_alloc ?_ _)); exact BK145.out) hb); have n1_ := Aside0.mk (blk_below (g := gb148) (o := .cells #[.int .i64 x149000_2, .int .i64 x149001_2] 26 (0, 0)) (by (with_reducible repeat (first | refine blk_drewN ?_ _ | refine blk_drew ?_ | refine blk_alloc ?_ _)); exact BK148.out) hb); have n2_ := Aside0.mk (below_step (by repeat (first | (with_reducible first | exact HB.out | apply below_alloc | apply pw_below_drewN | apply below_drew1 | refine below_set ?_ GE145.out | refine below_set ?_ GE148.out) | exact HB.out)) hb); have n3_ := Aside0.mk (hbox); have n4_ := Aside0.mk ((by rw [hg]; exact (below_size (by repeat (first | (with_reducible first | exact HB.out | apply below_alloc | apply pw_below_drewN | apply below_drew1 | refine below_set ?_ GE145.out | refine below_set ?_ GE148.out) | exact HB.out))) : w.heap.size ≤ gb150)); have n5_ := Aside0.mk ((by rw [hg]; exact (below_size (by repeat (first | (with_reducible first | exact HB.out | apply below_alloc | apply pw_below_drewN | apply below_drew1 | refine below_set ?_ GE145.out | refine below_set ?_ GE148.out) | exact HB.out))) : w.heap.size ≤ gb150)); have n6_ := Aside0.mk ((by rw [hg]; exact Nat.ne_of_lt (blk_lt (g := gb145) (o := .cells #[.int .i64 a0_0, .int .i64 a0_1, .int .u64 a0_2] 24 (0, 0)) (by (with_reducible repeat (first | refine blk_drewN ?_ _ | refine blk_drew ?_ | refine blk_alloc ?_ _)); exact BK145.out)) : gb145 ≠ gb150)); have n7_ := Aside0.mk ((by rw [hg]; exact Nat.ne_of_gt (blk_lt (g := gb145) (o := .cells #[.int .i64 a0_0, .int .i64 a0_1, .int .u64 a0_2] 24 (0, 0)) (by (with_reducible repeat (first | refine blk_drewN ?_ _ | refine blk_drew ?_ | refine blk_alloc ?_ _)); exact BK145.out)) : gb150 ≠ gb145)); have n8_ := Aside0.mk ((by rw [hg]; exact Nat.ne_of_lt (blk_lt (g := gb148) (o := .cells #[.int .i64 x149000_2, .int .i64 x149001_2] 26 (0, 0)) (by (with_reducible repeat (first | refine blk_drewN ?_ _ | refine blk_drew ?_ | refine blk_alloc ?_ _)); exact BK148.out)) : gb148 ≠ gb150)); have n9_ := Aside0.mk ((by rw [hg]; exact Nat.ne_of_gt (blk_lt (g := gb148) (o := .cells #[.int .i64 x149000_2, .int .i64 x149001_2] 26 (0, 0)) (by (with_reducible repeat (first | refine blk_drewN ?_ _ | refine blk_drew ?_ | refine blk_alloc ?_ _)); exact BK148.out)) : gb150 ≠ gb148)); clear BK145; clear BK148; clear HB; have BK145 := n0_; have BK148 := n1_; have HB := n2_; have BK150 := n3_; have GW150 := n4_; have GE150 := n5_; have NB145_150 := n6_; have NB150_145 := n7_; have NB148_150 := n8_; have NB150_148 := n9_; clear n0_ n1_ n2_ n3_ n4_ n5_ n6_ n7_ n8_ n9_; clear hb hbox hg; have hnb35 := NB150_145.out; have hnc35 := NB145_150.out; have hnb36 := NB150_148.out; have hnc36 := NB148_150.out; have hcz37_0 : w34.cell? ⟨gb150, 0, none⟩ = some (.bool false) := (blk_cell BK150.out 0).trans rfl; have hcz37_1 : w34.cell? ⟨gb150, 1, none⟩ = some (.int .u64 0) := (blk_cell BK150.out 1).trans rfl; have hfz37_0 := blk_frozen BK150.out 0; have hfz37_1 := blk_frozen BK150.out 1; have hnb38 := NB145_148.out; have hnc38 := NB148_145.out; have hcz39_0 : w34.cell? ⟨gb145, 0, none⟩ = some (.int .i64 a0_0) := (blk_cell BK145.out 0).trans rfl; have hcz39_1 : w34.cell? ⟨gb145, 1, none⟩ = some (.int .i64 a0_1) := (blk_cell BK145.out 1).trans rfl; have hcz39_2 : w34.cell? ⟨gb145, 2, none⟩ = some (.int .u64 a0_2) := (blk_cell BK145.out 2).trans rfl; have hfz39_0 := blk_frozen BK145.out 0; have hfz39_1 := blk_frozen BK145.out 1; have hfz39_2 := blk_frozen BK145.out 2; have hcz40_0 : w34.cell? ⟨gb148, 0, none⟩ = some (.int .i64 x149000_2) := (blk_cell BK148.out 0).trans rfl; have hcz40_1 : w34.cell? ⟨gb148, 1, none⟩ = some (.int .i64 x149001_2) := (blk_cell BK148.out 1).trans rfl; have hfz40_0 := blk_frozen BK148.out 0; have hfz40_1 := blk_frozen BK148.out 1) | (go_at_call 23; (with_reducible refine (health_Step.calls k2 a0_0 a0_1 a0_2 x149000_2 x149001_2 ((rd_T28 l1 x41_2).f0) ((rd_T28 l1 x41_2).f1) t151 t152 _ (by first | exact A32.out | (have h_ := A32.out; exact h_))).mono ?_); rintro e w41 ⟨rfl, hb⟩; have n0_ := Aside0.mk (blk_below (g := gb145) (o := .cells #[.int .i64 a0_0, .int .i64 a0_1, .int .u64 a0_2] 24 (0, 0)) (by (with_reducible repeat (first | refine blk_drewN ?_ _ | refine blk_drew ?_ | refine blk_alloc ?_ _)); refine blk_far ?_ NB145_150.out _; (with_reducible repeat (first | refine blk_drewN ?_ _ | refine blk_drew ?_ | refine blk_alloc ?_ _)); refine blk_far ?_ NB145_150.out _; (with_reducible repeat (first | refine blk_drewN ?_ _ | refine blk_drew ?_ | refine blk_alloc ?_ _)); exact BK145.out) hb); have n1_ := Aside0.mk (blk_below (g := gb148) (o := .cells #[.int .i64 x149000_2, .int .i64 x149001_2] 26 (0, 0)) (by (with_reducible repeat (first | refine blk_drewN ?_ _ | refine blk_drew ?_ | refine blk_alloc ?_ _)); refine blk_far ?_ NB148_150.out _; (with_reducible repeat (first | refine blk_drewN ?_ _ | refine blk_drew ?_ | refine blk_alloc ?_ _)); refine blk_far ?_ NB148_150.out _; (with_reducible repeat (first | refine blk_drewN ?_ _ | refine blk_drew ?_ | refine blk_alloc ?_ _)); exact BK148.out) hb); have n2_ := Aside0.mk (blk_below (g := gb150) (o := .cells #[.bool ((rd_T28 l1 x41_2).f0), .int .u64 ((rd_T28 l1 x41_2).f1)] 28 (0, 0)) (by (with_reducible repeat (first | refine blk_drewN ?_ _ | refine blk_drew ?_ | refine blk_alloc ?_ _)); refine blk_put (cs := #[.bool ((rd_T28 l1 x41_2).f0), .int .u64 0]) ?_ 1 _ rfl; (with_reducible repeat (first | refine blk_drewN ?_ _ | refine blk_drew ?_ | refine blk_alloc ?_ _)); refine blk_put (cs := #[.bool false, .int .u64 0]) ?_ 0 _ rfl; (with_reducible repeat (first | refine blk_drewN ?_ _ | refine blk_drew ?_ | refine blk_alloc ?_ _)); exact BK150.out) hb); have n3_ := Aside0.mk (below_step (by repeat (first | (with_reducible first | exact HB.out | apply below_alloc | apply pw_below_drewN | apply below_drew1 | refine below_set ?_ GE145.out | refine below_set ?_ GE148.out | refine below_set ?_ GE150.out) | exact HB.out)) hb); clear BK145; clear BK148; clear BK150; clear HB; have BK145 := n0_; have BK148 := n1_; have BK150 := n2_; have HB := n3_; clear n0_ n1_ n2_ n3_; (try clear hb); (try clear hb2); (try clear hk); (try clear hi); have hcz42_0 : w41.cell? ⟨gb148, 0, none⟩ = some (.int .i64 x149000_2) := (blk_cell BK148.out 0).trans rfl; have hcz42_1 : w41.cell? ⟨gb148, 1, none⟩ = some (.int .i64 x149001_2) := (blk_cell BK148.out 1).trans rfl; have hfz42_0 := blk_frozen BK148.out 0; have hfz42_1 := blk_frozen BK148.out 1)))
           go_ret
           exact ⟨by first | rfl | (simp [errW_none, errW_some] <;> rfl) | (simp [*, errW_none, errW_some] <;> rfl), by repeat (first | (with_reducible first | exact HB.out | apply below_alloc | apply pw_below_drewN | apply below_drew1 | refine below_set ?_ GE145.out | refine below_set ?_ GE148.out | refine below_set ?_ GE150.out) | exact HB.out)⟩
          ·rw [if_neg c33] at H
           have c33b0 : decide (t151 < 1) = false := decide_eq_false c33
           clear c33
           by_cases c43 : t151 > 3
           ·rw [if_pos c43] at H
            have c43b0 : decide (3 < t151) = true := decide_eq_true c43
            clear c43
            obtain rfl := Option.some.inj H
            have p149 : 0 ≤ (x41_2 : Int) := of_decide_eq_true (by first | (with_reducible assumption) | assumption)
            have q149 : x41_2 < (l1.length : Int) := of_decide_eq_true (by first | (with_reducible assumption) | assumption)
            obtain ⟨ad149, e149, hx149_0, hx149_1⟩ := at_T28 HR1.out x41_2 p149 q149
            cases e149
            replace hx149_0 := (HB.out.cell (World.block_lt_of_cell? w _ hx149_0)).trans hx149_0
            replace hx149_1 := (HB.out.cell (World.block_lt_of_cell? w _ hx149_1)).trans hx149_1
            replace p149 := eq_true p149
            replace q149 := eq_true q149
            go_wp2_with (first | ((with_reducible refine gate_dst (N := 9) rfl ?_); (try (refine gate_guard (by rfl) ?_; dsimp only)); refine box_event ?hg (N := 9) ?hd (cs := #[.bool false, .int .u64 0]) (t := 28) ?hr ?_; (case hd => rfl); (case hg => rfl); (case hr => first | (go_simp; done) | (go_simp; rfl)); intro gb150 hg w44 hbox hb; have n0_ := Aside0.mk (blk_below (g := gb145) (o := .cells #[.int .i64 a0_0, .int .i64 a0_1, .int .u64 a0_2] 24 (0, 0)) (by (with_reducible repeat (first | refine blk_drewN ?_ _ | refine blk_drew ?_ | refine blk_alloc ?_ _)); exact BK145.out) hb); have n1_ := Aside0.mk (blk_below (g := gb148) (o := .cells #[.int .i64 x149000_2, .int .i64 x149001_2] 26 (0, 0)) (by (with_reducible repeat (first | refine blk_drewN ?_ _ | refine blk_drew ?_ | refine blk_alloc ?_ _)); exact BK148.out) hb); have n2_ := Aside0.mk (below_step (by repeat (first | (with_reducible first | exact HB.out | apply below_alloc | apply pw_below_drewN | apply below_drew1 | refine below_set ?_ GE145.out | refine below_set ?_ GE148.out) | exact HB.out)) hb); have n3_ := Aside0.mk (hbox); have n4_ := Aside0.mk ((by rw [hg]; exact (below_size (by repeat (first | (with_reducible first | exact HB.out | apply below_alloc | apply pw_below_drewN | apply below_drew1 | refine below_set ?_ GE145.out | refine below_set ?_ GE148.out) | exact HB.out))) : w.heap.size ≤ gb150)); have n5_ := Aside0.mk ((by rw [hg]; exact (below_size (by repeat (first | (with_reducible first | exact HB.out | apply below_alloc | apply pw_below_drewN | apply below_drew1 | refine below_set ?_ GE145.out | refine below_set ?_ GE148.out) | exact HB.out))) : w.heap.size ≤ gb150)); have n6_ := Aside0.mk ((by rw [hg]; exact Nat.ne_of_lt (blk_lt (g := gb145) (o := .cells #[.int .i64 a0_0, .int .i64 a0_1, .int .u64 a0_2] 24 (0, 0)) (by (with_reducible repeat (first | refine blk_drewN ?_ _ | refine blk_drew ?_ | refine blk_alloc ?_ _)); exact BK145.out)) : gb145 ≠ gb150)); have n7_ := Aside0.mk ((by rw [hg]; exact Nat.ne_of_gt (blk_lt (g := gb145) (o := .cells #[.int .i64 a0_0, .int .i64 a0_1, .int .u64 a0_2] 24 (0, 0)) (by (with_reducible repeat (first | refine blk_drewN ?_ _ | refine blk_drew ?_ | refine blk_alloc ?_ _)); exact BK145.out)) : gb150 ≠ gb145)); have n8_ := Aside0.mk ((by rw [hg]; exact Nat.ne_of_lt (blk_lt (g := gb148) (o := .cells #[.int .i64 x149000_2, .int .i64 x149001_2] 26 (0, 0)) (by (with_reducible repeat (first | refine blk_drewN ?_ _ | refine blk_drew ?_ | refine blk_alloc ?_ _)); exact BK148.out)) : gb148 ≠ gb150)); have n9_ := Aside0.mk ((by rw [hg]; exact Nat.ne_of_gt (blk_lt (g := gb148) (o := .cells #[.int .i64 x149000_2, .int .i64 x149001_2] 26 (0, 0)) (by (with_reducible repeat (first | refine blk_drewN ?_ _ | refine blk_drew ?_ | refine blk_alloc ?_ _)); exact BK148.out)) : gb150 ≠ gb148)); clear BK145; clear BK148; clear HB; have BK145 := n0_; have BK148 := n1_; have HB := n2_; have BK150 := n3_; have GW150 := n4_; have GE150 := n5_; have NB145_150 := n6_; have NB150_145 := n7_; have NB148_150 := n8_; have NB150_148 := n9_; clear n0_ n1_ n2_ n3_ n4_ n5_ n6_ n7_ n8_ n9_; clear hb hbox hg; have hnb45 := NB150_145.out; have hnc45 := NB145_150.out; have hnb46 := NB150_148.out; have hnc46 := NB148_150.out; have hcz47_0 : w44.cell? ⟨gb150, 0, none⟩ = some (.bool false) := (blk_cell BK150.out 0).trans rfl; have hcz47_1 : w44.cell? ⟨gb150, 1, none⟩ = some (.int .u64 0) := (blk_cell BK150.out 1).trans rfl; have hfz47_0 := blk_frozen BK150.out 0; have hfz47_1 := blk_frozen BK150.out 1; have hnb48 := NB145_148.out; have hnc48 := NB148_145.out; have hcz49_0 : w44.cell? ⟨gb145, 0, none⟩ = some (.int .i64 a0_0) := (blk_cell BK145.out 0).trans rfl; have hcz49_1 : w44.cell? ⟨gb145, 1, none⟩ = some (.int .i64 a0_1) := (blk_cell BK145.out 1).trans rfl; have hcz49_2 : w44.cell? ⟨gb145, 2, none⟩ = some (.int .u64 a0_2) := (blk_cell BK145.out 2).trans rfl; have hfz49_0 := blk_frozen BK145.out 0; have hfz49_1 := blk_frozen BK145.out 1; have hfz49_2 := blk_frozen BK145.out 2; have hcz50_0 : w44.cell? ⟨gb148, 0, none⟩ = some (.int .i64 x149000_2) := (blk_cell BK148.out 0).trans rfl; have hcz50_1 : w44.cell? ⟨gb148, 1, none⟩ = some (.int .i64 x149001_2) := (blk_cell BK148.out 1).trans rfl; have hfz50_0 := blk_frozen BK148.out 0; have hfz50_1 := blk_frozen BK148.out 1) | (go_at_call 23; (with_reducible refine (health_Step.calls k2 a0_0 a0_1 a0_2 x149000_2 x149001_2 ((rd_T28 l1 x41_2).f0) ((rd_T28 l1 x41_2).f1) t151 t152 _ (by first | exact A32.out | (have h_ := A32.out; exact h_))).mono ?_); rintro e w51 ⟨rfl, hb⟩; have n0_ := Aside0.mk (blk_below (g := gb145) (o := .cells #[.int .i64 a0_0, .int .i64 a0_1, .int .u64 a0_2] 24 (0, 0)) (by (with_reducible repeat (first | refine blk_drewN ?_ _ | refine blk_drew ?_ | refine blk_alloc ?_ _)); refine blk_far ?_ NB145_150.out _; (with_reducible repeat (first | refine blk_drewN ?_ _ | refine blk_drew ?_ | refine blk_alloc ?_ _)); refine blk_far ?_ NB145_150.out _; (with_reducible repeat (first | refine blk_drewN ?_ _ | refine blk_drew ?_ | refine blk_alloc ?_ _)); exact BK145.out) hb); have n1_ := Aside0.mk (blk_below (g := gb148) (o := .cells #[.int .i64 x149000_2, .int .i64 x149001_2] 26 (0, 0)) (by (with_reducible repeat (first | refine blk_drewN ?_ _ | refine blk_drew ?_ | refine blk_alloc ?_ _)); refine blk_far ?_ NB148_150.out _; (with_reducible repeat (first | refine blk_drewN ?_ _ | refine blk_drew ?_ | refine blk_alloc ?_ _)); refine blk_far ?_ NB148_150.out _; (with_reducible repeat (first | refine blk_drewN ?_ _ | refine blk_drew ?_ | refine blk_alloc ?_ _)); exact BK148.out) hb); have n2_ := Aside0.mk (blk_below (g := gb150) (o := .cells #[.bool ((rd_T28 l1 x41_2).f0), .int .u64 ((rd_T28 l1 x41_2).f1)] 28 (0, 0)) (by (with_reducible repeat (first | refine blk_drewN ?_ _ | refine blk_drew ?_ | refine blk_alloc ?_ _)); refine blk_put (cs := #[.bool ((rd_T28 l1 x41_2).f0), .int .u64 0]) ?_ 1 _ rfl; (with_reducible repeat (first | refine blk_drewN ?_ _ | refine blk_drew ?_ | refine blk_alloc ?_ _)); refine blk_put (cs := #[.bool false, .int .u64 0]) ?_ 0 _ rfl; (with_reducible repeat (first | refine blk_drewN ?_ _ | refine blk_drew ?_ | refine blk_alloc ?_ _)); exact BK150.out) hb); have n3_ := Aside0.mk (below_step (by repeat (first | (with_reducible first | exact HB.out | apply below_alloc | apply pw_below_drewN | apply below_drew1 | refine below_set ?_ GE145.out | refine below_set ?_ GE148.out | refine below_set ?_ GE150.out) | exact HB.out)) hb); clear BK145; clear BK148; clear BK150; clear HB; have BK145 := n0_; have BK148 := n1_; have BK150 := n2_; have HB := n3_; clear n0_ n1_ n2_ n3_; (try clear hb); (try clear hb2); (try clear hk); (try clear hi); have hcz52_0 : w51.cell? ⟨gb148, 0, none⟩ = some (.int .i64 x149000_2) := (blk_cell BK148.out 0).trans rfl; have hcz52_1 : w51.cell? ⟨gb148, 1, none⟩ = some (.int .i64 x149001_2) := (blk_cell BK148.out 1).trans rfl; have hfz52_0 := blk_frozen BK148.out 0; have hfz52_1 := blk_frozen BK148.out 1))
            repeat (go_quiet (first | ((with_reducible refine gate_dst (N := 9) rfl ?_); (try (refine gate_guard (by rfl) ?_; dsimp only)); refine box_event ?hg (N := 9) ?hd (cs := #[.bool false, .int .u64 0]) (t := 28) ?hr ?_; (case hd => rfl); (case hg => rfl); (case hr => first | (go_simp; done) | (go_simp; rfl)); intro gb150 hg w44 hbox hb; have n0_ := Aside0.mk (blk_below (g := gb145) (o := .cells #[.int .i64 a0_0, .int .i64 a0_1, .int .u64 a0_2] 24 (0, 0)) (by (with_reducible repeat (first | refine blk_drewN ?_ _ | refine blk_drew ?_ | refine blk_alloc ?_ _)); exact BK145.out) hb); have n1_ := Aside0.mk (blk_below (g := gb148) (o := .cells #[.int .i64 x149000_2, .int .i64 x149001_2] 26 (0, 0)) (by (with_reducible repeat (first | refine blk_drewN ?_ _ | refine blk_drew ?_ | refine blk_alloc ?_ _)); exact BK148.out) hb); have n2_ := Aside0.mk (below_step (by repeat (first | (with_reducible first | exact HB.out | apply below_alloc | apply pw_below_drewN | apply below_drew1 | refine below_set ?_ GE145.out | refine below_set ?_ GE148.out) | exact HB.out)) hb); have n3_ := Aside0.mk (hbox); have n4_ := Aside0.mk ((by rw [hg]; exact (below_size (by repeat (first | (with_reducible first | exact HB.out | apply below_alloc | apply pw_below_drewN | apply below_drew1 | refine below_set ?_ GE145.out | refine below_set ?_ GE148.out) | exact HB.out))) : w.heap.size ≤ gb150)); have n5_ := Aside0.mk ((by rw [hg]; exact (below_size (by repeat (first | (with_reducible first | exact HB.out | apply below_alloc | apply pw_below_drewN | apply below_drew1 | refine below_set ?_ GE145.out | refine below_set ?_ GE148.out) | exact HB.out))) : w.heap.size ≤ gb150)); have n6_ := Aside0.mk ((by rw [hg]; exact Nat.ne_of_lt (blk_lt (g := gb145) (o := .cells #[.int .i64 a0_0, .int .i64 a0_1, .int .u64 a0_2] 24 (0, 0)) (by (with_reducible repeat (first | refine blk_drewN ?_ _ | refine blk_drew ?_ | refine blk_alloc ?_ _)); exact BK145.out)) : gb145 ≠ gb150)); have n7_ := Aside0.mk ((by rw [hg]; exact Nat.ne_of_gt (blk_lt (g := gb145) (o := .cells #[.int .i64 a0_0, .int .i64 a0_1, .int .u64 a0_2] 24 (0, 0)) (by (with_reducible repeat (first | refine blk_drewN ?_ _ | refine blk_drew ?_ | refine blk_alloc ?_ _)); exact BK145.out)) : gb150 ≠ gb145)); have n8_ := Aside0.mk ((by rw [hg]; exact Nat.ne_of_lt (blk_lt (g := gb148) (o := .cells #[.int .i64 x149000_2, .int .i64 x149001_2] 26 (0, 0)) (by (with_reducible repeat (first | refine blk_drewN ?_ _ | refine blk_drew ?_ | refine blk_alloc ?_ _)); exact BK148.out)) : gb148 ≠ gb150)); have n9_ := Aside0.mk ((by rw [hg]; exact Nat.ne_of_gt (blk_lt (g := gb148) (o := .cells #[.int .i64 x149000_2, .int .i64 x149001_2] 26 (0, 0)) (by (with_reducible repeat (first | refine blk_drewN ?_ _ | refine blk_drew ?_ | refine blk_alloc ?_ _)); exact BK148.out)) : gb150 ≠ gb148)); clear BK145; clear BK148; clear HB; have BK145 := n0_; have BK148 := n1_; have HB := n2_; have BK150 := n3_; have GW150 := n4_; have GE150 := n5_; have NB145_150 := n6_; have NB150_145 := n7_; have NB148_150 := n8_; have NB150_148 := n9_; clear n0_ n1_ n2_ n3_ n4_ n5_ n6_ n7_ n8_ n9_; clear hb hbox hg; have hnb45 := NB150_145.out; have hnc45 := NB145_150.out; have hnb46 := NB150_148.out; have hnc46 := NB148_150.out; have hcz47_0 : w44.cell? ⟨gb150, 0, none⟩ = some (.bool false) := (blk_cell BK150.out 0).trans rfl; have hcz47_1 : w44.cell? ⟨gb150, 1, none⟩ = some (.int .u64 0) := (blk_cell BK150.out 1).trans rfl; have hfz47_0 := blk_frozen BK150.out 0; have hfz47_1 := blk_frozen BK150.out 1; have hnb48 := NB145_148.out; have hnc48 := NB148_145.out; have hcz49_0 : w44.cell? ⟨gb145, 0, none⟩ = some (.int .i64 a0_0) := (blk_cell BK145.out 0).trans rfl; have hcz49_1 : w44.cell? ⟨gb145, 1, none⟩ = some (.int .i64 a0_1) := (blk_cell BK145.out 1).trans rfl; have hcz49_2 : w44.cell? ⟨gb145, 2, none⟩ = some (.int .u64 a0_2) := (blk_cell BK145.out 2).trans rfl; have hfz49_0 := blk_frozen BK145.out 0; have hfz49_1 := blk_frozen BK145.out 1; have hfz49_2 := blk_frozen BK145.out 2; have hcz50_0 : w44.cell? ⟨gb148, 0, none⟩ = some (.int .i64 x149000_2) := (blk_cell BK148.out 0).trans rfl; have hcz50_1 : w44.cell? ⟨gb148, 1, none⟩ = some (.int .i64 x149001_2) := (blk_cell BK148.out 1).trans rfl; have hfz50_0 := blk_frozen BK148.out 0; have hfz50_1 := blk_frozen BK148.out 1) | (go_at_call 23; (with_reducible refine (health_Step.calls k2 a0_0 a0_1 a0_2 x149000_2 x149001_2 ((rd_T28 l1 x41_2).f0) ((rd_T28 l1 x41_2).f1) t151 t152 _ (by first | exact A32.out | (have h_ := A32.out; exact h_))).mono ?_); rintro e w51 ⟨rfl, hb⟩; have n0_ := Aside0.mk (blk_below (g := gb145) (o := .cells #[.int .i64 a0_0, .int .i64 a0_1, .int .u64 a0_2] 24 (0, 0)) (by (with_reducible repeat (first | refine blk_drewN ?_ _ | refine blk_drew ?_ | refine blk_alloc ?_ _)); refine blk_far ?_ NB145_150.out _; (with_reducible repeat (first | refine blk_drewN ?_ _ | refine blk_drew ?_ | refine blk_alloc ?_ _)); refine blk_far ?_ NB145_150.out _; (with_reducible repeat (first | refine blk_drewN ?_ _ | refine blk_drew ?_ | refine blk_alloc ?_ _)); exact BK145.out) hb); have n1_ := Aside0.mk (blk_below (g := gb148) (o := .cells #[.int .i64 x149000_2, .int .i64 x149001_2] 26 (0, 0)) (by (with_reducible repeat (first | refine blk_drewN ?_ _ | refine blk_drew ?_ | refine blk_alloc ?_ _)); refine blk_far ?_ NB148_150.out _; (with_reducible repeat (first | refine blk_drewN ?_ _ | refine blk_drew ?_ | refine blk_alloc ?_ _)); refine blk_far ?_ NB148_150.out _; (with_reducible repeat (first | refine blk_drewN ?_ _ | refine blk_drew ?_ | refine blk_alloc ?_ _)); exact BK148.out) hb); have n2_ := Aside0.mk (blk_below (g := gb150) (o := .cells #[.bool ((rd_T28 l1 x41_2).f0), .int .u64 ((rd_T28 l1 x41_2).f1)] 28 (0, 0)) (by (with_reducible repeat (first | refine blk_drewN ?_ _ | refine blk_drew ?_ | refine blk_alloc ?_ _)); refine blk_put (cs := #[.bool ((rd_T28 l1 x41_2).f0), .int .u64 0]) ?_ 1 _ rfl; (with_reducible repeat (first | refine blk_drewN ?_ _ | refine blk_drew ?_ | refine blk_alloc ?_ _)); refine blk_put (cs := #[.bool false, .int .u64 0]) ?_ 0 _ rfl; (with_reducible repeat (first | refine blk_drewN ?_ _ | refine blk_drew ?_ | refine blk_alloc ?_ _)); exact BK150.out) hb); have n3_ := Aside0.mk (below_step (by repeat (first | (with_reducible first | exact HB.out | apply below_alloc | apply pw_below_drewN | apply below_drew1 | refine below_set ?_ GE145.out | refine below_set ?_ GE148.out | refine below_set ?_ GE150.out) | exact HB.out)) hb); clear BK145; clear BK148; clear BK150; clear HB; have BK145 := n0_; have BK148 := n1_; have BK150 := n2_; have HB := n3_; clear n0_ n1_ n2_ n3_; (try clear hb); (try clear hb2); (try clear hk); (try clear hi); have hcz52_0 : w51.cell? ⟨gb148, 0, none⟩ = some (.int .i64 x149000_2) := (blk_cell BK148.out 0).trans rfl; have hcz52_1 : w51.cell? ⟨gb148, 1, none⟩ = some (.int .i64 x149001_2) := (blk_cell BK148.out 1).trans rfl; have hfz52_0 := blk_frozen BK148.out 0; have hfz52_1 := blk_frozen BK148.out 1)); try go_wp2_with (first | ((with_reducible refine gate_dst (N := 9) rfl ?_); (try (refine gate_guard (by rfl) ?_; dsimp only)); refine box_event ?hg (N := 9) ?hd (cs := #[.bool false, .int .u64 0]) (t := 28) ?hr ?_; (case hd => rfl); (case hg => rfl); (case hr => first | (go_simp; done) | (go_simp; rfl)); intro gb150 hg w44 hbox hb; have n0_ := Aside0.mk (blk_below (g := gb145) (o := .cells #[.int .i64 a0_0, .int .i64 a0_1, .int .u64 a0_2] 24 (0, 0)) (by (with_reducible repeat (first | refine blk_drewN ?_ _ | refine blk_drew ?_ | refine blk_alloc ?_ _)); exact BK145.out) hb); have n1_ := Aside0.mk (blk_below (g := gb148) (o := .cells #[.int .i64 x149000_2, .int .i64 x149001_2] 26 (0, 0)) (by (with_reducible repeat (first | refine blk_drewN ?_ _ | refine blk_drew ?_ | refine blk_alloc ?_ _)); exact BK148.out) hb); have n2_ := Aside0.mk (below_step (by repeat (first | (with_reducible first | exact HB.out | apply below_alloc | apply pw_below_drewN | apply below_drew1 | refine below_set ?_ GE145.out | refine below_set ?_ GE148.out) | exact HB.out)) hb); have n3_ := Aside0.mk (hbox); have n4_ := Aside0.mk ((by rw [hg]; exact (below_size (by repeat (first | (with_reducible first | exact HB.out | apply below_alloc | apply pw_below_drewN | apply below_drew1 | refine below_set ?_ GE145.out | refine below_set ?_ GE148.out) | exact HB.out))) : w.heap.size ≤ gb150)); have n5_ := Aside0.mk ((by rw [hg]; exact (below_size (by repeat (first | (with_reducible first | exact HB.out | apply below_alloc | apply pw_below_drewN | apply below_drew1 | refine below_set ?_ GE145.out | refine below_set ?_ GE148.out) | exact HB.out))) : w.heap.size ≤ gb150)); have n6_ := Aside0.mk ((by rw [hg]; exact Nat.ne_of_lt (blk_lt (g := gb145) (o := .cells #[.int .i64 a0_0, .int .i64 a0_1, .int .u64 a0_2] 24 (0, 0)) (by (with_reducible repeat (first | refine blk_drewN ?_ _ | refine blk_drew ?_ | refine blk_alloc ?_ _)); exact BK145.out)) : gb145 ≠ gb150)); have n7_ := Aside0.mk ((by rw [hg]; exact Nat.ne_of_gt (blk_lt (g := gb145) (o := .cells #[.int .i64 a0_0, .int .i64 a0_1, .int .u64 a0_2] 24 (0, 0)) (by (with_reducible repeat (first | refine blk_drewN ?_ _ | refine blk_drew ?_ | refine blk_alloc ?_ _)); exact BK145.out)) : gb150 ≠ gb145)); have n8_ := Aside0.mk ((by rw [hg]; exact Nat.ne_of_lt (blk_lt (g := gb148) (o := .cells #[.int .i64 x149000_2, .int .i64 x149001_2] 26 (0, 0)) (by (with_reducible repeat (first | refine blk_drewN ?_ _ | refine blk_drew ?_ | refine blk_alloc ?_ _)); exact BK148.out)) : gb148 ≠ gb150)); have n9_ := Aside0.mk ((by rw [hg]; exact Nat.ne_of_gt (blk_lt (g := gb148) (o := .cells #[.int .i64 x149000_2, .int .i64 x149001_2] 26 (0, 0)) (by (with_reducible repeat (first | refine blk_drewN ?_ _ | refine blk_drew ?_ | refine blk_alloc ?_ _)); exact BK148.out)) : gb150 ≠ gb148)); clear BK145; clear BK148; clear HB; have BK145 := n0_; have BK148 := n1_; have HB := n2_; have BK150 := n3_; have GW150 := n4_; have GE150 := n5_; have NB145_150 := n6_; have NB150_145 := n7_; have NB148_150 := n8_; have NB150_148 := n9_; clear n0_ n1_ n2_ n3_ n4_ n5_ n6_ n7_ n8_ n9_; clear hb hbox hg; have hnb45 := NB150_145.out; have hnc45 := NB145_150.out; have hnb46 := NB150_148.out; have hnc46 := NB148_150.out; have hcz47_0 : w44.cell? ⟨gb150, 0, none⟩ = some (.bool false) := (blk_cell BK150.out 0).trans rfl; have hcz47_1 : w44.cell? ⟨gb150, 1, none⟩ = some (.int .u64 0) := (blk_cell BK150.out 1).trans rfl; have hfz47_0 := blk_frozen BK150.out 0; have hfz47_1 := blk_frozen BK150.out 1; have hnb48 := NB145_148.out; have hnc48 := NB148_145.out; have hcz49_0 : w44.cell? ⟨gb145, 0, none⟩ = some (.int .i64 a0_0) := (blk_cell BK145.out 0).trans rfl; have hcz49_1 : w44.cell? ⟨gb145, 1, none⟩ = some (.int .i64 a0_1) := (blk_cell BK145.out 1).trans rfl; have hcz49_2 : w44.cell? ⟨gb145, 2, none⟩ = some (.int .u64 a0_2) := (blk_cell BK145.out 2).trans rfl; have hfz49_0 := blk_frozen BK145.out 0; have hfz49_1 := blk_frozen BK145.out 1; have hfz49_2 := blk_frozen BK145.out 2; have hcz50_0 : w44.cell? ⟨gb148, 0, none⟩ = some (.int .i64 x149000_2) := (blk_cell BK148.out 0).trans rfl; have hcz50_1 : w44.cell? ⟨gb148, 1, none⟩ = some (.int .i64 x149001_2) := (blk_cell BK148.out 1).trans rfl; have hfz50_0 := blk_frozen BK148.out 0; have hfz50_1 := blk_frozen BK148.out 1) | (go_at_call 23; (with_reducible refine (health_Step.calls k2 a0_0 a0_1 a0_2 x149000_2 x149001_2 ((rd_T28 l1 x41_2).f0) ((rd_T28 l1 x41_2).f1) t151 t152 _ (by first | exact A32.out | (have h_ := A32.out; exact h_))).mono ?_); rintro e w51 ⟨rfl, hb⟩; have n0_ := Aside0.mk (blk_below (g := gb145) (o := .cells #[.int .i64 a0_0, .int .i64 a0_1, .int .u64 a0_2] 24 (0, 0)) (by (with_reducible repeat (first | refine blk_drewN ?_ _ | refine blk_drew ?_ | refine blk_alloc ?_ _)); refine blk_far ?_ NB145_150.out _; (with_reducible repeat (first | refine blk_drewN ?_ _ | refine blk_drew ?_ | refine blk_alloc ?_ _)); refine blk_far ?_ NB145_150.out _; (with_reducible repeat (first | refine blk_drewN ?_ _ | refine blk_drew ?_ | refine blk_alloc ?_ _)); exact BK145.out) hb); have n1_ := Aside0.mk (blk_below (g := gb148) (o := .cells #[.int .i64 x149000_2, .int .i64 x149001_2] 26 (0, 0)) (by (with_reducible repeat (first | refine blk_drewN ?_ _ | refine blk_drew ?_ | refine blk_alloc ?_ _)); refine blk_far ?_ NB148_150.out _; (with_reducible repeat (first | refine blk_drewN ?_ _ | refine blk_drew ?_ | refine blk_alloc ?_ _)); refine blk_far ?_ NB148_150.out _; (with_reducible repeat (first | refine blk_drewN ?_ _ | refine blk_drew ?_ | refine blk_alloc ?_ _)); exact BK148.out) hb); have n2_ := Aside0.mk (blk_below (g := gb150) (o := .cells #[.bool ((rd_T28 l1 x41_2).f0), .int .u64 ((rd_T28 l1 x41_2).f1)] 28 (0, 0)) (by (with_reducible repeat (first | refine blk_drewN ?_ _ | refine blk_drew ?_ | refine blk_alloc ?_ _)); refine blk_put (cs := #[.bool ((rd_T28 l1 x41_2).f0), .int .u64 0]) ?_ 1 _ rfl; (with_reducible repeat (first | refine blk_drewN ?_ _ | refine blk_drew ?_ | refine blk_alloc ?_ _)); refine blk_put (cs := #[.bool false, .int .u64 0]) ?_ 0 _ rfl; (with_reducible repeat (first | refine blk_drewN ?_ _ | refine blk_drew ?_ | refine blk_alloc ?_ _)); exact BK150.out) hb); have n3_ := Aside0.mk (below_step (by repeat (first | (with_reducible first | exact HB.out | apply below_alloc | apply pw_below_drewN | apply below_drew1 | refine below_set ?_ GE145.out | refine below_set ?_ GE148.out | refine below_set ?_ GE150.out) | exact HB.out)) hb); clear BK145; clear BK148; clear BK150; clear HB; have BK145 := n0_; have BK148 := n1_; have BK150 := n2_; have HB := n3_; clear n0_ n1_ n2_ n3_; (try clear hb); (try clear hb2); (try clear hk); (try clear hi); have hcz52_0 : w51.cell? ⟨gb148, 0, none⟩ = some (.int .i64 x149000_2) := (blk_cell BK148.out 0).trans rfl; have hcz52_1 : w51.cell? ⟨gb148, 1, none⟩ = some (.int .i64 x149001_2) := (blk_cell BK148.out 1).trans rfl; have hfz52_0 := blk_frozen BK148.out 0; have hfz52_1 := blk_frozen BK148.out 1)))
            go_ret
            exact ⟨by first | rfl | (simp [errW_none, errW_some] <;> rfl) | (simp [*, errW_none, errW_some] <;> rfl), by repeat (first | (with_reducible first | exact HB.out | apply below_alloc | apply pw_below_drewN | apply below_drew1 | refine below_set ?_ GE145.out | refine below_set ?_ GE148.out | refine below_set ?_ GE150.out) | exact HB.out)⟩
           ·rw [if_neg c43] at H
            have c43b0 : decide (3 < t151) = false := decide_eq_false c43
            clear c43
            by_cases c53 : t152 < 0
            ·rw [if_pos c53] at H
             have c53b0 : decide (t152 < 0) = true := decide_eq_true c53
             clear c53
             obtain rfl := Option.some.inj H
             have p149 : 0 ≤ (x41_2 : Int) := of_decide_eq_true (by first | (with_reducible assumption) | assumption)
             have q149 : x41_2 < (l1.length : Int) := of_decide_eq_true (by first | (with_reducible assumption) | assumption)
             obtain ⟨ad149, e149, hx149_0, hx149_1⟩ := at_T28 HR1.out x41_2 p149 q149
             cases e149
             replace hx149_0 := (HB.out.cell (World.block_lt_of_cell? w _ hx149_0)).trans hx149_0
             replace hx149_1 := (HB.out.cell (World.block_lt_of_cell? w _ hx149_1)).trans hx149_1
             replace p149 := eq_true p149
             replace q149 := eq_true q149
             go_wp2_with (first | ((with_reducible refine gate_dst (N := 9) rfl ?_); (try (refine gate_guard (by rfl) ?_; dsimp only)); refine box_event ?hg (N := 9) ?hd (cs := #[.bool false, .int .u64 0]) (t := 28) ?hr ?_; (case hd => rfl); (case hg => rfl); (case hr => first | (go_simp; done) | (go_simp; rfl)); intro gb150 hg w54 hbox hb; have n0_ := Aside0.mk (blk_below (g := gb145) (o := .cells #[.int .i64 a0_0, .int .i64 a0_1, .int .u64 a0_2] 24 (0, 0)) (by (with_reducible repeat (first | refine blk_drewN ?_ _ | refine blk_drew ?_ | refine blk_alloc ?_ _)); exact BK145.out) hb); have n1_ := Aside0.mk (blk_below (g := gb148) (o := .cells #[.int .i64 x149000_2, .int .i64 x149001_2] 26 (0, 0)) (by (with_reducible repeat (first | refine blk_drewN ?_ _ | refine blk_drew ?_ | refine blk_alloc ?_ _)); exact BK148.out) hb); have n2_ := Aside0.mk (below_step (by repeat (first | (with_reducible first | exact HB.out | apply below_alloc | apply pw_below_drewN | apply below_drew1 | refine below_set ?_ GE145.out | refine below_set ?_ GE148.out) | exact HB.out)) hb); have n3_ := Aside0.mk (hbox); have n4_ := Aside0.mk ((by rw [hg]; exact (below_size (by repeat (first | (with_reducible first | exact HB.out | apply below_alloc | apply pw_below_drewN | apply below_drew1 | refine below_set ?_ GE145.out | refine below_set ?_ GE148.out) | exact HB.out))) : w.heap.size ≤ gb150)); have n5_ := Aside0.mk ((by rw [hg]; exact (below_size (by repeat (first | (with_reducible first | exact HB.out | apply below_alloc | apply pw_below_drewN | apply below_drew1 | refine below_set ?_ GE145.out | refine below_set ?_ GE148.out) | exact HB.out))) : w.heap.size ≤ gb150)); have n6_ := Aside0.mk ((by rw [hg]; exact Nat.ne_of_lt (blk_lt (g := gb145) (o := .cells #[.int .i64 a0_0, .int .i64 a0_1, .int .u64 a0_2] 24 (0, 0)) (by (with_reducible repeat (first | refine blk_drewN ?_ _ | refine blk_drew ?_ | refine blk_alloc ?_ _)); exact BK145.out)) : gb145 ≠ gb150)); have n7_ := Aside0.mk ((by rw [hg]; exact Nat.ne_of_gt (blk_lt (g := gb145) (o := .cells #[.int .i64 a0_0, .int .i64 a0_1, .int .u64 a0_2] 24 (0, 0)) (by (with_reducible repeat (first | refine blk_drewN ?_ _ | refine blk_drew ?_ | refine blk_alloc ?_ _)); exact BK145.out)) : gb150 ≠ gb145)); have n8_ := Aside0.mk ((by rw [hg]; exact Nat.ne_of_lt (blk_lt (g := gb148) (o := .cells #[.int .i64 x149000_2, .int .i64 x149001_2] 26 (0, 0)) (by (with_reducible repeat (first | refine blk_drewN ?_ _ | refine blk_drew ?_ | refine blk_alloc ?_ _)); exact BK148.out)) : gb148 ≠ gb150)); have n9_ := Aside0.mk ((by rw [hg]; exact Nat.ne_of_gt (blk_lt (g := gb148) (o := .cells #[.int .i64 x149000_2, .int .i64 x149001_2] 26 (0, 0)) (by (with_reducible repeat (first | refine blk_drewN ?_ _ | refine blk_drew ?_ | refine blk_alloc ?_ _)); exact BK148.out)) : gb150 ≠ gb148)); clear BK145; clear BK148; clear HB; have BK145 := n0_; have BK148 := n1_; have HB := n2_; have BK150 := n3_; have GW150 := n4_; have GE150 := n5_; have NB145_150 := n6_; have NB150_145 := n7_; have NB148_150 := n8_; have NB150_148 := n9_; clear n0_ n1_ n2_ n3_ n4_ n5_ n6_ n7_ n8_ n9_; clear hb hbox hg; have hnb55 := NB150_145.out; have hnc55 := NB145_150.out; have hnb56 := NB150_148.out; have hnc56 := NB148_150.out; have hcz57_0 : w54.cell? ⟨gb150, 0, none⟩ = some (.bool false) := (blk_cell BK150.out 0).trans rfl; have hcz57_1 : w54.cell? ⟨gb150, 1, none⟩ = some (.int .u64 0) := (blk_cell BK150.out 1).trans rfl; have hfz57_0 := blk_frozen BK150.out 0; have hfz57_1 := blk_frozen BK150.out 1; have hnb58 := NB145_148.out; have hnc58 := NB148_145.out; have hcz59_0 : w54.cell? ⟨gb145, 0, none⟩ = some (.int .i64 a0_0) := (blk_cell BK145.out 0).trans rfl; have hcz59_1 : w54.cell? ⟨gb145, 1, none⟩ = some (.int .i64 a0_1) := (blk_cell BK145.out 1).trans rfl; have hcz59_2 : w54.cell? ⟨gb145, 2, none⟩ = some (.int .u64 a0_2) := (blk_cell BK145.out 2).trans rfl; have hfz59_0 := blk_frozen BK145.out 0; have hfz59_1 := blk_frozen BK145.out 1; have hfz59_2 := blk_frozen BK145.out 2; have hcz60_0 : w54.cell? ⟨gb148, 0, none⟩ = some (.int .i64 x149000_2) := (blk_cell BK148.out 0).trans rfl; have hcz60_1 : w54.cell? ⟨gb148, 1, none⟩ = some (.int .i64 x149001_2) := (blk_cell BK148.out 1).trans rfl; have hfz60_0 := blk_frozen BK148.out 0; have hfz60_1 := blk_frozen BK148.out 1) | (go_at_call 23; (with_reducible refine (health_Step.calls k2 a0_0 a0_1 a0_2 x149000_2 x149001_2 ((rd_T28 l1 x41_2).f0) ((rd_T28 l1 x41_2).f1) t151 t152 _ (by first | exact A32.out | (have h_ := A32.out; exact h_))).mono ?_); rintro e w61 ⟨rfl, hb⟩; have n0_ := Aside0.mk (blk_below (g := gb145) (o := .cells #[.int .i64 a0_0, .int .i64 a0_1, .int .u64 a0_2] 24 (0, 0)) (by (with_reducible repeat (first | refine blk_drewN ?_ _ | refine blk_drew ?_ | refine blk_alloc ?_ _)); refine blk_far ?_ NB145_150.out _; (with_reducible repeat (first | refine blk_drewN ?_ _ | refine blk_drew ?_ | refine blk_alloc ?_ _)); refine blk_far ?_ NB145_150.out _; (with_reducible repeat (first | refine blk_drewN ?_ _ | refine blk_drew ?_ | refine blk_alloc ?_ _)); exact BK145.out) hb); have n1_ := Aside0.mk (blk_below (g := gb148) (o := .cells #[.int .i64 x149000_2, .int .i64 x149001_2] 26 (0, 0)) (by (with_reducible repeat (first | refine blk_drewN ?_ _ | refine blk_drew ?_ | refine blk_alloc ?_ _)); refine blk_far ?_ NB148_150.out _; (with_reducible repeat (first | refine blk_drewN ?_ _ | refine blk_drew ?_ | refine blk_alloc ?_ _)); refine blk_far ?_ NB148_150.out _; (with_reducible repeat (first | refine blk_drewN ?_ _ | refine blk_drew ?_ | refine blk_alloc ?_ _)); exact BK148.out) hb); have n2_ := Aside0.mk (blk_below (g := gb150) (o := .cells #[.bool ((rd_T28 l1 x41_2).f0), .int .u64 ((rd_T28 l1 x41_2).f1)] 28 (0, 0)) (by (with_reducible repeat (first | refine blk_drewN ?_ _ | refine blk_drew ?_ | refine blk_alloc ?_ _)); refine blk_put (cs := #[.bool ((rd_T28 l1 x41_2).f0), .int .u64 0]) ?_ 1 _ rfl; (with_reducible repeat (first | refine blk_drewN ?_ _ | refine blk_drew ?_ | refine blk_alloc ?_ _)); refine blk_put (cs := #[.bool false, .int .u64 0]) ?_ 0 _ rfl; (with_reducible repeat (first | refine blk_drewN ?_ _ | refine blk_drew ?_ | refine blk_alloc ?_ _)); exact BK150.out) hb); have n3_ := Aside0.mk (below_step (by repeat (first | (with_reducible first | exact HB.out | apply below_alloc | apply pw_below_drewN | apply below_drew1 | refine below_set ?_ GE145.out | refine below_set ?_ GE148.out | refine below_set ?_ GE150.out) | exact HB.out)) hb); clear BK145; clear BK148; clear BK150; clear HB; have BK145 := n0_; have BK148 := n1_; have BK150 := n2_; have HB := n3_; clear n0_ n1_ n2_ n3_; (try clear hb); (try clear hb2); (try clear hk); (try clear hi); have hcz62_0 : w61.cell? ⟨gb148, 0, none⟩ = some (.int .i64 x149000_2) := (blk_cell BK148.out 0).trans rfl; have hcz62_1 : w61.cell? ⟨gb148, 1, none⟩ = some (.int .i64 x149001_2) := (blk_cell BK148.out 1).trans rfl; have hfz62_0 := blk_frozen BK148.out 0; have hfz62_1 := blk_frozen BK148.out 1))
             repeat (go_quiet (first | ((with_reducible refine gate_dst (N := 9) rfl ?_); (try (refine gate_guard (by rfl) ?_; dsimp only)); refine box_event ?hg (N := 9) ?hd (cs := #[.bool false, .int .u64 0]) (t := 28) ?hr ?_; (case hd => rfl); (case hg => rfl); (case hr => first | (go_simp; done) | (go_simp; rfl)); intro gb150 hg w54 hbox hb; have n0_ := Aside0.mk (blk_below (g := gb145) (o := .cells #[.int .i64 a0_0, .int .i64 a0_1, .int .u64 a0_2] 24 (0, 0)) (by (with_reducible repeat (first | refine blk_drewN ?_ _ | refine blk_drew ?_ | refine blk_alloc ?_ _)); exact BK145.out) hb); have n1_ := Aside0.mk (blk_below (g := gb148) (o := .cells #[.int .i64 x149000_2, .int .i64 x149001_2] 26 (0, 0)) (by (with_reducible repeat (first | refine blk_drewN ?_ _ | refine blk_drew ?_ | refine blk_alloc ?_ _)); exact BK148.out) hb); have n2_ := Aside0.mk (below_step (by repeat (first | (with_reducible first | exact HB.out | apply below_alloc | apply pw_below_drewN | apply below_drew1 | refine below_set ?_ GE145.out | refine below_set ?_ GE148.out) | exact HB.out)) hb); have n3_ := Aside0.mk (hbox); have n4_ := Aside0.mk ((by rw [hg]; exact (below_size (by repeat (first | (with_reducible first | exact HB.out | apply below_alloc | apply pw_below_drewN | apply below_drew1 | refine below_set ?_ GE145.out | refine below_set ?_ GE148.out) | exact HB.out))) : w.heap.size ≤ gb150)); have n5_ := Aside0.mk ((by rw [hg]; exact (below_size (by repeat (first | (with_reducible first | exact HB.out | apply below_alloc | apply pw_below_drewN | apply below_drew1 | refine below_set ?_ GE145.out | refine below_set ?_ GE148.out) | exact HB.out))) : w.heap.size ≤ gb150)); have n6_ := Aside0.mk ((by rw [hg]; exact Nat.ne_of_lt (blk_lt (g := gb145) (o := .cells #[.int .i64 a0_0, .int .i64 a0_1, .int .u64 a0_2] 24 (0, 0)) (by (with_reducible repeat (first | refine blk_drewN ?_ _ | refine blk_drew ?_ | refine blk_alloc ?_ _)); exact BK145.out)) : gb145 ≠ gb150)); have n7_ := Aside0.mk ((by rw [hg]; exact Nat.ne_of_gt (blk_lt (g := gb145) (o := .cells #[.int .i64 a0_0, .int .i64 a0_1, .int .u64 a0_2] 24 (0, 0)) (by (with_reducible repeat (first | refine blk_drewN ?_ _ | refine blk_drew ?_ | refine blk_alloc ?_ _)); exact BK145.out)) : gb150 ≠ gb145)); have n8_ := Aside0.mk ((by rw [hg]; exact Nat.ne_of_lt (blk_lt (g := gb148) (o := .cells #[.int .i64 x149000_2, .int .i64 x149001_2] 26 (0, 0)) (by (with_reducible repeat (first | refine blk_drewN ?_ _ | refine blk_drew ?_ | refine blk_alloc ?_ _)); exact BK148.out)) : gb148 ≠ gb150)); have n9_ := Aside0.mk ((by rw [hg]; exact Nat.ne_of_gt (blk_lt (g := gb148) (o := .cells #[.int .i64 x149000_2, .int .i64 x149001_2] 26 (0, 0)) (by (with_reducible repeat (first | refine blk_drewN ?_ _ | refine blk_drew ?_ | refine blk_alloc ?_ _)); exact BK148.out)) : gb150 ≠ gb148)); clear BK145; clear BK148; clear HB; have BK145 := n0_; have BK148 := n1_; have HB := n2_; have BK150 := n3_; have GW150 := n4_; have GE150 := n5_; have NB145_150 := n6_; have NB150_145 := n7_; have NB148_150 := n8_; have NB150_148 := n9_; clear n0_ n1_ n2_ n3_ n4_ n5_ n6_ n7_ n8_ n9_; clear hb hbox hg; have hnb55 := NB150_145.out; have hnc55 := NB145_150.out; have hnb56 := NB150_148.out; have hnc56 := NB148_150.out; have hcz57_0 : w54.cell? ⟨gb150, 0, none⟩ = some (.bool false) := (blk_cell BK150.out 0).trans rfl; have hcz57_1 : w54.cell? ⟨gb150, 1, none⟩ = some (.int .u64 0) := (blk_cell BK150.out 1).trans rfl; have hfz57_0 := blk_frozen BK150.out 0; have hfz57_1 := blk_frozen BK150.out 1; have hnb58 := NB145_148.out; have hnc58 := NB148_145.out; have hcz59_0 : w54.cell? ⟨gb145, 0, none⟩ = some (.int .i64 a0_0) := (blk_cell BK145.out 0).trans rfl; have hcz59_1 : w54.cell? ⟨gb145, 1, none⟩ = some (.int .i64 a0_1) := (blk_cell BK145.out 1).trans rfl; have hcz59_2 : w54.cell? ⟨gb145, 2, none⟩ = some (.int .u64 a0_2) := (blk_cell BK145.out 2).trans rfl; have hfz59_0 := blk_frozen BK145.out 0; have hfz59_1 := blk_frozen BK145.out 1; have hfz59_2 := blk_frozen BK145.out 2; have hcz60_0 : w54.cell? ⟨gb148, 0, none⟩ = some (.int .i64 x149000_2) := (blk_cell BK148.out 0).trans rfl; have hcz60_1 : w54.cell? ⟨gb148, 1, none⟩ = some (.int .i64 x149001_2) := (blk_cell BK148.out 1).trans rfl; have hfz60_0 := blk_frozen BK148.out 0; have hfz60_1 := blk_frozen BK148.out 1) | (go_at_call 23; (with_reducible refine (health_Step.calls k2 a0_0 a0_1 a0_2 x149000_2 x149001_2 ((rd_T28 l1 x41_2).f0) ((rd_T28 l1 x41_2).f1) t151 t152 _ (by first | exact A32.out | (have h_ := A32.out; exact h_))).mono ?_); rintro e w61 ⟨rfl, hb⟩; have n0_ := Aside0.mk (blk_below (g := gb145) (o := .cells #[.int .i64 a0_0, .int .i64 a0_1, .int .u64 a0_2] 24 (0, 0)) (by (with_reducible repeat (first | refine blk_drewN ?_ _ | refine blk_drew ?_ | refine blk_alloc ?_ _)); refine blk_far ?_ NB145_150.out _; (with_reducible repeat (first | refine blk_drewN ?_ _ | refine blk_drew ?_ | refine blk_alloc ?_ _)); refine blk_far ?_ NB145_150.out _; (with_reducible repeat (first | refine blk_drewN ?_ _ | refine blk_drew ?_ | refine blk_alloc ?_ _)); exact BK145.out) hb); have n1_ := Aside0.mk (blk_below (g := gb148) (o := .cells #[.int .i64 x149000_2, .int .i64 x149001_2] 26 (0, 0)) (by (with_reducible repeat (first | refine blk_drewN ?_ _ | refine blk_drew ?_ | refine blk_alloc ?_ _)); refine blk_far ?_ NB148_150.out _; (with_reducible repeat (first | refine blk_drewN ?_ _ | refine blk_drew ?_ | refine blk_alloc ?_ _)); refine blk_far ?_ NB148_150.out _; (with_reducible repeat (first | refine blk_drewN ?_ _ | refine blk_drew ?_ | refine blk_alloc ?_ _)); exact BK148.out) hb); have n2_ := Aside0.mk (blk_below (g := gb150) (o := .cells #[.bool ((rd_T28 l1 x41_2).f0), .int .u64 ((rd_T28 l1 x41_2).f1)] 28 (0, 0)) (by (with_reducible repeat (first | refine blk_drewN ?_ _ | refine blk_drew ?_ | refine blk_alloc ?_ _)); refine blk_put (cs := #[.bool ((rd_T28 l1 x41_2).f0), .int .u64 0]) ?_ 1 _ rfl; (with_reducible repeat (first | refine blk_drewN ?_ _ | refine blk_drew ?_ | refine blk_alloc ?_ _)); refine blk_put (cs := #[.bool false, .int .u64 0]) ?_ 0 _ rfl; (with_reducible repeat (first | refine blk_drewN ?_ _ | refine blk_drew ?_ | refine blk_alloc ?_ _)); exact BK150.out) hb); have n3_ := Aside0.mk (below_step (by repeat (first | (with_reducible first | exact HB.out | apply below_alloc | apply pw_below_drewN | apply below_drew1 | refine below_set ?_ GE145.out | refine below_set ?_ GE148.out | refine below_set ?_ GE150.out) | exact HB.out)) hb); clear BK145; clear BK148; clear BK150; clear HB; have BK145 := n0_; have BK148 := n1_; have BK150 := n2_; have HB := n3_; clear n0_ n1_ n2_ n3_; (try clear hb); (try clear hb2); (try clear hk); (try clear hi); have hcz62_0 : w61.cell? ⟨gb148, 0, none⟩ = some (.int .i64 x149000_2) := (blk_cell BK148.out 0).trans rfl; have hcz62_1 : w61.cell? ⟨gb148, 1, none⟩ = some (.int .i64 x149001_2) := (blk_cell BK148.out 1).trans rfl; have hfz62_0 := blk_frozen BK148.out 0; have hfz62_1 := blk_frozen BK148.out 1)); try go_wp2_with (first | ((with_reducible refine gate_dst (N := 9) rfl ?_); (try (refine gate_guard (by rfl) ?_; dsimp only)); refine box_event ?hg (N := 9) ?hd (cs := #[.bool false, .int .u64 0]) (t := 28) ?hr ?_; (case hd => rfl); (case hg => rfl); (case hr => first | (go_simp; done) | (go_simp; rfl)); intro gb150 hg w54 hbox hb; have n0_ := Aside0.mk (blk_below (g := gb145) (o := .cells #[.int .i64 a0_0, .int .i64 a0_1, .int .u64 a0_2] 24 (0, 0)) (by (with_reducible repeat (first | refine blk_drewN ?_ _ | refine blk_drew ?_ | refine blk_alloc ?_ _)); exact BK145.out) hb); have n1_ := Aside0.mk (blk_below (g := gb148) (o := .cells #[.int .i64 x149000_2, .int .i64 x149001_2] 26 (0, 0)) (by (with_reducible repeat (first | refine blk_drewN ?_ _ | refine blk_drew ?_ | refine blk_alloc ?_ _)); exact BK148.out) hb); have n2_ := Aside0.mk (below_step (by repeat (first | (with_reducible first | exact HB.out | apply below_alloc | apply pw_below_drewN | apply below_drew1 | refine below_set ?_ GE145.out | refine below_set ?_ GE148.out) | exact HB.out)) hb); have n3_ := Aside0.mk (hbox); have n4_ := Aside0.mk ((by rw [hg]; exact (below_size (by repeat (first | (with_reducible first | exact HB.out | apply below_alloc | apply pw_below_drewN | apply below_drew1 | refine below_set ?_ GE145.out | refine below_set ?_ GE148.out) | exact HB.out))) : w.heap.size ≤ gb150)); have n5_ := Aside0.mk ((by rw [hg]; exact (below_size (by repeat (first | (with_reducible first | exact HB.out | apply below_alloc | apply pw_below_drewN | apply below_drew1 | refine below_set ?_ GE145.out | refine below_set ?_ GE148.out) | exact HB.out))) : w.heap.size ≤ gb150)); have n6_ := Aside0.mk ((by rw [hg]; exact Nat.ne_of_lt (blk_lt (g := gb145) (o := .cells #[.int .i64 a0_0, .int .i64 a0_1, .int .u64 a0_2] 24 (0, 0)) (by (with_reducible repeat (first | refine blk_drewN ?_ _ | refine blk_drew ?_ | refine blk_alloc ?_ _)); exact BK145.out)) : gb145 ≠ gb150)); have n7_ := Aside0.mk ((by rw [hg]; exact Nat.ne_of_gt (blk_lt (g := gb145) (o := .cells #[.int .i64 a0_0, .int .i64 a0_1, .int .u64 a0_2] 24 (0, 0)) (by (with_reducible repeat (first | refine blk_drewN ?_ _ | refine blk_drew ?_ | refine blk_alloc ?_ _)); exact BK145.out)) : gb150 ≠ gb145)); have n8_ := Aside0.mk ((by rw [hg]; exact Nat.ne_of_lt (blk_lt (g := gb148) (o := .cells #[.int .i64 x149000_2, .int .i64 x149001_2] 26 (0, 0)) (by (with_reducible repeat (first | refine blk_drewN ?_ _ | refine blk_drew ?_ | refine blk_alloc ?_ _)); exact BK148.out)) : gb148 ≠ gb150)); have n9_ := Aside0.mk ((by rw [hg]; exact Nat.ne_of_gt (blk_lt (g := gb148) (o := .cells #[.int .i64 x149000_2, .int .i64 x149001_2] 26 (0, 0)) (by (with_reducible repeat (first | refine blk_drewN ?_ _ | refine blk_drew ?_ | refine blk_alloc ?_ _)); exact BK148.out)) : gb150 ≠ gb148)); clear BK145; clear BK148; clear HB; have BK145 := n0_; have BK148 := n1_; have HB := n2_; have BK150 := n3_; have GW150 := n4_; have GE150 := n5_; have NB145_150 := n6_; have NB150_145 := n7_; have NB148_150 := n8_; have NB150_148 := n9_; clear n0_ n1_ n2_ n3_ n4_ n5_ n6_ n7_ n8_ n9_; clear hb hbox hg; have hnb55 := NB150_145.out; have hnc55 := NB145_150.out; have hnb56 := NB150_148.out; have hnc56 := NB148_150.out; have hcz57_0 : w54.cell? ⟨gb150, 0, none⟩ = some (.bool false) := (blk_cell BK150.out 0).trans rfl; have hcz57_1 : w54.cell? ⟨gb150, 1, none⟩ = some (.int .u64 0) := (blk_cell BK150.out 1).trans rfl; have hfz57_0 := blk_frozen BK150.out 0; have hfz57_1 := blk_frozen BK150.out 1; have hnb58 := NB145_148.out; have hnc58 := NB148_145.out; have hcz59_0 : w54.cell? ⟨gb145, 0, none⟩ = some (.int .i64 a0_0) := (blk_cell BK145.out 0).trans rfl; have hcz59_1 : w54.cell? ⟨gb145, 1, none⟩ = some (.int .i64 a0_1) := (blk_cell BK145.out 1).trans rfl; have hcz59_2 : w54.cell? ⟨gb145, 2, none⟩ = some (.int .u64 a0_2) := (blk_cell BK145.out 2).trans rfl; have hfz59_0 := blk_frozen BK145.out 0; have hfz59_1 := blk_frozen BK145.out 1; have hfz59_2 := blk_frozen BK145.out 2; have hcz60_0 : w54.cell? ⟨gb148, 0, none⟩ = some (.int .i64 x149000_2) := (blk_cell BK148.out 0).trans rfl; have hcz60_1 : w54.cell? ⟨gb148, 1, none⟩ = some (.int .i64 x149001_2) := (blk_cell BK148.out 1).trans rfl; have hfz60_0 := blk_frozen BK148.out 0; have hfz60_1 := blk_frozen BK148.out 1) | (go_at_call 23; (with_reducible refine (health_Step.calls k2 a0_0 a0_1 a0_2 x149000_2 x149001_2 ((rd_T28 l1 x41_2).f0) ((rd_T28 l1 x41_2).f1) t151 t152 _ (by first | exact A32.out | (have h_ := A32.out; exact h_))).mono ?_); rintro e w61 ⟨rfl, hb⟩; have n0_ := Aside0.mk (blk_below (g := gb145) (o := .cells #[.int .i64 a0_0, .int .i64 a0_1, .int .u64 a0_2] 24 (0, 0)) (by (with_reducible repeat (first | refine blk_drewN ?_ _ | refine blk_drew ?_ | refine blk_alloc ?_ _)); refine blk_far ?_ NB145_150.out _; (with_reducible repeat (first | refine blk_drewN ?_ _ | refine blk_drew ?_ | refine blk_alloc ?_ _)); refine blk_far ?_ NB145_150.out _; (with_reducible repeat (first | refine blk_drewN ?_ _ | refine blk_drew ?_ | refine blk_alloc ?_ _)); exact BK145.out) hb); have n1_ := Aside0.mk (blk_below (g := gb148) (o := .cells #[.int .i64 x149000_2, .int .i64 x149001_2] 26 (0, 0)) (by (with_reducible repeat (first | refine blk_drewN ?_ _ | refine blk_drew ?_ | refine blk_alloc ?_ _)); refine blk_far ?_ NB148_150.out _; (with_reducible repeat (first | refine blk_drewN ?_ _ | refine blk_drew ?_ | refine blk_alloc ?_ _)); refine blk_far ?_ NB148_150.out _; (with_reducible repeat (first | refine blk_drewN ?_ _ | refine blk_drew ?_ | refine blk_alloc ?_ _)); exact BK148.out) hb); have n2_ := Aside0.mk (blk_below (g := gb150) (o := .cells #[.bool ((rd_T28 l1 x41_2).f0), .int .u64 ((rd_T28 l1 x41_2).f1)] 28 (0, 0)) (by (with_reducible repeat (first | refine blk_drewN ?_ _ | refine blk_drew ?_ | refine blk_alloc ?_ _)); refine blk_put (cs := #[.bool ((rd_T28 l1 x41_2).f0), .int .u64 0]) ?_ 1 _ rfl; (with_reducible repeat (first | refine blk_drewN ?_ _ | refine blk_drew ?_ | refine blk_alloc ?_ _)); refine blk_put (cs := #[.bool false, .int .u64 0]) ?_ 0 _ rfl; (with_reducible repeat (first | refine blk_drewN ?_ _ | refine blk_drew ?_ | refine blk_alloc ?_ _)); exact BK150.out) hb); have n3_ := Aside0.mk (below_step (by repeat (first | (with_reducible first | exact HB.out | apply below_alloc | apply pw_below_drewN | apply below_drew1 | refine below_set ?_ GE145.out | refine below_set ?_ GE148.out | refine below_set ?_ GE150.out) | exact HB.out)) hb); clear BK145; clear BK148; clear BK150; clear HB; have BK145 := n0_; have BK148 := n1_; have BK150 := n2_; have HB := n3_; clear n0_ n1_ n2_ n3_; (try clear hb); (try clear hb2); (try clear hk); (try clear hi); have hcz62_0 : w61.cell? ⟨gb148, 0, none⟩ = some (.int .i64 x149000_2) := (blk_cell BK148.out 0).trans rfl; have hcz62_1 : w61.cell? ⟨gb148, 1, none⟩ = some (.int .i64 x149001_2) := (blk_cell BK148.out 1).trans rfl; have hfz62_0 := blk_frozen BK148.out 0; have hfz62_1 := blk_frozen BK148.out 1)))
             go_ret
             exact ⟨by first | rfl | (simp [errW_none, errW_some] <;> rfl) | (simp [*, errW_none, errW_some] <;> rfl), by repeat (first | (with_reducible first | exact HB.out | apply below_alloc | apply pw_below_drewN | apply below_drew1 | refine below_set ?_ GE145.out | refine below_set ?_ GE148.out | refine below_set ?_ GE150.out) | exact HB.out)⟩
            ·rw [if_neg c53] at H
             have c53b0 : decide (t152 < 0) = false := decide_eq_false c53
             clear c53
             obtain ⟨ji63, hji63⟩ : ∃ j_ : Int, (mx a0_0 a0_1) = j_ := ⟨_, rfl⟩
             replace H : (if t152 ≥ (ji63) then (some false) else (signalmanlaw12_HealthPasses.l0 k2 l2 l1 (l1.length : Int) (wrap64 (x41_2 + 1)) a0_0 a0_1 a0_2 t151 t152)) = some r := by first | (rw [hji63] at H; exact H) | (simp only [hji63] at H ⊢; exact H)
             (try rw [hji63] at A32)
             have hji63_ : (if a0_0 < a0_1 then a0_1 else a0_0) = ji63 := hji63
             by_cases c64 : t152 ≥ (ji63)
             ·rw [if_pos c64] at H
              have c64b0 : decide ((ji63) ≤ t152) = true := decide_eq_true c64
              clear c64
              obtain rfl := Option.some.inj H
              have p149 : 0 ≤ (x41_2 : Int) := of_decide_eq_true (by first | (with_reducible assumption) | assumption)
              have q149 : x41_2 < (l1.length : Int) := of_decide_eq_true (by first | (with_reducible assumption) | assumption)
              obtain ⟨ad149, e149, hx149_0, hx149_1⟩ := at_T28 HR1.out x41_2 p149 q149
              cases e149
              replace hx149_0 := (HB.out.cell (World.block_lt_of_cell? w _ hx149_0)).trans hx149_0
              replace hx149_1 := (HB.out.cell (World.block_lt_of_cell? w _ hx149_1)).trans hx149_1
              replace p149 := eq_true p149
              replace q149 := eq_true q149
              go_wp2_with (first | ((with_reducible refine gate_dst (N := 9) rfl ?_); (try (refine gate_guard (by rfl) ?_; dsimp only)); refine box_event ?hg (N := 9) ?hd (cs := #[.bool false, .int .u64 0]) (t := 28) ?hr ?_; (case hd => rfl); (case hg => rfl); (case hr => first | (go_simp; done) | (go_simp; rfl)); intro gb150 hg w65 hbox hb; have n0_ := Aside0.mk (blk_below (g := gb145) (o := .cells #[.int .i64 a0_0, .int .i64 a0_1, .int .u64 a0_2] 24 (0, 0)) (by (with_reducible repeat (first | refine blk_drewN ?_ _ | refine blk_drew ?_ | refine blk_alloc ?_ _)); exact BK145.out) hb); have n1_ := Aside0.mk (blk_below (g := gb148) (o := .cells #[.int .i64 x149000_2, .int .i64 x149001_2] 26 (0, 0)) (by (with_reducible repeat (first | refine blk_drewN ?_ _ | refine blk_drew ?_ | refine blk_alloc ?_ _)); exact BK148.out) hb); have n2_ := Aside0.mk (below_step (by repeat (first | (with_reducible first | exact HB.out | apply below_alloc | apply pw_below_drewN | apply below_drew1 | refine below_set ?_ GE145.out | refine below_set ?_ GE148.out) | exact HB.out)) hb); have n3_ := Aside0.mk (hbox); have n4_ := Aside0.mk ((by rw [hg]; exact (below_size (by repeat (first | (with_reducible first | exact HB.out | apply below_alloc | apply pw_below_drewN | apply below_drew1 | refine below_set ?_ GE145.out | refine below_set ?_ GE148.out) | exact HB.out))) : w.heap.size ≤ gb150)); have n5_ := Aside0.mk ((by rw [hg]; exact (below_size (by repeat (first | (with_reducible first | exact HB.out | apply below_alloc | apply pw_below_drewN | apply below_drew1 | refine below_set ?_ GE145.out | refine below_set ?_ GE148.out) | exact HB.out))) : w.heap.size ≤ gb150)); have n6_ := Aside0.mk ((by rw [hg]; exact Nat.ne_of_lt (blk_lt (g := gb145) (o := .cells #[.int .i64 a0_0, .int .i64 a0_1, .int .u64 a0_2] 24 (0, 0)) (by (with_reducible repeat (first | refine blk_drewN ?_ _ | refine blk_drew ?_ | refine blk_alloc ?_ _)); exact BK145.out)) : gb145 ≠ gb150)); have n7_ := Aside0.mk ((by rw [hg]; exact Nat.ne_of_gt (blk_lt (g := gb145) (o := .cells #[.int .i64 a0_0, .int .i64 a0_1, .int .u64 a0_2] 24 (0, 0)) (by (with_reducible repeat (first | refine blk_drewN ?_ _ | refine blk_drew ?_ | refine blk_alloc ?_ _)); exact BK145.out)) : gb150 ≠ gb145)); have n8_ := Aside0.mk ((by rw [hg]; exact Nat.ne_of_lt (blk_lt (g := gb148) (o := .cells #[.int .i64 x149000_2, .int .i64 x149001_2] 26 (0, 0)) (by (with_reducible repeat (first | refine blk_drewN ?_ _ | refine blk_drew ?_ | refine blk_alloc ?_ _)); exact BK148.out)) : gb148 ≠ gb150)); have n9_ := Aside0.mk ((by rw [hg]; exact Nat.ne_of_gt (blk_lt (g := gb148) (o := .cells #[.int .i64 x149000_2, .int .i64 x149001_2] 26 (0, 0)) (by (with_reducible repeat (first | refine blk_drewN ?_ _ | refine blk_drew ?_ | refine blk_alloc ?_ _)); exact BK148.out)) : gb150 ≠ gb148)); clear BK145; clear BK148; clear HB; have BK145 := n0_; have BK148 := n1_; have HB := n2_; have BK150 := n3_; have GW150 := n4_; have GE150 := n5_; have NB145_150 := n6_; have NB150_145 := n7_; have NB148_150 := n8_; have NB150_148 := n9_; clear n0_ n1_ n2_ n3_ n4_ n5_ n6_ n7_ n8_ n9_; clear hb hbox hg; have hnb66 := NB150_145.out; have hnc66 := NB145_150.out; have hnb67 := NB150_148.out; have hnc67 := NB148_150.out; have hcz68_0 : w65.cell? ⟨gb150, 0, none⟩ = some (.bool false) := (blk_cell BK150.out 0).trans rfl; have hcz68_1 : w65.cell? ⟨gb150, 1, none⟩ = some (.int .u64 0) := (blk_cell BK150.out 1).trans rfl; have hfz68_0 := blk_frozen BK150.out 0; have hfz68_1 := blk_frozen BK150.out 1; have hnb69 := NB145_148.out; have hnc69 := NB148_145.out; have hcz70_0 : w65.cell? ⟨gb145, 0, none⟩ = some (.int .i64 a0_0) := (blk_cell BK145.out 0).trans rfl; have hcz70_1 : w65.cell? ⟨gb145, 1, none⟩ = some (.int .i64 a0_1) := (blk_cell BK145.out 1).trans rfl; have hcz70_2 : w65.cell? ⟨gb145, 2, none⟩ = some (.int .u64 a0_2) := (blk_cell BK145.out 2).trans rfl; have hfz70_0 := blk_frozen BK145.out 0; have hfz70_1 := blk_frozen BK145.out 1; have hfz70_2 := blk_frozen BK145.out 2; have hcz71_0 : w65.cell? ⟨gb148, 0, none⟩ = some (.int .i64 x149000_2) := (blk_cell BK148.out 0).trans rfl; have hcz71_1 : w65.cell? ⟨gb148, 1, none⟩ = some (.int .i64 x149001_2) := (blk_cell BK148.out 1).trans rfl; have hfz71_0 := blk_frozen BK148.out 0; have hfz71_1 := blk_frozen BK148.out 1) | (go_at_call 23; (with_reducible refine (health_Step.calls k2 a0_0 a0_1 a0_2 x149000_2 x149001_2 ((rd_T28 l1 x41_2).f0) ((rd_T28 l1 x41_2).f1) t151 t152 _ (by first | exact A32.out | (have h_ := A32.out; exact h_))).mono ?_); rintro e w72 ⟨rfl, hb⟩; have n0_ := Aside0.mk (blk_below (g := gb145) (o := .cells #[.int .i64 a0_0, .int .i64 a0_1, .int .u64 a0_2] 24 (0, 0)) (by (with_reducible repeat (first | refine blk_drewN ?_ _ | refine blk_drew ?_ | refine blk_alloc ?_ _)); refine blk_far ?_ NB145_150.out _; (with_reducible repeat (first | refine blk_drewN ?_ _ | refine blk_drew ?_ | refine blk_alloc ?_ _)); refine blk_far ?_ NB145_150.out _; (with_reducible repeat (first | refine blk_drewN ?_ _ | refine blk_drew ?_ | refine blk_alloc ?_ _)); exact BK145.out) hb); have n1_ := Aside0.mk (blk_below (g := gb148) (o := .cells #[.int .i64 x149000_2, .int .i64 x149001_2] 26 (0, 0)) (by (with_reducible repeat (first | refine blk_drewN ?_ _ | refine blk_drew ?_ | refine blk_alloc ?_ _)); refine blk_far ?_ NB148_150.out _; (with_reducible repeat (first | refine blk_drewN ?_ _ | refine blk_drew ?_ | refine blk_alloc ?_ _)); refine blk_far ?_ NB148_150.out _; (with_reducible repeat (first | refine blk_drewN ?_ _ | refine blk_drew ?_ | refine blk_alloc ?_ _)); exact BK148.out) hb); have n2_ := Aside0.mk (blk_below (g := gb150) (o := .cells #[.bool ((rd_T28 l1 x41_2).f0), .int .u64 ((rd_T28 l1 x41_2).f1)] 28 (0, 0)) (by (with_reducible repeat (first | refine blk_drewN ?_ _ | refine blk_drew ?_ | refine blk_alloc ?_ _)); refine blk_put (cs := #[.bool ((rd_T28 l1 x41_2).f0), .int .u64 0]) ?_ 1 _ rfl; (with_reducible repeat (first | refine blk_drewN ?_ _ | refine blk_drew ?_ | refine blk_alloc ?_ _)); refine blk_put (cs := #[.bool false, .int .u64 0]) ?_ 0 _ rfl; (with_reducible repeat (first | refine blk_drewN ?_ _ | refine blk_drew ?_ | refine blk_alloc ?_ _)); exact BK150.out) hb); have n3_ := Aside0.mk (below_step (by repeat (first | (with_reducible first | exact HB.out | apply below_alloc | apply pw_below_drewN | apply below_drew1 | refine below_set ?_ GE145.out | refine below_set ?_ GE148.out | refine below_set ?_ GE150.out) | exact HB.out)) hb); clear BK145; clear BK148; clear BK150; clear HB; have BK145 := n0_; have BK148 := n1_; have BK150 := n2_; have HB := n3_; clear n0_ n1_ n2_ n3_; (try clear hb); (try clear hb2); (try clear hk); (try clear hi); have hcz73_0 : w72.cell? ⟨gb148, 0, none⟩ = some (.int .i64 x149000_2) := (blk_cell BK148.out 0).trans rfl; have hcz73_1 : w72.cell? ⟨gb148, 1, none⟩ = some (.int .i64 x149001_2) := (blk_cell BK148.out 1).trans rfl; have hfz73_0 := blk_frozen BK148.out 0; have hfz73_1 := blk_frozen BK148.out 1; have hcz74_0 : w72.cell? ⟨gb145, 0, none⟩ = some (.int .i64 a0_0) := (blk_cell BK145.out 0).trans rfl; have hcz74_1 : w72.cell? ⟨gb145, 1, none⟩ = some (.int .i64 a0_1) := (blk_cell BK145.out 1).trans rfl; have hcz74_2 : w72.cell? ⟨gb145, 2, none⟩ = some (.int .u64 a0_2) := (blk_cell BK145.out 2).trans rfl; have hfz74_0 := blk_frozen BK145.out 0; have hfz74_1 := blk_frozen BK145.out 1; have hfz74_2 := blk_frozen BK145.out 2))
              repeat (go_quiet (first | ((with_reducible refine gate_dst (N := 9) rfl ?_); (try (refine gate_guard (by rfl) ?_; dsimp only)); refine box_event ?hg (N := 9) ?hd (cs := #[.bool false, .int .u64 0]) (t := 28) ?hr ?_; (case hd => rfl); (case hg => rfl); (case hr => first | (go_simp; done) | (go_simp; rfl)); intro gb150 hg w65 hbox hb; have n0_ := Aside0.mk (blk_below (g := gb145) (o := .cells #[.int .i64 a0_0, .int .i64 a0_1, .int .u64 a0_2] 24 (0, 0)) (by (with_reducible repeat (first | refine blk_drewN ?_ _ | refine blk_drew ?_ | refine blk_alloc ?_ _)); exact BK145.out) hb); have n1_ := Aside0.mk (blk_below (g := gb148) (o := .cells #[.int .i64 x149000_2, .int .i64 x149001_2] 26 (0, 0)) (by (with_reducible repeat (first | refine blk_drewN ?_ _ | refine blk_drew ?_ | refine blk_alloc ?_ _)); exact BK148.out) hb); have n2_ := Aside0.mk (below_step (by repeat (first | (with_reducible first | exact HB.out | apply below_alloc | apply pw_below_drewN | apply below_drew1 | refine below_set ?_ GE145.out | refine below_set ?_ GE148.out) | exact HB.out)) hb); have n3_ := Aside0.mk (hbox); have n4_ := Aside0.mk ((by rw [hg]; exact (below_size (by repeat (first | (with_reducible first | exact HB.out | apply below_alloc | apply pw_below_drewN | apply below_drew1 | refine below_set ?_ GE145.out | refine below_set ?_ GE148.out) | exact HB.out))) : w.heap.size ≤ gb150)); have n5_ := Aside0.mk ((by rw [hg]; exact (below_size (by repeat (first | (with_reducible first | exact HB.out | apply below_alloc | apply pw_below_drewN | apply below_drew1 | refine below_set ?_ GE145.out | refine below_set ?_ GE148.out) | exact HB.out))) : w.heap.size ≤ gb150)); have n6_ := Aside0.mk ((by rw [hg]; exact Nat.ne_of_lt (blk_lt (g := gb145) (o := .cells #[.int .i64 a0_0, .int .i64 a0_1, .int .u64 a0_2] 24 (0, 0)) (by (with_reducible repeat (first | refine blk_drewN ?_ _ | refine blk_drew ?_ | refine blk_alloc ?_ _)); exact BK145.out)) : gb145 ≠ gb150)); have n7_ := Aside0.mk ((by rw [hg]; exact Nat.ne_of_gt (blk_lt (g := gb145) (o := .cells #[.int .i64 a0_0, .int .i64 a0_1, .int .u64 a0_2] 24 (0, 0)) (by (with_reducible repeat (first | refine blk_drewN ?_ _ | refine blk_drew ?_ | refine blk_alloc ?_ _)); exact BK145.out)) : gb150 ≠ gb145)); have n8_ := Aside0.mk ((by rw [hg]; exact Nat.ne_of_lt (blk_lt (g := gb148) (o := .cells #[.int .i64 x149000_2, .int .i64 x149001_2] 26 (0, 0)) (by (with_reducible repeat (first | refine blk_drewN ?_ _ | refine blk_drew ?_ | refine blk_alloc ?_ _)); exact BK148.out)) : gb148 ≠ gb150)); have n9_ := Aside0.mk ((by rw [hg]; exact Nat.ne_of_gt (blk_lt (g := gb148) (o := .cells #[.int .i64 x149000_2, .int .i64 x149001_2] 26 (0, 0)) (by (with_reducible repeat (first | refine blk_drewN ?_ _ | refine blk_drew ?_ | refine blk_alloc ?_ _)); exact BK148.out)) : gb150 ≠ gb148)); clear BK145; clear BK148; clear HB; have BK145 := n0_; have BK148 := n1_; have HB := n2_; have BK150 := n3_; have GW150 := n4_; have GE150 := n5_; have NB145_150 := n6_; have NB150_145 := n7_; have NB148_150 := n8_; have NB150_148 := n9_; clear n0_ n1_ n2_ n3_ n4_ n5_ n6_ n7_ n8_ n9_; clear hb hbox hg; have hnb66 := NB150_145.out; have hnc66 := NB145_150.out; have hnb67 := NB150_148.out; have hnc67 := NB148_150.out; have hcz68_0 : w65.cell? ⟨gb150, 0, none⟩ = some (.bool false) := (blk_cell BK150.out 0).trans rfl; have hcz68_1 : w65.cell? ⟨gb150, 1, none⟩ = some (.int .u64 0) := (blk_cell BK150.out 1).trans rfl; have hfz68_0 := blk_frozen BK150.out 0; have hfz68_1 := blk_frozen BK150.out 1; have hnb69 := NB145_148.out; have hnc69 := NB148_145.out; have hcz70_0 : w65.cell? ⟨gb145, 0, none⟩ = some (.int .i64 a0_0) := (blk_cell BK145.out 0).trans rfl; have hcz70_1 : w65.cell? ⟨gb145, 1, none⟩ = some (.int .i64 a0_1) := (blk_cell BK145.out 1).trans rfl; have hcz70_2 : w65.cell? ⟨gb145, 2, none⟩ = some (.int .u64 a0_2) := (blk_cell BK145.out 2).trans rfl; have hfz70_0 := blk_frozen BK145.out 0; have hfz70_1 := blk_frozen BK145.out 1; have hfz70_2 := blk_frozen BK145.out 2; have hcz71_0 : w65.cell? ⟨gb148, 0, none⟩ = some (.int .i64 x149000_2) := (blk_cell BK148.out 0).trans rfl; have hcz71_1 : w65.cell? ⟨gb148, 1, none⟩ = some (.int .i64 x149001_2) := (blk_cell BK148.out 1).trans rfl; have hfz71_0 := blk_frozen BK148.out 0; have hfz71_1 := blk_frozen BK148.out 1) | (go_at_call 23; (with_reducible refine (health_Step.calls k2 a0_0 a0_1 a0_2 x149000_2 x149001_2 ((rd_T28 l1 x41_2).f0) ((rd_T28 l1 x41_2).f1) t151 t152 _ (by first | exact A32.out | (have h_ := A32.out; exact h_))).mono ?_); rintro e w72 ⟨rfl, hb⟩; have n0_ := Aside0.mk (blk_below (g := gb145) (o := .cells #[.int .i64 a0_0, .int .i64 a0_1, .int .u64 a0_2] 24 (0, 0)) (by (with_reducible repeat (first | refine blk_drewN ?_ _ | refine blk_drew ?_ | refine blk_alloc ?_ _)); refine blk_far ?_ NB145_150.out _; (with_reducible repeat (first | refine blk_drewN ?_ _ | refine blk_drew ?_ | refine blk_alloc ?_ _)); refine blk_far ?_ NB145_150.out _; (with_reducible repeat (first | refine blk_drewN ?_ _ | refine blk_drew ?_ | refine blk_alloc ?_ _)); exact BK145.out) hb); have n1_ := Aside0.mk (blk_below (g := gb148) (o := .cells #[.int .i64 x149000_2, .int .i64 x149001_2] 26 (0, 0)) (by (with_reducible repeat (first | refine blk_drewN ?_ _ | refine blk_drew ?_ | refine blk_alloc ?_ _)); refine blk_far ?_ NB148_150.out _; (with_reducible repeat (first | refine blk_drewN ?_ _ | refine blk_drew ?_ | refine blk_alloc ?_ _)); refine blk_far ?_ NB148_150.out _; (with_reducible repeat (first | refine blk_drewN ?_ _ | refine blk_drew ?_ | refine blk_alloc ?_ _)); exact BK148.out) hb); have n2_ := Aside0.mk (blk_below (g := gb150) (o := .cells #[.bool ((rd_T28 l1 x41_2).f0), .int .u64 ((rd_T28 l1 x41_2).f1)] 28 (0, 0)) (by (with_reducible repeat (first | refine blk_drewN ?_ _ | refine blk_drew ?_ | refine blk_alloc ?_ _)); refine blk_put (cs := #[.bool ((rd_T28 l1 x41_2).f0), .int .u64 0]) ?_ 1 _ rfl; (with_reducible repeat (first | refine blk_drewN ?_ _ | refine blk_drew ?_ | refine blk_alloc ?_ _)); refine blk_put (cs := #[.bool false, .int .u64 0]) ?_ 0 _ rfl; (with_reducible repeat (first | refine blk_drewN ?_ _ | refine blk_drew ?_ | refine blk_alloc ?_ _)); exact BK150.out) hb); have n3_ := Aside0.mk (below_step (by repeat (first | (with_reducible first | exact HB.out | apply below_alloc | apply pw_below_drewN | apply below_drew1 | refine below_set ?_ GE145.out | refine below_set ?_ GE148.out | refine below_set ?_ GE150.out) | exact HB.out)) hb); clear BK145; clear BK148; clear BK150; clear HB; have BK145 := n0_; have BK148 := n1_; have BK150 := n2_; have HB := n3_; clear n0_ n1_ n2_ n3_; (try clear hb); (try clear hb2); (try clear hk); (try clear hi); have hcz73_0 : w72.cell? ⟨gb148, 0, none⟩ = some (.int .i64 x149000_2) := (blk_cell BK148.out 0).trans rfl; have hcz73_1 : w72.cell? ⟨gb148, 1, none⟩ = some (.int .i64 x149001_2) := (blk_cell BK148.out 1).trans rfl; have hfz73_0 := blk_frozen BK148.out 0; have hfz73_1 := blk_frozen BK148.out 1; have hcz74_0 : w72.cell? ⟨gb145, 0, none⟩ = some (.int .i64 a0_0) := (blk_cell BK145.out 0).trans rfl; have hcz74_1 : w72.cell? ⟨gb145, 1, none⟩ = some (.int .i64 a0_1) := (blk_cell BK145.out 1).trans rfl; have hcz74_2 : w72.cell? ⟨gb145, 2, none⟩ = some (.int .u64 a0_2) := (blk_cell BK145.out 2).trans rfl; have hfz74_0 := blk_frozen BK145.out 0; have hfz74_1 := blk_frozen BK145.out 1; have hfz74_2 := blk_frozen BK145.out 2)); try go_wp2_with (first | ((with_reducible refine gate_dst (N := 9) rfl ?_); (try (refine gate_guard (by rfl) ?_; dsimp only)); refine box_event ?hg (N := 9) ?hd (cs := #[.bool false, .int .u64 0]) (t := 28) ?hr ?_; (case hd => rfl); (case hg => rfl); (case hr => first | (go_simp; done) | (go_simp; rfl)); intro gb150 hg w65 hbox hb; have n0_ := Aside0.mk (blk_below (g := gb145) (o := .cells #[.int .i64 a0_0, .int .i64 a0_1, .int .u64 a0_2] 24 (0, 0)) (by (with_reducible repeat (first | refine blk_drewN ?_ _ | refine blk_drew ?_ | refine blk_alloc ?_ _)); exact BK145.out) hb); have n1_ := Aside0.mk (blk_below (g := gb148) (o := .cells #[.int .i64 x149000_2, .int .i64 x149001_2] 26 (0, 0)) (by (with_reducible repeat (first | refine blk_drewN ?_ _ | refine blk_drew ?_ | refine blk_alloc ?_ _)); exact BK148.out) hb); have n2_ := Aside0.mk (below_step (by repeat (first | (with_reducible first | exact HB.out | apply below_alloc | apply pw_below_drewN | apply below_drew1 | refine below_set ?_ GE145.out | refine below_set ?_ GE148.out) | exact HB.out)) hb); have n3_ := Aside0.mk (hbox); have n4_ := Aside0.mk ((by rw [hg]; exact (below_size (by repeat (first | (with_reducible first | exact HB.out | apply below_alloc | apply pw_below_drewN | apply below_drew1 | refine below_set ?_ GE145.out | refine below_set ?_ GE148.out) | exact HB.out))) : w.heap.size ≤ gb150)); have n5_ := Aside0.mk ((by rw [hg]; exact (below_size (by repeat (first | (with_reducible first | exact HB.out | apply below_alloc | apply pw_below_drewN | apply below_drew1 | refine below_set ?_ GE145.out | refine below_set ?_ GE148.out) | exact HB.out))) : w.heap.size ≤ gb150)); have n6_ := Aside0.mk ((by rw [hg]; exact Nat.ne_of_lt (blk_lt (g := gb145) (o := .cells #[.int .i64 a0_0, .int .i64 a0_1, .int .u64 a0_2] 24 (0, 0)) (by (with_reducible repeat (first | refine blk_drewN ?_ _ | refine blk_drew ?_ | refine blk_alloc ?_ _)); exact BK145.out)) : gb145 ≠ gb150)); have n7_ := Aside0.mk ((by rw [hg]; exact Nat.ne_of_gt (blk_lt (g := gb145) (o := .cells #[.int .i64 a0_0, .int .i64 a0_1, .int .u64 a0_2] 24 (0, 0)) (by (with_reducible repeat (first | refine blk_drewN ?_ _ | refine blk_drew ?_ | refine blk_alloc ?_ _)); exact BK145.out)) : gb150 ≠ gb145)); have n8_ := Aside0.mk ((by rw [hg]; exact Nat.ne_of_lt (blk_lt (g := gb148) (o := .cells #[.int .i64 x149000_2, .int .i64 x149001_2] 26 (0, 0)) (by (with_reducible repeat (first | refine blk_drewN ?_ _ | refine blk_drew ?_ | refine blk_alloc ?_ _)); exact BK148.out)) : gb148 ≠ gb150)); have n9_ := Aside0.mk ((by rw [hg]; exact Nat.ne_of_gt (blk_lt (g := gb148) (o := .cells #[.int .i64 x149000_2, .int .i64 x149001_2] 26 (0, 0)) (by (with_reducible repeat (first | refine blk_drewN ?_ _ | refine blk_drew ?_ | refine blk_alloc ?_ _)); exact BK148.out)) : gb150 ≠ gb148)); clear BK145; clear BK148; clear HB; have BK145 := n0_; have BK148 := n1_; have HB := n2_; have BK150 := n3_; have GW150 := n4_; have GE150 := n5_; have NB145_150 := n6_; have NB150_145 := n7_; have NB148_150 := n8_; have NB150_148 := n9_; clear n0_ n1_ n2_ n3_ n4_ n5_ n6_ n7_ n8_ n9_; clear hb hbox hg; have hnb66 := NB150_145.out; have hnc66 := NB145_150.out; have hnb67 := NB150_148.out; have hnc67 := NB148_150.out; have hcz68_0 : w65.cell? ⟨gb150, 0, none⟩ = some (.bool false) := (blk_cell BK150.out 0).trans rfl; have hcz68_1 : w65.cell? ⟨gb150, 1, none⟩ = some (.int .u64 0) := (blk_cell BK150.out 1).trans rfl; have hfz68_0 := blk_frozen BK150.out 0; have hfz68_1 := blk_frozen BK150.out 1; have hnb69 := NB145_148.out; have hnc69 := NB148_145.out; have hcz70_0 : w65.cell? ⟨gb145, 0, none⟩ = some (.int .i64 a0_0) := (blk_cell BK145.out 0).trans rfl; have hcz70_1 : w65.cell? ⟨gb145, 1, none⟩ = some (.int .i64 a0_1) := (blk_cell BK145.out 1).trans rfl; have hcz70_2 : w65.cell? ⟨gb145, 2, none⟩ = some (.int .u64 a0_2) := (blk_cell BK145.out 2).trans rfl; have hfz70_0 := blk_frozen BK145.out 0; have hfz70_1 := blk_frozen BK145.out 1; have hfz70_2 := blk_frozen BK145.out 2; have hcz71_0 : w65.cell? ⟨gb148, 0, none⟩ = some (.int .i64 x149000_2) := (blk_cell BK148.out 0).trans rfl; have hcz71_1 : w65.cell? ⟨gb148, 1, none⟩ = some (.int .i64 x149001_2) := (blk_cell BK148.out 1).trans rfl; have hfz71_0 := blk_frozen BK148.out 0; have hfz71_1 := blk_frozen BK148.out 1) | (go_at_call 23; (with_reducible refine (health_Step.calls k2 a0_0 a0_1 a0_2 x149000_2 x149001_2 ((rd_T28 l1 x41_2).f0) ((rd_T28 l1 x41_2).f1) t151 t152 _ (by first | exact A32.out | (have h_ := A32.out; exact h_))).mono ?_); rintro e w72 ⟨rfl, hb⟩; have n0_ := Aside0.mk (blk_below (g := gb145) (o := .cells #[.int .i64 a0_0, .int .i64 a0_1, .int .u64 a0_2] 24 (0, 0)) (by (with_reducible repeat (first | refine blk_drewN ?_ _ | refine blk_drew ?_ | refine blk_alloc ?_ _)); refine blk_far ?_ NB145_150.out _; (with_reducible repeat (first | refine blk_drewN ?_ _ | refine blk_drew ?_ | refine blk_alloc ?_ _)); refine blk_far ?_ NB145_150.out _; (with_reducible repeat (first | refine blk_drewN ?_ _ | refine blk_drew ?_ | refine blk_alloc ?_ _)); exact BK145.out) hb); have n1_ := Aside0.mk (blk_below (g := gb148) (o := .cells #[.int .i64 x149000_2, .int .i64 x149001_2] 26 (0, 0)) (by (with_reducible repeat (first | refine blk_drewN ?_ _ | refine blk_drew ?_ | refine blk_alloc ?_ _)); refine blk_far ?_ NB148_150.out _; (with_reducible repeat (first | refine blk_drewN ?_ _ | refine blk_drew ?_ | refine blk_alloc ?_ _)); refine blk_far ?_ NB148_150.out _; (with_reducible repeat (first | refine blk_drewN ?_ _ | refine blk_drew ?_ | refine blk_alloc ?_ _)); exact BK148.out) hb); have n2_ := Aside0.mk (blk_below (g := gb150) (o := .cells #[.bool ((rd_T28 l1 x41_2).f0), .int .u64 ((rd_T28 l1 x41_2).f1)] 28 (0, 0)) (by (with_reducible repeat (first | refine blk_drewN ?_ _ | refine blk_drew ?_ | refine blk_alloc ?_ _)); refine blk_put (cs := #[.bool ((rd_T28 l1 x41_2).f0), .int .u64 0]) ?_ 1 _ rfl; (with_reducible repeat (first | refine blk_drewN ?_ _ | refine blk_drew ?_ | refine blk_alloc ?_ _)); refine blk_put (cs := #[.bool false, .int .u64 0]) ?_ 0 _ rfl; (with_reducible repeat (first | refine blk_drewN ?_ _ | refine blk_drew ?_ | refine blk_alloc ?_ _)); exact BK150.out) hb); have n3_ := Aside0.mk (below_step (by repeat (first | (with_reducible first | exact HB.out | apply below_alloc | apply pw_below_drewN | apply below_drew1 | refine below_set ?_ GE145.out | refine below_set ?_ GE148.out | refine below_set ?_ GE150.out) | exact HB.out)) hb); clear BK145; clear BK148; clear BK150; clear HB; have BK145 := n0_; have BK148 := n1_; have BK150 := n2_; have HB := n3_; clear n0_ n1_ n2_ n3_; (try clear hb); (try clear hb2); (try clear hk); (try clear hi); have hcz73_0 : w72.cell? ⟨gb148, 0, none⟩ = some (.int .i64 x149000_2) := (blk_cell BK148.out 0).trans rfl; have hcz73_1 : w72.cell? ⟨gb148, 1, none⟩ = some (.int .i64 x149001_2) := (blk_cell BK148.out 1).trans rfl; have hfz73_0 := blk_frozen BK148.out 0; have hfz73_1 := blk_frozen BK148.out 1; have hcz74_0 : w72.cell? ⟨gb145, 0, none⟩ = some (.int .i64 a0_0) := (blk_cell BK145.out 0).trans rfl; have hcz74_1 : w72.cell? ⟨gb145, 1, none⟩ = some (.int .i64 a0_1) := (blk_cell BK145.out 1).trans rfl; have hcz74_2 : w72.cell? ⟨gb145, 2, none⟩ = some (.int .u64 a0_2) := (blk_cell BK145.out 2).trans rfl; have hfz74_0 := blk_frozen BK145.out 0; have hfz74_1 := blk_frozen BK145.out 1; have hfz74_2 := blk_frozen BK145.out 2)))
              go_ret
              exact ⟨by first | rfl | (simp [errW_none, errW_some] <;> rfl) | (simp only [← hji63]; first | rfl | (simp [errW_none, errW_some] <;> rfl)) | (simp [*, errW_none, errW_some] <;> rfl), by repeat (first | (with_reducible first | exact HB.out | apply below_alloc | apply pw_below_drewN | apply below_drew1 | refine below_set ?_ GE145.out | refine below_set ?_ GE148.out | refine below_set ?_ GE150.out) | exact HB.out)⟩
             ·rw [if_neg c64] at H
              have c64b0 : decide ((ji63) ≤ t152) = false := decide_eq_false c64
              clear c64
              have H' := Aside0.mk H
              clear H
              have p149 : 0 ≤ (x41_2 : Int) := of_decide_eq_true (by first | (with_reducible assumption) | assumption)
              have q149 : x41_2 < (l1.length : Int) := of_decide_eq_true (by first | (with_reducible assumption) | assumption)
              obtain ⟨ad149, e149, hx149_0, hx149_1⟩ := at_T28 HR1.out x41_2 p149 q149
              cases e149
              replace hx149_0 := (HB.out.cell (World.block_lt_of_cell? w _ hx149_0)).trans hx149_0
              replace hx149_1 := (HB.out.cell (World.block_lt_of_cell? w _ hx149_1)).trans hx149_1
              replace p149 := eq_true p149
              replace q149 := eq_true q149
              go_wp2_with (first | ((with_reducible refine gate_dst (N := 9) rfl ?_); (try (refine gate_guard (by rfl) ?_; dsimp only)); refine box_event ?hg (N := 9) ?hd (cs := #[.bool false, .int .u64 0]) (t := 28) ?hr ?_; (case hd => rfl); (case hg => rfl); (case hr => first | (go_simp; done) | (go_simp; rfl)); intro gb150 hg w75 hbox hb; have n0_ := Aside0.mk (blk_below (g := gb145) (o := .cells #[.int .i64 a0_0, .int .i64 a0_1, .int .u64 a0_2] 24 (0, 0)) (by (with_reducible repeat (first | refine blk_drewN ?_ _ | refine blk_drew ?_ | refine blk_alloc ?_ _)); exact BK145.out) hb); have n1_ := Aside0.mk (blk_below (g := gb148) (o := .cells #[.int .i64 x149000_2, .int .i64 x149001_2] 26 (0, 0)) (by (with_reducible repeat (first | refine blk_drewN ?_ _ | refine blk_drew ?_ | refine blk_alloc ?_ _)); exact BK148.out) hb); have n2_ := Aside0.mk (below_step (by repeat (first | (with_reducible first | exact HB.out | apply below_alloc | apply pw_below_drewN | apply below_drew1 | refine below_set ?_ GE145.out | refine below_set ?_ GE148.out) | exact HB.out)) hb); have n3_ := Aside0.mk (hbox); have n4_ := Aside0.mk ((by rw [hg]; exact (below_size (by repeat (first | (with_reducible first | exact HB.out | apply below_alloc | apply pw_below_drewN | apply below_drew1 | refine below_set ?_ GE145.out | refine below_set ?_ GE148.out) | exact HB.out))) : w.heap.size ≤ gb150)); have n5_ := Aside0.mk ((by rw [hg]; exact (below_size (by repeat (first | (with_reducible first | exact HB.out | apply below_alloc | apply pw_below_drewN | apply below_drew1 | refine below_set ?_ GE145.out | refine below_set ?_ GE148.out) | exact HB.out))) : w.heap.size ≤ gb150)); have n6_ := Aside0.mk ((by rw [hg]; exact Nat.ne_of_lt (blk_lt (g := gb145) (o := .cells #[.int .i64 a0_0, .int .i64 a0_1, .int .u64 a0_2] 24 (0, 0)) (by (with_reducible repeat (first | refine blk_drewN ?_ _ | refine blk_drew ?_ | refine blk_alloc ?_ _)); exact BK145.out)) : gb145 ≠ gb150)); have n7_ := Aside0.mk ((by rw [hg]; exact Nat.ne_of_gt (blk_lt (g := gb145) (o := .cells #[.int .i64 a0_0, .int .i64 a0_1, .int .u64 a0_2] 24 (0, 0)) (by (with_reducible repeat (first | refine blk_drewN ?_ _ | refine blk_drew ?_ | refine blk_alloc ?_ _)); exact BK145.out)) : gb150 ≠ gb145)); have n8_ := Aside0.mk ((by rw [hg]; exact Nat.ne_of_lt (blk_lt (g := gb148) (o := .cells #[.int .i64 x149000_2, .int .i64 x149001_2] 26 (0, 0)) (by (with_reducible repeat (first | refine blk_drewN ?_ _ | refine blk_drew ?_ | refine blk_alloc ?_ _)); exact BK148.out)) : gb148 ≠ gb150)); have n9_ := Aside0.mk ((by rw [hg]; exact Nat.ne_of_gt (blk_lt (g := gb148) (o := .cells #[.int .i64 x149000_2, .int .i64 x149001_2] 26 (0, 0)) (by (with_reducible repeat (first | refine blk_drewN ?_ _ | refine blk_drew ?_ | refine blk_alloc ?_ _)); exact BK148.out)) : gb150 ≠ gb148)); clear BK145; clear BK148; clear HB; have BK145 := n0_; have BK148 := n1_; have HB := n2_; have BK150 := n3_; have GW150 := n4_; have GE150 := n5_; have NB145_150 := n6_; have NB150_145 := n7_; have NB148_150 := n8_; have NB150_148 := n9_; clear n0_ n1_ n2_ n3_ n4_ n5_ n6_ n7_ n8_ n9_; clear hb hbox hg; have hnb76 := NB150_145.out; have hnc76 := NB145_150.out; have hnb77 := NB150_148.out; have hnc77 := NB148_150.out; have hcz78_0 : w75.cell? ⟨gb150, 0, none⟩ = some (.bool false) := (blk_cell BK150.out 0).trans rfl; have hcz78_1 : w75.cell? ⟨gb150, 1, none⟩ = some (.int .u64 0) := (blk_cell BK150.out 1).trans rfl; have hfz78_0 := blk_frozen BK150.out 0; have hfz78_1 := blk_frozen BK150.out 1; have hnb79 := NB145_148.out; have hnc79 := NB148_145.out; have hcz80_0 : w75.cell? ⟨gb145, 0, none⟩ = some (.int .i64 a0_0) := (blk_cell BK145.out 0).trans rfl; have hcz80_1 : w75.cell? ⟨gb145, 1, none⟩ = some (.int .i64 a0_1) := (blk_cell BK145.out 1).trans rfl; have hcz80_2 : w75.cell? ⟨gb145, 2, none⟩ = some (.int .u64 a0_2) := (blk_cell BK145.out 2).trans rfl; have hfz80_0 := blk_frozen BK145.out 0; have hfz80_1 := blk_frozen BK145.out 1; have hfz80_2 := blk_frozen BK145.out 2; have hcz81_0 : w75.cell? ⟨gb148, 0, none⟩ = some (.int .i64 x149000_2) := (blk_cell BK148.out 0).trans rfl; have hcz81_1 : w75.cell? ⟨gb148, 1, none⟩ = some (.int .i64 x149001_2) := (blk_cell BK148.out 1).trans rfl; have hfz81_0 := blk_frozen BK148.out 0; have hfz81_1 := blk_frozen BK148.out 1) | (go_at_call 23; (with_reducible refine (health_Step.calls k2 a0_0 a0_1 a0_2 x149000_2 x149001_2 ((rd_T28 l1 x41_2).f0) ((rd_T28 l1 x41_2).f1) t151 t152 _ (by first | exact A32.out | (have h_ := A32.out; exact h_))).mono ?_); rintro e w82 ⟨rfl, hb⟩; have n0_ := Aside0.mk (blk_below (g := gb145) (o := .cells #[.int .i64 a0_0, .int .i64 a0_1, .int .u64 a0_2] 24 (0, 0)) (by (with_reducible repeat (first | refine blk_drewN ?_ _ | refine blk_drew ?_ | refine blk_alloc ?_ _)); refine blk_far ?_ NB145_150.out _; (with_reducible repeat (first | refine blk_drewN ?_ _ | refine blk_drew ?_ | refine blk_alloc ?_ _)); refine blk_far ?_ NB145_150.out _; (with_reducible repeat (first | refine blk_drewN ?_ _ | refine blk_drew ?_ | refine blk_alloc ?_ _)); exact BK145.out) hb); have n1_ := Aside0.mk (blk_below (g := gb148) (o := .cells #[.int .i64 x149000_2, .int .i64 x149001_2] 26 (0, 0)) (by (with_reducible repeat (first | refine blk_drewN ?_ _ | refine blk_drew ?_ | refine blk_alloc ?_ _)); refine blk_far ?_ NB148_150.out _; (with_reducible repeat (first | refine blk_drewN ?_ _ | refine blk_drew ?_ | refine blk_alloc ?_ _)); refine blk_far ?_ NB148_150.out _; (with_reducible repeat (first | refine blk_drewN ?_ _ | refine blk_drew ?_ | refine blk_alloc ?_ _)); exact BK148.out) hb); have n2_ := Aside0.mk (blk_below (g := gb150) (o := .cells #[.bool ((rd_T28 l1 x41_2).f0), .int .u64 ((rd_T28 l1 x41_2).f1)] 28 (0, 0)) (by (with_reducible repeat (first | refine blk_drewN ?_ _ | refine blk_drew ?_ | refine blk_alloc ?_ _)); refine blk_put (cs := #[.bool ((rd_T28 l1 x41_2).f0), .int .u64 0]) ?_ 1 _ rfl; (with_reducible repeat (first | refine blk_drewN ?_ _ | refine blk_drew ?_ | refine blk_alloc ?_ _)); refine blk_put (cs := #[.bool false, .int .u64 0]) ?_ 0 _ rfl; (with_reducible repeat (first | refine blk_drewN ?_ _ | refine blk_drew ?_ | refine blk_alloc ?_ _)); exact BK150.out) hb); have n3_ := Aside0.mk (below_step (by repeat (first | (with_reducible first | exact HB.out | apply below_alloc | apply pw_below_drewN | apply below_drew1 | refine below_set ?_ GE145.out | refine below_set ?_ GE148.out | refine below_set ?_ GE150.out) | exact HB.out)) hb); clear BK145; clear BK148; clear BK150; clear HB; have BK145 := n0_; have BK148 := n1_; have BK150 := n2_; have HB := n3_; clear n0_ n1_ n2_ n3_; (try clear hb); (try clear hb2); (try clear hk); (try clear hi); have hcz83_0 : w82.cell? ⟨gb148, 0, none⟩ = some (.int .i64 x149000_2) := (blk_cell BK148.out 0).trans rfl; have hcz83_1 : w82.cell? ⟨gb148, 1, none⟩ = some (.int .i64 x149001_2) := (blk_cell BK148.out 1).trans rfl; have hfz83_0 := blk_frozen BK148.out 0; have hfz83_1 := blk_frozen BK148.out 1; have hcz84_0 : w82.cell? ⟨gb145, 0, none⟩ = some (.int .i64 a0_0) := (blk_cell BK145.out 0).trans rfl; have hcz84_1 : w82.cell? ⟨gb145, 1, none⟩ = some (.int .i64 a0_1) := (blk_cell BK145.out 1).trans rfl; have hcz84_2 : w82.cell? ⟨gb145, 2, none⟩ = some (.int .u64 a0_2) := (blk_cell BK145.out 2).trans rfl; have hfz84_0 := blk_frozen BK145.out 0; have hfz84_1 := blk_frozen BK145.out 1; have hfz84_2 := blk_frozen BK145.out 2))
              repeat (go_quiet (first | ((with_reducible refine gate_dst (N := 9) rfl ?_); (try (refine gate_guard (by rfl) ?_; dsimp only)); refine box_event ?hg (N := 9) ?hd (cs := #[.bool false, .int .u64 0]) (t := 28) ?hr ?_; (case hd => rfl); (case hg => rfl); (case hr => first | (go_simp; done) | (go_simp; rfl)); intro gb150 hg w75 hbox hb; have n0_ := Aside0.mk (blk_below (g := gb145) (o := .cells #[.int .i64 a0_0, .int .i64 a0_1, .int .u64 a0_2] 24 (0, 0)) (by (with_reducible repeat (first | refine blk_drewN ?_ _ | refine blk_drew ?_ | refine blk_alloc ?_ _)); exact BK145.out) hb); have n1_ := Aside0.mk (blk_below (g := gb148) (o := .cells #[.int .i64 x149000_2, .int .i64 x149001_2] 26 (0, 0)) (by (with_reducible repeat (first | refine blk_drewN ?_ _ | refine blk_drew ?_ | refine blk_alloc ?_ _)); exact BK148.out) hb); have n2_ := Aside0.mk (below_step (by repeat (first | (with_reducible first | exact HB.out | apply below_alloc | apply pw_below_drewN | apply below_drew1 | refine below_set ?_ GE145.out | refine below_set ?_ GE148.out) | exact HB.out)) hb); have n3_ := Aside0.mk (hbox); have n4_ := Aside0.mk ((by rw [hg]; exact (below_size (by repeat (first | (with_reducible first | exact HB.out | apply below_alloc | apply pw_below_drewN | apply below_drew1 | refine below_set ?_ GE145.out | refine below_set ?_ GE148.out) | exact HB.out))) : w.heap.size ≤ gb150)); have n5_ := Aside0.mk ((by rw [hg]; exact (below_size (by repeat (first | (with_reducible first | exact HB.out | apply below_alloc | apply pw_below_drewN | apply below_drew1 | refine below_set ?_ GE145.out | refine below_set ?_ GE148.out) | exact HB.out))) : w.heap.size ≤ gb150)); have n6_ := Aside0.mk ((by rw [hg]; exact Nat.ne_of_lt (blk_lt (g := gb145) (o := .cells #[.int .i64 a0_0, .int .i64 a0_1, .int .u64 a0_2] 24 (0, 0)) (by (with_reducible repeat (first | refine blk_drewN ?_ _ | refine blk_drew ?_ | refine blk_alloc ?_ _)); exact BK145.out)) : gb145 ≠ gb150)); have n7_ := Aside0.mk ((by rw [hg]; exact Nat.ne_of_gt (blk_lt (g := gb145) (o := .cells #[.int .i64 a0_0, .int .i64 a0_1, .int .u64 a0_2] 24 (0, 0)) (by (with_reducible repeat (first | refine blk_drewN ?_ _ | refine blk_drew ?_ | refine blk_alloc ?_ _)); exact BK145.out)) : gb150 ≠ gb145)); have n8_ := Aside0.mk ((by rw [hg]; exact Nat.ne_of_lt (blk_lt (g := gb148) (o := .cells #[.int .i64 x149000_2, .int .i64 x149001_2] 26 (0, 0)) (by (with_reducible repeat (first | refine blk_drewN ?_ _ | refine blk_drew ?_ | refine blk_alloc ?_ _)); exact BK148.out)) : gb148 ≠ gb150)); have n9_ := Aside0.mk ((by rw [hg]; exact Nat.ne_of_gt (blk_lt (g := gb148) (o := .cells #[.int .i64 x149000_2, .int .i64 x149001_2] 26 (0, 0)) (by (with_reducible repeat (first | refine blk_drewN ?_ _ | refine blk_drew ?_ | refine blk_alloc ?_ _)); exact BK148.out)) : gb150 ≠ gb148)); clear BK145; clear BK148; clear HB; have BK145 := n0_; have BK148 := n1_; have HB := n2_; have BK150 := n3_; have GW150 := n4_; have GE150 := n5_; have NB145_150 := n6_; have NB150_145 := n7_; have NB148_150 := n8_; have NB150_148 := n9_; clear n0_ n1_ n2_ n3_ n4_ n5_ n6_ n7_ n8_ n9_; clear hb hbox hg; have hnb76 := NB150_145.out; have hnc76 := NB145_150.out; have hnb77 := NB150_148.out; have hnc77 := NB148_150.out; have hcz78_0 : w75.cell? ⟨gb150, 0, none⟩ = some (.bool false) := (blk_cell BK150.out 0).trans rfl; have hcz78_1 : w75.cell? ⟨gb150, 1, none⟩ = some (.int .u64 0) := (blk_cell BK150.out 1).trans rfl; have hfz78_0 := blk_frozen BK150.out 0; have hfz78_1 := blk_frozen BK150.out 1; have hnb79 := NB145_148.out; have hnc79 := NB148_145.out; have hcz80_0 : w75.cell? ⟨gb145, 0, none⟩ = some (.int .i64 a0_0) := (blk_cell BK145.out 0).trans rfl; have hcz80_1 : w75.cell? ⟨gb145, 1, none⟩ = some (.int .i64 a0_1) := (blk_cell BK145.out 1).trans rfl; have hcz80_2 : w75.cell? ⟨gb145, 2, none⟩ = some (.int .u64 a0_2) := (blk_cell BK145.out 2).trans rfl; have hfz80_0 := blk_frozen BK145.out 0; have hfz80_1 := blk_frozen BK145.out 1; have hfz80_2 := blk_frozen BK145.out 2; have hcz81_0 : w75.cell? ⟨gb148, 0, none⟩ = some (.int .i64 x149000_2) := (blk_cell BK148.out 0).trans rfl; have hcz81_1 : w75.cell? ⟨gb148, 1, none⟩ = some (.int .i64 x149001_2) := (blk_cell BK148.out 1).trans rfl; have hfz81_0 := blk_frozen BK148.out 0; have hfz81_1 := blk_frozen BK148.out 1) | (go_at_call 23; (with_reducible refine (health_Step.calls k2 a0_0 a0_1 a0_2 x149000_2 x149001_2 ((rd_T28 l1 x41_2).f0) ((rd_T28 l1 x41_2).f1) t151 t152 _ (by first | exact A32.out | (have h_ := A32.out; exact h_))).mono ?_); rintro e w82 ⟨rfl, hb⟩; have n0_ := Aside0.mk (blk_below (g := gb145) (o := .cells #[.int .i64 a0_0, .int .i64 a0_1, .int .u64 a0_2] 24 (0, 0)) (by (with_reducible repeat (first | refine blk_drewN ?_ _ | refine blk_drew ?_ | refine blk_alloc ?_ _)); refine blk_far ?_ NB145_150.out _; (with_reducible repeat (first | refine blk_drewN ?_ _ | refine blk_drew ?_ | refine blk_alloc ?_ _)); refine blk_far ?_ NB145_150.out _; (with_reducible repeat (first | refine blk_drewN ?_ _ | refine blk_drew ?_ | refine blk_alloc ?_ _)); exact BK145.out) hb); have n1_ := Aside0.mk (blk_below (g := gb148) (o := .cells #[.int .i64 x149000_2, .int .i64 x149001_2] 26 (0, 0)) (by (with_reducible repeat (first | refine blk_drewN ?_ _ | refine blk_drew ?_ | refine blk_alloc ?_ _)); refine blk_far ?_ NB148_150.out _; (with_reducible repeat (first | refine blk_drewN ?_ _ | refine blk_drew ?_ | refine blk_alloc ?_ _)); refine blk_far ?_ NB148_150.out _; (with_reducible repeat (first | refine blk_drewN ?_ _ | refine blk_drew ?_ | refine blk_alloc ?_ _)); exact BK148.out) hb); have n2_ := Aside0.mk (blk_below (g := gb150) (o := .cells #[.bool ((rd_T28 l1 x41_2).f0), .int .u64 ((rd_T28 l1 x41_2).f1)] 28 (0, 0)) (by (with_reducible repeat (first | refine blk_drewN ?_ _ | refine blk_drew ?_ | refine blk_alloc ?_ _)); refine blk_put (cs := #[.bool ((rd_T28 l1 x41_2).f0), .int .u64 0]) ?_ 1 _ rfl; (with_reducible repeat (first | refine blk_drewN ?_ _ | refine blk_drew ?_ | refine blk_alloc ?_ _)); refine blk_put (cs := #[.bool false, .int .u64 0]) ?_ 0 _ rfl; (with_reducible repeat (first | refine blk_drewN ?_ _ | refine blk_drew ?_ | refine blk_alloc ?_ _)); exact BK150.out) hb); have n3_ := Aside0.mk (below_step (by repeat (first | (with_reducible first | exact HB.out | apply below_alloc | apply pw_below_drewN | apply below_drew1 | refine below_set ?_ GE145.out | refine below_set ?_ GE148.out | refine below_set ?_ GE150.out) | exact HB.out)) hb); clear BK145; clear BK148; clear BK150; clear HB; have BK145 := n0_; have BK148 := n1_; have BK150 := n2_; have HB := n3_; clear n0_ n1_ n2_ n3_; (try clear hb); (try clear hb2); (try clear hk); (try clear hi); have hcz83_0 : w82.cell? ⟨gb148, 0, none⟩ = some (.int .i64 x149000_2) := (blk_cell BK148.out 0).trans rfl; have hcz83_1 : w82.cell? ⟨gb148, 1, none⟩ = some (.int .i64 x149001_2) := (blk_cell BK148.out 1).trans rfl; have hfz83_0 := blk_frozen BK148.out 0; have hfz83_1 := blk_frozen BK148.out 1; have hcz84_0 : w82.cell? ⟨gb145, 0, none⟩ = some (.int .i64 a0_0) := (blk_cell BK145.out 0).trans rfl; have hcz84_1 : w82.cell? ⟨gb145, 1, none⟩ = some (.int .i64 a0_1) := (blk_cell BK145.out 1).trans rfl; have hcz84_2 : w82.cell? ⟨gb145, 2, none⟩ = some (.int .u64 a0_2) := (blk_cell BK145.out 2).trans rfl; have hfz84_0 := blk_frozen BK145.out 0; have hfz84_1 := blk_frozen BK145.out 1; have hfz84_2 := blk_frozen BK145.out 2)); try go_wp2_with (first | ((with_reducible refine gate_dst (N := 9) rfl ?_); (try (refine gate_guard (by rfl) ?_; dsimp only)); refine box_event ?hg (N := 9) ?hd (cs := #[.bool false, .int .u64 0]) (t := 28) ?hr ?_; (case hd => rfl); (case hg => rfl); (case hr => first | (go_simp; done) | (go_simp; rfl)); intro gb150 hg w75 hbox hb; have n0_ := Aside0.mk (blk_below (g := gb145) (o := .cells #[.int .i64 a0_0, .int .i64 a0_1, .int .u64 a0_2] 24 (0, 0)) (by (with_reducible repeat (first | refine blk_drewN ?_ _ | refine blk_drew ?_ | refine blk_alloc ?_ _)); exact BK145.out) hb); have n1_ := Aside0.mk (blk_below (g := gb148) (o := .cells #[.int .i64 x149000_2, .int .i64 x149001_2] 26 (0, 0)) (by (with_reducible repeat (first | refine blk_drewN ?_ _ | refine blk_drew ?_ | refine blk_alloc ?_ _)); exact BK148.out) hb); have n2_ := Aside0.mk (below_step (by repeat (first | (with_reducible first | exact HB.out | apply below_alloc | apply pw_below_drewN | apply below_drew1 | refine below_set ?_ GE145.out | refine below_set ?_ GE148.out) | exact HB.out)) hb); have n3_ := Aside0.mk (hbox); have n4_ := Aside0.mk ((by rw [hg]; exact (below_size (by repeat (first | (with_reducible first | exact HB.out | apply below_alloc | apply pw_below_drewN | apply below_drew1 | refine below_set ?_ GE145.out | refine below_set ?_ GE148.out) | exact HB.out))) : w.heap.size ≤ gb150)); have n5_ := Aside0.mk ((by rw [hg]; exact (below_size (by repeat (first | (with_reducible first | exact HB.out | apply below_alloc | apply pw_below_drewN | apply below_drew1 | refine below_set ?_ GE145.out | refine below_set ?_ GE148.out) | exact HB.out))) : w.heap.size ≤ gb150)); have n6_ := Aside0.mk ((by rw [hg]; exact Nat.ne_of_lt (blk_lt (g := gb145) (o := .cells #[.int .i64 a0_0, .int .i64 a0_1, .int .u64 a0_2] 24 (0, 0)) (by (with_reducible repeat (first | refine blk_drewN ?_ _ | refine blk_drew ?_ | refine blk_alloc ?_ _)); exact BK145.out)) : gb145 ≠ gb150)); have n7_ := Aside0.mk ((by rw [hg]; exact Nat.ne_of_gt (blk_lt (g := gb145) (o := .cells #[.int .i64 a0_0, .int .i64 a0_1, .int .u64 a0_2] 24 (0, 0)) (by (with_reducible repeat (first | refine blk_drewN ?_ _ | refine blk_drew ?_ | refine blk_alloc ?_ _)); exact BK145.out)) : gb150 ≠ gb145)); have n8_ := Aside0.mk ((by rw [hg]; exact Nat.ne_of_lt (blk_lt (g := gb148) (o := .cells #[.int .i64 x149000_2, .int .i64 x149001_2] 26 (0, 0)) (by (with_reducible repeat (first | refine blk_drewN ?_ _ | refine blk_drew ?_ | refine blk_alloc ?_ _)); exact BK148.out)) : gb148 ≠ gb150)); have n9_ := Aside0.mk ((by rw [hg]; exact Nat.ne_of_gt (blk_lt (g := gb148) (o := .cells #[.int .i64 x149000_2, .int .i64 x149001_2] 26 (0, 0)) (by (with_reducible repeat (first | refine blk_drewN ?_ _ | refine blk_drew ?_ | refine blk_alloc ?_ _)); exact BK148.out)) : gb150 ≠ gb148)); clear BK145; clear BK148; clear HB; have BK145 := n0_; have BK148 := n1_; have HB := n2_; have BK150 := n3_; have GW150 := n4_; have GE150 := n5_; have NB145_150 := n6_; have NB150_145 := n7_; have NB148_150 := n8_; have NB150_148 := n9_; clear n0_ n1_ n2_ n3_ n4_ n5_ n6_ n7_ n8_ n9_; clear hb hbox hg; have hnb76 := NB150_145.out; have hnc76 := NB145_150.out; have hnb77 := NB150_148.out; have hnc77 := NB148_150.out; have hcz78_0 : w75.cell? ⟨gb150, 0, none⟩ = some (.bool false) := (blk_cell BK150.out 0).trans rfl; have hcz78_1 : w75.cell? ⟨gb150, 1, none⟩ = some (.int .u64 0) := (blk_cell BK150.out 1).trans rfl; have hfz78_0 := blk_frozen BK150.out 0; have hfz78_1 := blk_frozen BK150.out 1; have hnb79 := NB145_148.out; have hnc79 := NB148_145.out; have hcz80_0 : w75.cell? ⟨gb145, 0, none⟩ = some (.int .i64 a0_0) := (blk_cell BK145.out 0).trans rfl; have hcz80_1 : w75.cell? ⟨gb145, 1, none⟩ = some (.int .i64 a0_1) := (blk_cell BK145.out 1).trans rfl; have hcz80_2 : w75.cell? ⟨gb145, 2, none⟩ = some (.int .u64 a0_2) := (blk_cell BK145.out 2).trans rfl; have hfz80_0 := blk_frozen BK145.out 0; have hfz80_1 := blk_frozen BK145.out 1; have hfz80_2 := blk_frozen BK145.out 2; have hcz81_0 : w75.cell? ⟨gb148, 0, none⟩ = some (.int .i64 x149000_2) := (blk_cell BK148.out 0).trans rfl; have hcz81_1 : w75.cell? ⟨gb148, 1, none⟩ = some (.int .i64 x149001_2) := (blk_cell BK148.out 1).trans rfl; have hfz81_0 := blk_frozen BK148.out 0; have hfz81_1 := blk_frozen BK148.out 1) | (go_at_call 23; (with_reducible refine (health_Step.calls k2 a0_0 a0_1 a0_2 x149000_2 x149001_2 ((rd_T28 l1 x41_2).f0) ((rd_T28 l1 x41_2).f1) t151 t152 _ (by first | exact A32.out | (have h_ := A32.out; exact h_))).mono ?_); rintro e w82 ⟨rfl, hb⟩; have n0_ := Aside0.mk (blk_below (g := gb145) (o := .cells #[.int .i64 a0_0, .int .i64 a0_1, .int .u64 a0_2] 24 (0, 0)) (by (with_reducible repeat (first | refine blk_drewN ?_ _ | refine blk_drew ?_ | refine blk_alloc ?_ _)); refine blk_far ?_ NB145_150.out _; (with_reducible repeat (first | refine blk_drewN ?_ _ | refine blk_drew ?_ | refine blk_alloc ?_ _)); refine blk_far ?_ NB145_150.out _; (with_reducible repeat (first | refine blk_drewN ?_ _ | refine blk_drew ?_ | refine blk_alloc ?_ _)); exact BK145.out) hb); have n1_ := Aside0.mk (blk_below (g := gb148) (o := .cells #[.int .i64 x149000_2, .int .i64 x149001_2] 26 (0, 0)) (by (with_reducible repeat (first | refine blk_drewN ?_ _ | refine blk_drew ?_ | refine blk_alloc ?_ _)); refine blk_far ?_ NB148_150.out _; (with_reducible repeat (first | refine blk_drewN ?_ _ | refine blk_drew ?_ | refine blk_alloc ?_ _)); refine blk_far ?_ NB148_150.out _; (with_reducible repeat (first | refine blk_drewN ?_ _ | refine blk_drew ?_ | refine blk_alloc ?_ _)); exact BK148.out) hb); have n2_ := Aside0.mk (blk_below (g := gb150) (o := .cells #[.bool ((rd_T28 l1 x41_2).f0), .int .u64 ((rd_T28 l1 x41_2).f1)] 28 (0, 0)) (by (with_reducible repeat (first | refine blk_drewN ?_ _ | refine blk_drew ?_ | refine blk_alloc ?_ _)); refine blk_put (cs := #[.bool ((rd_T28 l1 x41_2).f0), .int .u64 0]) ?_ 1 _ rfl; (with_reducible repeat (first | refine blk_drewN ?_ _ | refine blk_drew ?_ | refine blk_alloc ?_ _)); refine blk_put (cs := #[.bool false, .int .u64 0]) ?_ 0 _ rfl; (with_reducible repeat (first | refine blk_drewN ?_ _ | refine blk_drew ?_ | refine blk_alloc ?_ _)); exact BK150.out) hb); have n3_ := Aside0.mk (below_step (by repeat (first | (with_reducible first | exact HB.out | apply below_alloc | apply pw_below_drewN | apply below_drew1 | refine below_set ?_ GE145.out | refine below_set ?_ GE148.out | refine below_set ?_ GE150.out) | exact HB.out)) hb); clear BK145; clear BK148; clear BK150; clear HB; have BK145 := n0_; have BK148 := n1_; have BK150 := n2_; have HB := n3_; clear n0_ n1_ n2_ n3_; (try clear hb); (try clear hb2); (try clear hk); (try clear hi); have hcz83_0 : w82.cell? ⟨gb148, 0, none⟩ = some (.int .i64 x149000_2) := (blk_cell BK148.out 0).trans rfl; have hcz83_1 : w82.cell? ⟨gb148, 1, none⟩ = some (.int .i64 x149001_2) := (blk_cell BK148.out 1).trans rfl; have hfz83_0 := blk_frozen BK148.out 0; have hfz83_1 := blk_frozen BK148.out 1; have hcz84_0 : w82.cell? ⟨gb145, 0, none⟩ = some (.int .i64 a0_0) := (blk_cell BK145.out 0).trans rfl; have hcz84_1 : w82.cell? ⟨gb145, 1, none⟩ = some (.int .i64 a0_1) := (blk_cell BK145.out 1).trans rfl; have hcz84_2 : w82.cell? ⟨gb145, 2, none⟩ = some (.int .u64 a0_2) := (blk_cell BK145.out 2).trans rfl; have hfz84_0 := blk_frozen BK145.out 0; have hfz84_1 := blk_frozen BK145.out 1; have hfz84_2 := blk_frozen BK145.out 2)))
              go_roundg k2
              case measure => have := HJ4.out; have := HK2.out; omega
              case rel => exact ⟨(wrap64 (x41_2 + 1)), (t151), (t152), (by first | rfl | (simp; done) | (simp [*]; done)), H', ⟨by have := HJ4.out; have := HK2.out; omega⟩, ⟨by (with_reducible repeat (first | refine blk_drewN ?_ _ | refine blk_drew ?_ | refine blk_alloc ?_ _)); refine blk_far ?_ NB145_148.out _; (with_reducible repeat (first | refine blk_drewN ?_ _ | refine blk_drew ?_ | refine blk_alloc ?_ _)); refine blk_far ?_ NB145_148.out _; (with_reducible repeat (first | refine blk_drewN ?_ _ | refine blk_drew ?_ | refine blk_alloc ?_ _)); exact BK145.out⟩, ⟨by (with_reducible repeat (first | refine blk_drewN ?_ _ | refine blk_drew ?_ | refine blk_alloc ?_ _)); refine blk_put (cs := #[.int .i64 t151, .int .i64 x149001_2]) ?_ 1 _ rfl; (with_reducible repeat (first | refine blk_drewN ?_ _ | refine blk_drew ?_ | refine blk_alloc ?_ _)); refine blk_put (cs := #[.int .i64 x149000_2, .int .i64 x149001_2]) ?_ 0 _ rfl; (with_reducible repeat (first | refine blk_drewN ?_ _ | refine blk_drew ?_ | refine blk_alloc ?_ _)); exact BK148.out⟩, ⟨by repeat (first | (with_reducible first | exact HB.out | apply below_alloc | apply pw_below_drewN | apply below_drew1 | refine below_set ?_ GE145.out | refine below_set ?_ GE148.out | refine below_set ?_ GE150.out) | exact HB.out)⟩⟩
         ·rw [if_neg c31] at H
          exact absurd H (by simp)
        ·rw [if_neg c30] at H
         exact absurd H (by simp)
       ·rw [if_neg c29] at H
        have c29b0 : decide (x41_2 < (l1.length : Int)) = false := decide_eq_false c29
        clear c29
        have H' := Aside0.mk H
        clear H
        have hnb85 := NB148_145.out
        have hnc85 := NB145_148.out
        have hcz86_0 : wr.cell? ⟨gb148, 0, none⟩ = some (.int .i64 x149000_2) := (blk_cell BK148.out 0).trans rfl
        have hcz86_1 : wr.cell? ⟨gb148, 1, none⟩ = some (.int .i64 x149001_2) := (blk_cell BK148.out 1).trans rfl
        have hfz86_0 := blk_frozen BK148.out 0
        have hfz86_1 := blk_frozen BK148.out 1
        go_wp2_with (first | ((with_reducible refine gate_dst (N := 10) rfl ?_); (try (refine gate_guard (by rfl) ?_; dsimp only)); refine box_event ?hg (N := 10) ?hd (cs := #[.int .i64 0, .int .i64 0]) (t := 26) ?hr ?_; (case hd => rfl); (case hg => rfl); (case hr => first | (go_simp; done) | (go_simp; rfl)); intro gb153 hg w87 hbox hb; have n0_ := Aside0.mk (blk_below (g := gb145) (o := .cells #[.int .i64 a0_0, .int .i64 a0_1, .int .u64 a0_2] 24 (0, 0)) (by (with_reducible repeat (first | refine blk_drewN ?_ _ | refine blk_drew ?_ | refine blk_alloc ?_ _)); exact BK145.out) hb); have n1_ := Aside0.mk (blk_below (g := gb148) (o := .cells #[.int .i64 x149000_2, .int .i64 x149001_2] 26 (0, 0)) (by (with_reducible repeat (first | refine blk_drewN ?_ _ | refine blk_drew ?_ | refine blk_alloc ?_ _)); exact BK148.out) hb); have n2_ := Aside0.mk (below_step (by repeat (first | (with_reducible first | exact HB.out | apply below_alloc | apply pw_below_drewN | apply below_drew1 | refine below_set ?_ GE145.out | refine below_set ?_ GE148.out) | exact HB.out)) hb); have n3_ := Aside0.mk (hbox); have n4_ := Aside0.mk ((by rw [hg]; exact (below_size (by repeat (first | (with_reducible first | exact HB.out | apply below_alloc | apply pw_below_drewN | apply below_drew1 | refine below_set ?_ GE145.out | refine below_set ?_ GE148.out) | exact HB.out))) : w.heap.size ≤ gb153)); have n5_ := Aside0.mk ((by rw [hg]; exact (below_size (by repeat (first | (with_reducible first | exact HB.out | apply below_alloc | apply pw_below_drewN | apply below_drew1 | refine below_set ?_ GE145.out | refine below_set ?_ GE148.out) | exact HB.out))) : w.heap.size ≤ gb153)); have n6_ := Aside0.mk ((by rw [hg]; exact Nat.ne_of_lt (blk_lt (g := gb145) (o := .cells #[.int .i64 a0_0, .int .i64 a0_1, .int .u64 a0_2] 24 (0, 0)) (by (with_reducible repeat (first | refine blk_drewN ?_ _ | refine blk_drew ?_ | refine blk_alloc ?_ _)); exact BK145.out)) : gb145 ≠ gb153)); have n7_ := Aside0.mk ((by rw [hg]; exact Nat.ne_of_gt (blk_lt (g := gb145) (o := .cells #[.int .i64 a0_0, .int .i64 a0_1, .int .u64 a0_2] 24 (0, 0)) (by (with_reducible repeat (first | refine blk_drewN ?_ _ | refine blk_drew ?_ | refine blk_alloc ?_ _)); exact BK145.out)) : gb153 ≠ gb145)); have n8_ := Aside0.mk ((by rw [hg]; exact Nat.ne_of_lt (blk_lt (g := gb148) (o := .cells #[.int .i64 x149000_2, .int .i64 x149001_2] 26 (0, 0)) (by (with_reducible repeat (first | refine blk_drewN ?_ _ | refine blk_drew ?_ | refine blk_alloc ?_ _)); exact BK148.out)) : gb148 ≠ gb153)); have n9_ := Aside0.mk ((by rw [hg]; exact Nat.ne_of_gt (blk_lt (g := gb148) (o := .cells #[.int .i64 x149000_2, .int .i64 x149001_2] 26 (0, 0)) (by (with_reducible repeat (first | refine blk_drewN ?_ _ | refine blk_drew ?_ | refine blk_alloc ?_ _)); exact BK148.out)) : gb153 ≠ gb148)); clear BK145; clear BK148; clear HB; have BK145 := n0_; have BK148 := n1_; have HB := n2_; have BK153 := n3_; have GW153 := n4_; have GE153 := n5_; have NB145_153 := n6_; have NB153_145 := n7_; have NB148_153 := n8_; have NB153_148 := n9_; clear n0_ n1_ n2_ n3_ n4_ n5_ n6_ n7_ n8_ n9_; clear hb hbox hg; have hnb88 := NB153_145.out; have hnc88 := NB145_153.out; have hnb89 := NB153_148.out; have hnc89 := NB148_153.out; have hcz90_0 : w87.cell? ⟨gb153, 0, none⟩ = some (.int .i64 0) := (blk_cell BK153.out 0).trans rfl; have hcz90_1 : w87.cell? ⟨gb153, 1, none⟩ = some (.int .i64 0) := (blk_cell BK153.out 1).trans rfl; have hfz90_0 := blk_frozen BK153.out 0; have hfz90_1 := blk_frozen BK153.out 1; have hcz91_0 : w87.cell? ⟨gb145, 0, none⟩ = some (.int .i64 a0_0) := (blk_cell BK145.out 0).trans rfl; have hcz91_1 : w87.cell? ⟨gb145, 1, none⟩ = some (.int .i64 a0_1) := (blk_cell BK145.out 1).trans rfl; have hcz91_2 : w87.cell? ⟨gb145, 2, none⟩ = some (.int .u64 a0_2) := (blk_cell BK145.out 2).trans rfl; have hfz91_0 := blk_frozen BK145.out 0; have hfz91_1 := blk_frozen BK145.out 1; have hfz91_2 := blk_frozen BK145.out 2))
        repeat (go_quiet (first | ((with_reducible refine gate_dst (N := 10) rfl ?_); (try (refine gate_guard (by rfl) ?_; dsimp only)); refine box_event ?hg (N := 10) ?hd (cs := #[.int .i64 0, .int .i64 0]) (t := 26) ?hr ?_; (case hd => rfl); (case hg => rfl); (case hr => first | (go_simp; done) | (go_simp; rfl)); intro gb153 hg w87 hbox hb; have n0_ := Aside0.mk (blk_below (g := gb145) (o := .cells #[.int .i64 a0_0, .int .i64 a0_1, .int .u64 a0_2] 24 (0, 0)) (by (with_reducible repeat (first | refine blk_drewN ?_ _ | refine blk_drew ?_ | refine blk_alloc ?_ _)); exact BK145.out) hb); have n1_ := Aside0.mk (blk_below (g := gb148) (o := .cells #[.int .i64 x149000_2, .int .i64 x149001_2] 26 (0, 0)) (by (with_reducible repeat (first | refine blk_drewN ?_ _ | refine blk_drew ?_ | refine blk_alloc ?_ _)); exact BK148.out) hb); have n2_ := Aside0.mk (below_step (by repeat (first | (with_reducible first | exact HB.out | apply below_alloc | apply pw_below_drewN | apply below_drew1 | refine below_set ?_ GE145.out | refine below_set ?_ GE148.out) | exact HB.out)) hb); have n3_ := Aside0.mk (hbox); have n4_ := Aside0.mk ((by rw [hg]; exact (below_size (by repeat (first | (with_reducible first | exact HB.out | apply below_alloc | apply pw_below_drewN | apply below_drew1 | refine below_set ?_ GE145.out | refine below_set ?_ GE148.out) | exact HB.out))) : w.heap.size ≤ gb153)); have n5_ := Aside0.mk ((by rw [hg]; exact (below_size (by repeat (first | (with_reducible first | exact HB.out | apply below_alloc | apply pw_below_drewN | apply below_drew1 | refine below_set ?_ GE145.out | refine below_set ?_ GE148.out) | exact HB.out))) : w.heap.size ≤ gb153)); have n6_ := Aside0.mk ((by rw [hg]; exact Nat.ne_of_lt (blk_lt (g := gb145) (o := .cells #[.int .i64 a0_0, .int .i64 a0_1, .int .u64 a0_2] 24 (0, 0)) (by (with_reducible repeat (first | refine blk_drewN ?_ _ | refine blk_drew ?_ | refine blk_alloc ?_ _)); exact BK145.out)) : gb145 ≠ gb153)); have n7_ := Aside0.mk ((by rw [hg]; exact Nat.ne_of_gt (blk_lt (g := gb145) (o := .cells #[.int .i64 a0_0, .int .i64 a0_1, .int .u64 a0_2] 24 (0, 0)) (by (with_reducible repeat (first | refine blk_drewN ?_ _ | refine blk_drew ?_ | refine blk_alloc ?_ _)); exact BK145.out)) : gb153 ≠ gb145)); have n8_ := Aside0.mk ((by rw [hg]; exact Nat.ne_of_lt (blk_lt (g := gb148) (o := .cells #[.int .i64 x149000_2, .int .i64 x149001_2] 26 (0, 0)) (by (with_reducible repeat (first | refine blk_drewN ?_ _ | refine blk_drew ?_ | refine blk_alloc ?_ _)); exact BK148.out)) : gb148 ≠ gb153)); have n9_ := Aside0.mk ((by rw [hg]; exact Nat.ne_of_gt (blk_lt (g := gb148) (o := .cells #[.int .i64 x149000_2, .int .i64 x149001_2] 26 (0, 0)) (by (with_reducible repeat (first | refine blk_drewN ?_ _ | refine blk_drew ?_ | refine blk_alloc ?_ _)); exact BK148.out)) : gb153 ≠ gb148)); clear BK145; clear BK148; clear HB; have BK145 := n0_; have BK148 := n1_; have HB := n2_; have BK153 := n3_; have GW153 := n4_; have GE153 := n5_; have NB145_153 := n6_; have NB153_145 := n7_; have NB148_153 := n8_; have NB153_148 := n9_; clear n0_ n1_ n2_ n3_ n4_ n5_ n6_ n7_ n8_ n9_; clear hb hbox hg; have hnb88 := NB153_145.out; have hnc88 := NB145_153.out; have hnb89 := NB153_148.out; have hnc89 := NB148_153.out; have hcz90_0 : w87.cell? ⟨gb153, 0, none⟩ = some (.int .i64 0) := (blk_cell BK153.out 0).trans rfl; have hcz90_1 : w87.cell? ⟨gb153, 1, none⟩ = some (.int .i64 0) := (blk_cell BK153.out 1).trans rfl; have hfz90_0 := blk_frozen BK153.out 0; have hfz90_1 := blk_frozen BK153.out 1; have hcz91_0 : w87.cell? ⟨gb145, 0, none⟩ = some (.int .i64 a0_0) := (blk_cell BK145.out 0).trans rfl; have hcz91_1 : w87.cell? ⟨gb145, 1, none⟩ = some (.int .i64 a0_1) := (blk_cell BK145.out 1).trans rfl; have hcz91_2 : w87.cell? ⟨gb145, 2, none⟩ = some (.int .u64 a0_2) := (blk_cell BK145.out 2).trans rfl; have hfz91_0 := blk_frozen BK145.out 0; have hfz91_1 := blk_frozen BK145.out 1; have hfz91_2 := blk_frozen BK145.out 2)); try go_wp2_with (first | ((with_reducible refine gate_dst (N := 10) rfl ?_); (try (refine gate_guard (by rfl) ?_; dsimp only)); refine box_event ?hg (N := 10) ?hd (cs := #[.int .i64 0, .int .i64 0]) (t := 26) ?hr ?_; (case hd => rfl); (case hg => rfl); (case hr => first | (go_simp; done) | (go_simp; rfl)); intro gb153 hg w87 hbox hb; have n0_ := Aside0.mk (blk_below (g := gb145) (o := .cells #[.int .i64 a0_0, .int .i64 a0_1, .int .u64 a0_2] 24 (0, 0)) (by (with_reducible repeat (first | refine blk_drewN ?_ _ | refine blk_drew ?_ | refine blk_alloc ?_ _)); exact BK145.out) hb); have n1_ := Aside0.mk (blk_below (g := gb148) (o := .cells #[.int .i64 x149000_2, .int .i64 x149001_2] 26 (0, 0)) (by (with_reducible repeat (first | refine blk_drewN ?_ _ | refine blk_drew ?_ | refine blk_alloc ?_ _)); exact BK148.out) hb); have n2_ := Aside0.mk (below_step (by repeat (first | (with_reducible first | exact HB.out | apply below_alloc | apply pw_below_drewN | apply below_drew1 | refine below_set ?_ GE145.out | refine below_set ?_ GE148.out) | exact HB.out)) hb); have n3_ := Aside0.mk (hbox); have n4_ := Aside0.mk ((by rw [hg]; exact (below_size (by repeat (first | (with_reducible first | exact HB.out | apply below_alloc | apply pw_below_drewN | apply below_drew1 | refine below_set ?_ GE145.out | refine below_set ?_ GE148.out) | exact HB.out))) : w.heap.size ≤ gb153)); have n5_ := Aside0.mk ((by rw [hg]; exact (below_size (by repeat (first | (with_reducible first | exact HB.out | apply below_alloc | apply pw_below_drewN | apply below_drew1 | refine below_set ?_ GE145.out | refine below_set ?_ GE148.out) | exact HB.out))) : w.heap.size ≤ gb153)); have n6_ := Aside0.mk ((by rw [hg]; exact Nat.ne_of_lt (blk_lt (g := gb145) (o := .cells #[.int .i64 a0_0, .int .i64 a0_1, .int .u64 a0_2] 24 (0, 0)) (by (with_reducible repeat (first | refine blk_drewN ?_ _ | refine blk_drew ?_ | refine blk_alloc ?_ _)); exact BK145.out)) : gb145 ≠ gb153)); have n7_ := Aside0.mk ((by rw [hg]; exact Nat.ne_of_gt (blk_lt (g := gb145) (o := .cells #[.int .i64 a0_0, .int .i64 a0_1, .int .u64 a0_2] 24 (0, 0)) (by (with_reducible repeat (first | refine blk_drewN ?_ _ | refine blk_drew ?_ | refine blk_alloc ?_ _)); exact BK145.out)) : gb153 ≠ gb145)); have n8_ := Aside0.mk ((by rw [hg]; exact Nat.ne_of_lt (blk_lt (g := gb148) (o := .cells #[.int .i64 x149000_2, .int .i64 x149001_2] 26 (0, 0)) (by (with_reducible repeat (first | refine blk_drewN ?_ _ | refine blk_drew ?_ | refine blk_alloc ?_ _)); exact BK148.out)) : gb148 ≠ gb153)); have n9_ := Aside0.mk ((by rw [hg]; exact Nat.ne_of_gt (blk_lt (g := gb148) (o := .cells #[.int .i64 x149000_2, .int .i64 x149001_2] 26 (0, 0)) (by (with_reducible repeat (first | refine blk_drewN ?_ _ | refine blk_drew ?_ | refine blk_alloc ?_ _)); exact BK148.out)) : gb153 ≠ gb148)); clear BK145; clear BK148; clear HB; have BK145 := n0_; have BK148 := n1_; have HB := n2_; have BK153 := n3_; have GW153 := n4_; have GE153 := n5_; have NB145_153 := n6_; have NB153_145 := n7_; have NB148_153 := n8_; have NB153_148 := n9_; clear n0_ n1_ n2_ n3_ n4_ n5_ n6_ n7_ n8_ n9_; clear hb hbox hg; have hnb88 := NB153_145.out; have hnc88 := NB145_153.out; have hnb89 := NB153_148.out; have hnc89 := NB148_153.out; have hcz90_0 : w87.cell? ⟨gb153, 0, none⟩ = some (.int .i64 0) := (blk_cell BK153.out 0).trans rfl; have hcz90_1 : w87.cell? ⟨gb153, 1, none⟩ = some (.int .i64 0) := (blk_cell BK153.out 1).trans rfl; have hfz90_0 := blk_frozen BK153.out 0; have hfz90_1 := blk_frozen BK153.out 1; have hcz91_0 : w87.cell? ⟨gb145, 0, none⟩ = some (.int .i64 a0_0) := (blk_cell BK145.out 0).trans rfl; have hcz91_1 : w87.cell? ⟨gb145, 1, none⟩ = some (.int .i64 a0_1) := (blk_cell BK145.out 1).trans rfl; have hcz91_2 : w87.cell? ⟨gb145, 2, none⟩ = some (.int .u64 a0_2) := (blk_cell BK145.out 2).trans rfl; have hfz91_0 := blk_frozen BK145.out 0; have hfz91_1 := blk_frozen BK145.out 1; have hfz91_2 := blk_frozen BK145.out 2)))
        go_loopg [76] k2 (fun kq v76 w' => ∃ (x76_3 : Int) (x149000_3 : Int) (x149001_3 : Int), v76 = .int .i64 x76_3 ∧ Aside0 (signalmanlaw12_HealthPasses.l1 kq l2 a0_1 x76_3 a0_0 a0_1 a0_2 x149000_3 x149001_3 x149000_2 x149001_2 = some r) ∧ Aside0 (kq ≤ k2) ∧ Aside0 (w'.heap[gb145]? = some (.cells #[.int .i64 a0_0, .int .i64 a0_1, .int .u64 a0_2] 24 (0, 0))) ∧ Aside0 (w'.heap[gb148]? = some (.cells #[.int .i64 x149000_3, .int .i64 x149001_3] 26 (0, 0))) ∧ Aside0 (w'.heap[gb153]? = some (.cells #[.int .i64 x149000_2, .int .i64 x149001_2] 26 (0, 0))) ∧ Aside0 (Below w.heap.size w w'))
        case atStart => exact ⟨(0), (x149000_2), (x149001_2), (by first | rfl | (simp; done) | (simp [*]; done)), H', ⟨Nat.le_refl _⟩, ⟨by (with_reducible repeat (first | refine blk_drewN ?_ _ | refine blk_drew ?_ | refine blk_alloc ?_ _)); refine blk_far ?_ NB145_153.out _; (with_reducible repeat (first | refine blk_drewN ?_ _ | refine blk_drew ?_ | refine blk_alloc ?_ _)); refine blk_far ?_ NB145_153.out _; (with_reducible repeat (first | refine blk_drewN ?_ _ | refine blk_drew ?_ | refine blk_alloc ?_ _)); exact BK145.out⟩, ⟨by (with_reducible repeat (first | refine blk_drewN ?_ _ | refine blk_drew ?_ | refine blk_alloc ?_ _)); refine blk_far ?_ NB148_153.out _; (with_reducible repeat (first | refine blk_drewN ?_ _ | refine blk_drew ?_ | refine blk_alloc ?_ _)); refine blk_far ?_ NB148_153.out _; (with_reducible repeat (first | refine blk_drewN ?_ _ | refine blk_drew ?_ | refine blk_alloc ?_ _)); exact BK148.out⟩, ⟨by (with_reducible repeat (first | refine blk_drewN ?_ _ | refine blk_drew ?_ | refine blk_alloc ?_ _)); refine blk_put (cs := #[.int .i64 x149000_2, .int .i64 0]) ?_ 1 _ rfl; (with_reducible repeat (first | refine blk_drewN ?_ _ | refine blk_drew ?_ | refine blk_alloc ?_ _)); refine blk_put (cs := #[.int .i64 0, .int .i64 0]) ?_ 0 _ rfl; (with_reducible repeat (first | refine blk_drewN ?_ _ | refine blk_drew ?_ | refine blk_alloc ?_ _)); exact BK153.out⟩, ⟨by repeat (first | (with_reducible first | exact HB.out | apply below_alloc | apply pw_below_drewN | apply below_drew1 | refine below_set ?_ GE145.out | refine below_set ?_ GE148.out | refine below_set ?_ GE153.out) | exact HB.out)⟩⟩
        case round =>
         clear H'
         try clear c1
         try clear p1
         try clear q1
         try clear hx1
         try clear c2
         try clear p2
         try clear c3
         try clear c4
         try clear c5
         try clear c6
         try clear p6
         try clear c7
         try clear c8
         try clear c9
         try clear c10
         try clear c10b0
         try clear c10b1
         try clear c13
         try clear c13b0
         try clear c13b1
         try clear p14
         try clear q14
         try clear hx14
         try clear c16
         try clear c16b0
         try clear c25
         try clear c27
         try clear c29
         try clear c29b0
         try clear c30
         try clear c30b0
         try clear c31
         try clear c31b0
         try clear c33
         try clear c33b0
         try clear c35
         try clear c36
         try clear c38
         try clear c43
         try clear c43b0
         try clear c45
         try clear c46
         try clear c48
         try clear c53
         try clear c53b0
         try clear c55
         try clear c56
         try clear c58
         try clear c64
         try clear c64b0
         try clear p64
         try clear c66
         try clear c67
         try clear c69
         try clear c76
         try clear c77
         try clear c79
         try clear c85
         try clear c88
         try clear c89
         try clear hcz11_0
         try clear hcz11_1
         try clear hcz11_2
         try clear hcz14_0
         try clear hcz14_1
         try clear hcz14_2
         try clear hcz17_0
         try clear hcz17_1
         try clear hcz17_2
         try clear hcz19_0
         try clear hcz19_1
         try clear hcz19_2
         try clear hcz20_0
         try clear hcz20_1
         try clear hcz20_2
         try clear hcz22_0
         try clear hcz22_1
         try clear hcz22_2
         try clear hcz23_0
         try clear hcz23_1
         try clear hcz23_2
         try clear hcz28_0
         try clear hcz28_1
         try clear hcz37_0
         try clear hcz37_1
         try clear hcz39_0
         try clear hcz39_1
         try clear hcz39_2
         try clear hcz40_0
         try clear hcz40_1
         try clear hcz42_0
         try clear hcz42_1
         try clear hcz47_0
         try clear hcz47_1
         try clear hcz49_0
         try clear hcz49_1
         try clear hcz49_2
         try clear hcz50_0
         try clear hcz50_1
         try clear hcz52_0
         try clear hcz52_1
         try clear hcz57_0
         try clear hcz57_1
         try clear hcz59_0
         try clear hcz59_1
         try clear hcz59_2
         try clear hcz60_0
         try clear hcz60_1
         try clear hcz62_0
         try clear hcz62_1
         try clear hcz68_0
         try clear hcz68_1
         try clear hcz70_0
         try clear hcz70_1
         try clear hcz70_2
         try clear hcz71_0
         try clear hcz71_1
         try clear hcz73_0
         try clear hcz73_1
         try clear hcz74_0
         try clear hcz74_1
         try clear hcz74_2
         try clear hcz78_0
         try clear hcz78_1
         try clear hcz80_0
         try clear hcz80_1
         try clear hcz80_2
         try clear hcz81_0
         try clear hcz81_1
         try clear hcz83_0
         try clear hcz83_1
         try clear hcz84_0
         try clear hcz84_1
         try clear hcz84_2
         try clear hcz86_0
         try clear hcz86_1
         try clear hcz90_0
         try clear hcz90_1
         try clear hcz91_0
         try clear hcz91_1
         try clear hcz91_2
         try clear hfz11_0
         try clear hfz11_1
         try clear hfz11_2
         try clear hfz14_0
         try clear hfz14_1
         try clear hfz14_2
         try clear hfz17_0
         try clear hfz17_1
         try clear hfz17_2
         try clear hfz19_0
         try clear hfz19_1
         try clear hfz19_2
         try clear hfz20_0
         try clear hfz20_1
         try clear hfz20_2
         try clear hfz22_0
         try clear hfz22_1
         try clear hfz22_2
         try clear hfz23_0
         try clear hfz23_1
         try clear hfz23_2
         try clear hfz28_0
         try clear hfz28_1
         try clear hfz37_0
         try clear hfz37_1
         try clear hfz39_0
         try clear hfz39_1
         try clear hfz39_2
         try clear hfz40_0
         try clear hfz40_1
         try clear hfz42_0
         try clear hfz42_1
         try clear hfz47_0
         try clear hfz47_1
         try clear hfz49_0
         try clear hfz49_1
         try clear hfz49_2
         try clear hfz50_0
         try clear hfz50_1
         try clear hfz52_0
         try clear hfz52_1
         try clear hfz57_0
         try clear hfz57_1
         try clear hfz59_0
         try clear hfz59_1
         try clear hfz59_2
         try clear hfz60_0
         try clear hfz60_1
         try clear hfz62_0
         try clear hfz62_1
         try clear hfz68_0
         try clear hfz68_1
         try clear hfz70_0
         try clear hfz70_1
         try clear hfz70_2
         try clear hfz71_0
         try clear hfz71_1
         try clear hfz73_0
         try clear hfz73_1
         try clear hfz74_0
         try clear hfz74_1
         try clear hfz74_2
         try clear hfz78_0
         try clear hfz78_1
         try clear hfz80_0
         try clear hfz80_1
         try clear hfz80_2
         try clear hfz81_0
         try clear hfz81_1
         try clear hfz83_0
         try clear hfz83_1
         try clear hfz84_0
         try clear hfz84_1
         try clear hfz84_2
         try clear hfz86_0
         try clear hfz86_1
         try clear hfz90_0
         try clear hfz90_1
         try clear hfz91_0
         try clear hfz91_1
         try clear hfz91_2
         try clear hx149_0
         try clear hx149_1
         try clear p149
         try clear p2
         try clear q149
         obtain ⟨x76_3, x149000_3, x149001_3, rfl, HA, HK3, BK145, BK148, BK153, HB⟩ := hrel
         cases gk with
         | zero => exact absurd HA.out (by simp [signalmanlaw12_HealthPasses.l1])
         | succ k3 =>
          have H := HA.out
          clear HA
          simp only [signalmanlaw12_HealthPasses.l1] at H
          by_cases c92 : x76_3 < a0_1
          ·rw [if_pos c92] at H
           have c92b0 : decide (x76_3 < a0_1) = true := decide_eq_true c92
           clear c92
           have HC93 := Aside0.mk H
           clear H
           go_upto_if 82 with (fail)
           repeat (go_quiet (fail); go_upto_if 82 with (fail))
           go_cut [12] (fun v12 wc => ∃ (kq : Nat) (x12_92 : Int), v12 = .int .u64 x12_92 ∧ Aside0 (signalmanlaw12_HealthPasses.j3 kq l2 x12_92 a0_1 x76_3 a0_0 a0_1 a0_2 x149000_3 x149001_3 x149000_2 x149001_2 = some r) ∧ Aside0 (kq ≤ k3) ∧ Aside0 (wc.heap[gb145]? = some (.cells #[.int .i64 a0_0, .int .i64 a0_1, .int .u64 a0_2] 24 (0, 0))) ∧ Aside0 (wc.heap[gb148]? = some (.cells #[.int .i64 x149000_3, .int .i64 x149001_3] 26 (0, 0))) ∧ Aside0 (wc.heap[gb153]? = some (.cells #[.int .i64 x149000_2, .int .i64 x149001_2] 26 (0, 0))) ∧ Aside0 (Below w.heap.size w wc))
           case first =>
            have H := HC93.out
            clear HC93
            by_cases c94 : x76_3 < (l2.length : Int)
            ·rw [if_pos c94] at H
             have c94b0 : decide (x76_3 < (l2.length : Int)) = true := decide_eq_true c94
             clear c94
             (first | rw [c94b0] | (simp only [i64_w, i32_w]; rw [c94b0]) | skip)
             by_cases c95 : 0 ≤ x76_3
             ·rw [if_pos c95] at H
              have c95b0 : decide (0 ≤ x76_3) = true := decide_eq_true c95
              clear c95
              obtain ⟨ji96, hji96⟩ : ∃ j_ : Int, (mn (rd l2 x76_3) a0_2) = j_ := ⟨_, rfl⟩
              replace H : (signalmanlaw12_HealthPasses.j3 k3 l2 ji96 a0_1 x76_3 a0_0 a0_1 a0_2 x149000_3 x149001_3 x149000_2 x149001_2) = some r := by first | (rw [hji96] at H; exact H) | (simp only [hji96] at H ⊢; exact H)
              have hji96_ : (if a0_2 < (rd l2 x76_3) then a0_2 else (rd l2 x76_3)) = ji96 := hji96
              have H' := Aside0.mk H
              clear H
              have p154 : 0 ≤ (x76_3 : Int) := of_decide_eq_true (by first | (with_reducible assumption) | assumption)
              have q154 : x76_3 < (l2.length : Int) := of_decide_eq_true (by first | (with_reducible assumption) | assumption)
              obtain ⟨ad154, e154, hx154_0⟩ := Kd.at_int HR2.out x76_3 p154 q154
              cases e154
              replace hx154_0 := (HB.out.cell (World.block_lt_of_cell? w _ hx154_0)).trans hx154_0
              replace p154 := eq_true p154
              replace q154 := eq_true q154
              have hnb97 := NB145_148.out
              have hnc97 := NB148_145.out
              have hnb98 := NB145_153.out
              have hnc98 := NB153_145.out
              have hcz99_0 : wr.cell? ⟨gb145, 0, none⟩ = some (.int .i64 a0_0) := (blk_cell BK145.out 0).trans rfl
              have hcz99_1 : wr.cell? ⟨gb145, 1, none⟩ = some (.int .i64 a0_1) := (blk_cell BK145.out 1).trans rfl
              have hcz99_2 : wr.cell? ⟨gb145, 2, none⟩ = some (.int .u64 a0_2) := (blk_cell BK145.out 2).trans rfl
              have hfz99_0 := blk_frozen BK145.out 0
              have hfz99_1 := blk_frozen BK145.out 1
              have hfz99_2 := blk_frozen BK145.out 2
              go_wp2
              repeat (go_quiet (fail); try go_wp2)
              go_meet
              case rel => exact ⟨_, (ji96), (by first | rfl | (simp; done) | (simp only [← hji96] <;> (first | rfl | simp)) | (simp [*]; done)), H', ⟨by have := HJ4.out; have := HK2.out; have := HK3.out; first | omega | exact Nat.le_refl _⟩, ⟨by (with_reducible repeat (first | refine blk_drewN ?_ _ | refine blk_drew ?_ | refine blk_alloc ?_ _)); exact BK145.out⟩, ⟨by (with_reducible repeat (first | refine blk_drewN ?_ _ | refine blk_drew ?_ | refine blk_alloc ?_ _)); exact BK148.out⟩, ⟨by (with_reducible repeat (first | refine blk_drewN ?_ _ | refine blk_drew ?_ | refine blk_alloc ?_ _)); exact BK153.out⟩, ⟨by repeat (first | (with_reducible first | exact HB.out | apply below_alloc | apply pw_below_drewN | apply below_drew1 | refine below_set ?_ GE145.out | refine below_set ?_ GE148.out | refine below_set ?_ GE153.out) | exact HB.out)⟩⟩
             ·rw [if_neg c95] at H
              exact absurd H (by simp)
            ·rw [if_neg c94] at H
             have c94b0 : decide (x76_3 < (l2.length : Int)) = false := decide_eq_false c94
             clear c94
             (first | rw [c94b0] | (simp only [i64_w, i32_w]; rw [c94b0]) | skip)
             have H' := Aside0.mk H
             clear H
             go_wp2
             repeat (go_quiet (fail); try go_wp2)
             go_meet
             case rel => exact ⟨_, (0), (by first | rfl | (simp; done) | (simp [*]; done)), H', ⟨by have := HJ4.out; have := HK2.out; have := HK3.out; first | omega | exact Nat.le_refl _⟩, ⟨by (with_reducible repeat (first | refine blk_drewN ?_ _ | refine blk_drew ?_ | refine blk_alloc ?_ _)); exact BK145.out⟩, ⟨by (with_reducible repeat (first | refine blk_drewN ?_ _ | refine blk_drew ?_ | refine blk_alloc ?_ _)); exact BK148.out⟩, ⟨by (with_reducible repeat (first | refine blk_drewN ?_ _ | refine blk_drew ?_ | refine blk_alloc ?_ _)); exact BK153.out⟩, ⟨by repeat (first | (with_reducible first | exact HB.out | apply below_alloc | apply pw_below_drewN | apply below_drew1 | refine below_set ?_ GE145.out | refine below_set ?_ GE148.out | refine below_set ?_ GE153.out) | exact HB.out)⟩⟩
           case rest =>
            clear HC93
            try clear c1
            try clear p1
            try clear q1
            try clear hx1
            try clear c2
            try clear p2
            try clear c3
            try clear c4
            try clear c5
            try clear c6
            try clear p6
            try clear c7
            try clear c8
            try clear c9
            try clear c10
            try clear c10b0
            try clear c10b1
            try clear c13
            try clear c13b0
            try clear c13b1
            try clear p14
            try clear q14
            try clear hx14
            try clear p15
            try clear q15
            try clear hx15
            try clear c16
            try clear c16b0
            try clear c25
            try clear c27
            try clear c29
            try clear c29b0
            try clear c30
            try clear c30b0
            try clear c31
            try clear c31b0
            try clear c33
            try clear c33b0
            try clear c35
            try clear c36
            try clear c38
            try clear c43
            try clear c43b0
            try clear c45
            try clear c46
            try clear c48
            try clear c53
            try clear c53b0
            try clear c55
            try clear c56
            try clear c58
            try clear c64
            try clear c64b0
            try clear p64
            try clear c66
            try clear c67
            try clear c69
            try clear c76
            try clear c77
            try clear c79
            try clear c85
            try clear c88
            try clear c89
            try clear c92
            try clear c92b0
            try clear c94
            try clear c94b0
            try clear c95
            try clear c95b0
            try clear c97
            try clear c98
            try clear hcz11_0
            try clear hcz11_1
            try clear hcz11_2
            try clear hcz14_0
            try clear hcz14_1
            try clear hcz14_2
            try clear hcz17_0
            try clear hcz17_1
            try clear hcz17_2
            try clear hcz19_0
            try clear hcz19_1
            try clear hcz19_2
            try clear hcz20_0
            try clear hcz20_1
            try clear hcz20_2
            try clear hcz22_0
            try clear hcz22_1
            try clear hcz22_2
            try clear hcz23_0
            try clear hcz23_1
            try clear hcz23_2
            try clear hcz28_0
            try clear hcz28_1
            try clear hcz37_0
            try clear hcz37_1
            try clear hcz39_0
            try clear hcz39_1
            try clear hcz39_2
            try clear hcz40_0
            try clear hcz40_1
            try clear hcz42_0
            try clear hcz42_1
            try clear hcz47_0
            try clear hcz47_1
            try clear hcz49_0
            try clear hcz49_1
            try clear hcz49_2
            try clear hcz50_0
            try clear hcz50_1
            try clear hcz52_0
            try clear hcz52_1
            try clear hcz57_0
            try clear hcz57_1
            try clear hcz59_0
            try clear hcz59_1
            try clear hcz59_2
            try clear hcz60_0
            try clear hcz60_1
            try clear hcz62_0
            try clear hcz62_1
            try clear hcz68_0
            try clear hcz68_1
            try clear hcz70_0
            try clear hcz70_1
            try clear hcz70_2
            try clear hcz71_0
            try clear hcz71_1
            try clear hcz73_0
            try clear hcz73_1
            try clear hcz74_0
            try clear hcz74_1
            try clear hcz74_2
            try clear hcz78_0
            try clear hcz78_1
            try clear hcz80_0
            try clear hcz80_1
            try clear hcz80_2
            try clear hcz81_0
            try clear hcz81_1
            try clear hcz83_0
            try clear hcz83_1
            try clear hcz84_0
            try clear hcz84_1
            try clear hcz84_2
            try clear hcz86_0
            try clear hcz86_1
            try clear hcz90_0
            try clear hcz90_1
            try clear hcz91_0
            try clear hcz91_1
            try clear hcz91_2
            try clear hcz99_0
            try clear hcz99_1
            try clear hcz99_2
            try clear hfz11_0
            try clear hfz11_1
            try clear hfz11_2
            try clear hfz14_0
            try clear hfz14_1
            try clear hfz14_2
            try clear hfz17_0
            try clear hfz17_1
            try clear hfz17_2
            try clear hfz19_0
            try clear hfz19_1
            try clear hfz19_2
            try clear hfz20_0
            try clear hfz20_1
            try clear hfz20_2
            try clear hfz22_0
            try clear hfz22_1
            try clear hfz22_2
            try clear hfz23_0
            try clear hfz23_1
            try clear hfz23_2
            try clear hfz28_0
            try clear hfz28_1
            try clear hfz37_0
            try clear hfz37_1
            try clear hfz39_0
            try clear hfz39_1
            try clear hfz39_2
            try clear hfz40_0
            try clear hfz40_1
            try clear hfz42_0
            try clear hfz42_1
            try clear hfz47_0
            try clear hfz47_1
            try clear hfz49_0
            try clear hfz49_1
            try clear hfz49_2
            try clear hfz50_0
            try clear hfz50_1
            try clear hfz52_0
            try clear hfz52_1
            try clear hfz57_0
            try clear hfz57_1
            try clear hfz59_0
            try clear hfz59_1
            try clear hfz59_2
            try clear hfz60_0
            try clear hfz60_1
            try clear hfz62_0
            try clear hfz62_1
            try clear hfz68_0
            try clear hfz68_1
            try clear hfz70_0
            try clear hfz70_1
            try clear hfz70_2
            try clear hfz71_0
            try clear hfz71_1
            try clear hfz73_0
            try clear hfz73_1
            try clear hfz74_0
            try clear hfz74_1
            try clear hfz74_2
            try clear hfz78_0
            try clear hfz78_1
            try clear hfz80_0
            try clear hfz80_1
            try clear hfz80_2
            try clear hfz81_0
            try clear hfz81_1
            try clear hfz83_0
            try clear hfz83_1
            try clear hfz84_0
            try clear hfz84_1
            try clear hfz84_2
            try clear hfz86_0
            try clear hfz86_1
            try clear hfz90_0
            try clear hfz90_1
            try clear hfz91_0
            try clear hfz91_1
            try clear hfz91_2
            try clear hfz99_0
            try clear hfz99_1
            try clear hfz99_2
            try clear hx149_0
            try clear hx149_1
            try clear hx154_0
            try clear p1
            try clear p14
            try clear p149
            try clear p154
            try clear p2
            try clear p6
            try clear p64
            try clear q1
            try clear q14
            try clear q149
            try clear q154
            obtain ⟨kq, x12_92, rfl, HA, HJ92, BK145, BK148, BK153, HB⟩ := hcut
            cases kq with
            | zero => exact absurd HA.out (by simp [signalmanlaw12_HealthPasses.j3])
            | succ kj92 =>
             have H := HA.out
             clear HA
             simp only [signalmanlaw12_HealthPasses.j3] at H
             by_cases c100 : x149000_2 = 2
             ·rw [if_pos c100] at H
              have c100b0 : (x149000_2 == 2) = true := beq_iff_eq.mpr c100
              have c100b1 : (x149000_2 != 2) = false := bne_eq_false_iff_eq.mpr c100
              clear c100
              replace H := Option.bind_eq_some_iff.mp H
              obtain ⟨t155, A1010, H⟩ := H
              replace H : (if t155 = true then (some false) else ((health_Step.f kj92 a0_0 a0_1 a0_2 x149000_3 x149001_3 true x12_92).bind fun bt156 => (signalmanlaw12_HealthPasses.l1 kj92 l2 a0_1 (wrap64 (x76_3 + 1)) a0_0 a0_1 a0_2 bt156.1 bt156.2 x149000_2 x149001_2))) = some r := H
              have A101 := Aside0.mk A1010
              clear A1010
              by_cases c102 : t155 = true
              ·subst c102
               have H1 : (some false) = some r := by rw [if_pos rfl] at H; exact H
               clear H
               have H := H1
               clear H1
               obtain rfl := Option.some.inj H
               have hnb103 := NB153_145.out
               have hnc103 := NB145_153.out
               have hnb104 := NB153_148.out
               have hnc104 := NB148_153.out
               have hcz105_0 : wc.cell? ⟨gb153, 0, none⟩ = some (.int .i64 x149000_2) := (blk_cell BK153.out 0).trans rfl
               have hcz105_1 : wc.cell? ⟨gb153, 1, none⟩ = some (.int .i64 x149001_2) := (blk_cell BK153.out 1).trans rfl
               have hfz105_0 := blk_frozen BK153.out 0
               have hfz105_1 := blk_frozen BK153.out 1
               have hnb106 := NB148_145.out
               have hnc106 := NB145_148.out
               have hcz107_0 : wc.cell? ⟨gb148, 0, none⟩ = some (.int .i64 x149000_3) := (blk_cell BK148.out 0).trans rfl
               have hcz107_1 : wc.cell? ⟨gb148, 1, none⟩ = some (.int .i64 x149001_3) := (blk_cell BK148.out 1).trans rfl
               have hfz107_0 := blk_frozen BK148.out 0
               have hfz107_1 := blk_frozen BK148.out 1
               go_wp2_with (first | (go_at_call 18; (with_reducible refine (health_Serves.calls x149000_3 x149001_3 true _ A101.out).mono ?_); rintro e w108 ⟨rfl, hb⟩; have n0_ := Aside0.mk (blk_below (g := gb145) (o := .cells #[.int .i64 a0_0, .int .i64 a0_1, .int .u64 a0_2] 24 (0, 0)) (by (with_reducible repeat (first | refine blk_drewN ?_ _ | refine blk_drew ?_ | refine blk_alloc ?_ _)); exact BK145.out) hb); have n1_ := Aside0.mk (blk_below (g := gb148) (o := .cells #[.int .i64 x149000_3, .int .i64 x149001_3] 26 (0, 0)) (by (with_reducible repeat (first | refine blk_drewN ?_ _ | refine blk_drew ?_ | refine blk_alloc ?_ _)); exact BK148.out) hb); have n2_ := Aside0.mk (blk_below (g := gb153) (o := .cells #[.int .i64 x149000_2, .int .i64 x149001_2] 26 (0, 0)) (by (with_reducible repeat (first | refine blk_drewN ?_ _ | refine blk_drew ?_ | refine blk_alloc ?_ _)); exact BK153.out) hb); have n3_ := Aside0.mk (below_step (by repeat (first | (with_reducible first | exact HB.out | apply below_alloc | apply pw_below_drewN | apply below_drew1 | refine below_set ?_ GE145.out | refine below_set ?_ GE148.out | refine below_set ?_ GE153.out) | exact HB.out)) hb); clear BK145; clear BK148; clear BK153; clear HB; have BK145 := n0_; have BK148 := n1_; have BK153 := n2_; have HB := n3_; clear n0_ n1_ n2_ n3_; (try clear hb); (try clear hb2); (try clear hk); (try clear hi)))
               repeat (go_quiet (first | (go_at_call 18; (with_reducible refine (health_Serves.calls x149000_3 x149001_3 true _ A101.out).mono ?_); rintro e w108 ⟨rfl, hb⟩; have n0_ := Aside0.mk (blk_below (g := gb145) (o := .cells #[.int .i64 a0_0, .int .i64 a0_1, .int .u64 a0_2] 24 (0, 0)) (by (with_reducible repeat (first | refine blk_drewN ?_ _ | refine blk_drew ?_ | refine blk_alloc ?_ _)); exact BK145.out) hb); have n1_ := Aside0.mk (blk_below (g := gb148) (o := .cells #[.int .i64 x149000_3, .int .i64 x149001_3] 26 (0, 0)) (by (with_reducible repeat (first | refine blk_drewN ?_ _ | refine blk_drew ?_ | refine blk_alloc ?_ _)); exact BK148.out) hb); have n2_ := Aside0.mk (blk_below (g := gb153) (o := .cells #[.int .i64 x149000_2, .int .i64 x149001_2] 26 (0, 0)) (by (with_reducible repeat (first | refine blk_drewN ?_ _ | refine blk_drew ?_ | refine blk_alloc ?_ _)); exact BK153.out) hb); have n3_ := Aside0.mk (below_step (by repeat (first | (with_reducible first | exact HB.out | apply below_alloc | apply pw_below_drewN | apply below_drew1 | refine below_set ?_ GE145.out | refine below_set ?_ GE148.out | refine below_set ?_ GE153.out) | exact HB.out)) hb); clear BK145; clear BK148; clear BK153; clear HB; have BK145 := n0_; have BK148 := n1_; have BK153 := n2_; have HB := n3_; clear n0_ n1_ n2_ n3_; (try clear hb); (try clear hb2); (try clear hk); (try clear hi))); try go_wp2_with (first | (go_at_call 18; (with_reducible refine (health_Serves.calls x149000_3 x149001_3 true _ A101.out).mono ?_); rintro e w108 ⟨rfl, hb⟩; have n0_ := Aside0.mk (blk_below (g := gb145) (o := .cells #[.int .i64 a0_0, .int .i64 a0_1, .int .u64 a0_2] 24 (0, 0)) (by (with_reducible repeat (first | refine blk_drewN ?_ _ | refine blk_drew ?_ | refine blk_alloc ?_ _)); exact BK145.out) hb); have n1_ := Aside0.mk (blk_below (g := gb148) (o := .cells #[.int .i64 x149000_3, .int .i64 x149001_3] 26 (0, 0)) (by (with_reducible repeat (first | refine blk_drewN ?_ _ | refine blk_drew ?_ | refine blk_alloc ?_ _)); exact BK148.out) hb); have n2_ := Aside0.mk (blk_below (g := gb153) (o := .cells #[.int .i64 x149000_2, .int .i64 x149001_2] 26 (0, 0)) (by (with_reducible repeat (first | refine blk_drewN ?_ _ | refine blk_drew ?_ | refine blk_alloc ?_ _)); exact BK153.out) hb); have n3_ := Aside0.mk (below_step (by repeat (first | (with_reducible first | exact HB.out | apply below_alloc | apply pw_below_drewN | apply below_drew1 | refine below_set ?_ GE145.out | refine below_set ?_ GE148.out | refine below_set ?_ GE153.out) | exact HB.out)) hb); clear BK145; clear BK148; clear BK153; clear HB; have BK145 := n0_; have BK148 := n1_; have BK153 := n2_; have HB := n3_; clear n0_ n1_ n2_ n3_; (try clear hb); (try clear hb2); (try clear hk); (try clear hi))))
               go_ret
               exact ⟨by first | rfl | (simp [errW_none, errW_some] <;> rfl) | (simp [*, errW_none, errW_some] <;> rfl), by repeat (first | (with_reducible first | exact HB.out | apply below_alloc | apply pw_below_drewN | apply below_drew1 | refine below_set ?_ GE145.out | refine below_set ?_ GE148.out | refine below_set ?_ GE153.out) | exact HB.out)⟩
              ·replace c102 := Bool.eq_false_iff.mpr c102
               subst c102
               have H1 : ((health_Step.f kj92 a0_0 a0_1 a0_2 x149000_3 x149001_3 true x12_92).bind fun bt156 => (signalmanlaw12_HealthPasses.l1 kj92 l2 a0_1 (wrap64 (x76_3 + 1)) a0_0 a0_1 a0_2 bt156.1 bt156.2 x149000_2 x149001_2)) = some r := by rw [if_neg (show ¬ (false = true) by decide)] at H; exact H
               clear H
               have H := H1
               clear H1
               replace H := Option.bind_eq_some_iff.mp H
               obtain ⟨⟨t156, t157⟩, A1090, H⟩ := H
               replace H : (signalmanlaw12_HealthPasses.l1 kj92 l2 a0_1 (wrap64 (x76_3 + 1)) a0_0 a0_1 a0_2 t156 t157 x149000_2 x149001_2) = some r := H
               have A109 := Aside0.mk A1090
               clear A1090
               have H' := Aside0.mk H
               clear H
               have hnb110 := NB153_145.out
               have hnc110 := NB145_153.out
               have hnb111 := NB153_148.out
               have hnc111 := NB148_153.out
               have hcz112_0 : wc.cell? ⟨gb153, 0, none⟩ = some (.int .i64 x149000_2) := (blk_cell BK153.out 0).trans rfl
               have hcz112_1 : wc.cell? ⟨gb153, 1, none⟩ = some (.int .i64 x149001_2) := (blk_cell BK153.out 1).trans rfl
               have hfz112_0 := blk_frozen BK153.out 0
               have hfz112_1 := blk_frozen BK153.out 1
               have hnb113 := NB148_145.out
               have hnc113 := NB145_148.out
               have hcz114_0 : wc.cell? ⟨gb148, 0, none⟩ = some (.int .i64 x149000_3) := (blk_cell BK148.out 0).trans rfl
               have hcz114_1 : wc.cell? ⟨gb148, 1, none⟩ = some (.int .i64 x149001_3) := (blk_cell BK148.out 1).trans rfl
               have hfz114_0 := blk_frozen BK148.out 0
               have hfz114_1 := blk_frozen BK148.out 1
               go_wp2_with (first | (go_at_call 18; (with_reducible refine (health_Serves.calls x149000_3 x149001_3 false _ A101.out).mono ?_); rintro e w115 ⟨rfl, hb⟩; have n0_ := Aside0.mk (blk_below (g := gb145) (o := .cells #[.int .i64 a0_0, .int .i64 a0_1, .int .u64 a0_2] 24 (0, 0)) (by (with_reducible repeat (first | refine blk_drewN ?_ _ | refine blk_drew ?_ | refine blk_alloc ?_ _)); exact BK145.out) hb); have n1_ := Aside0.mk (blk_below (g := gb148) (o := .cells #[.int .i64 x149000_3, .int .i64 x149001_3] 26 (0, 0)) (by (with_reducible repeat (first | refine blk_drewN ?_ _ | refine blk_drew ?_ | refine blk_alloc ?_ _)); exact BK148.out) hb); have n2_ := Aside0.mk (blk_below (g := gb153) (o := .cells #[.int .i64 x149000_2, .int .i64 x149001_2] 26 (0, 0)) (by (with_reducible repeat (first | refine blk_drewN ?_ _ | refine blk_drew ?_ | refine blk_alloc ?_ _)); exact BK153.out) hb); have n3_ := Aside0.mk (below_step (by repeat (first | (with_reducible first | exact HB.out | apply below_alloc | apply pw_below_drewN | apply below_drew1 | refine below_set ?_ GE145.out | refine below_set ?_ GE148.out | refine below_set ?_ GE153.out) | exact HB.out)) hb); clear BK145; clear BK148; clear BK153; clear HB; have BK145 := n0_; have BK148 := n1_; have BK153 := n2_; have HB := n3_; clear n0_ n1_ n2_ n3_; (try clear hb); (try clear hb2); (try clear hk); (try clear hi); have hcz116_0 : w115.cell? ⟨gb145, 0, none⟩ = some (.int .i64 a0_0) := (blk_cell BK145.out 0).trans rfl; have hcz116_1 : w115.cell? ⟨gb145, 1, none⟩ = some (.int .i64 a0_1) := (blk_cell BK145.out 1).trans rfl; have hcz116_2 : w115.cell? ⟨gb145, 2, none⟩ = some (.int .u64 a0_2) := (blk_cell BK145.out 2).trans rfl; have hfz116_0 := blk_frozen BK145.out 0; have hfz116_1 := blk_frozen BK145.out 1; have hfz116_2 := blk_frozen BK145.out 2; have hcz117_0 : w115.cell? ⟨gb148, 0, none⟩ = some (.int .i64 x149000_3) := (blk_cell BK148.out 0).trans rfl; have hcz117_1 : w115.cell? ⟨gb148, 1, none⟩ = some (.int .i64 x149001_3) := (blk_cell BK148.out 1).trans rfl; have hfz117_0 := blk_frozen BK148.out 0; have hfz117_1 := blk_frozen BK148.out 1) | (go_at_call 23; (with_reducible refine (health_Step.calls kj92 a0_0 a0_1 a0_2 x149000_3 x149001_3 true x12_92 t156 t157 _ (by first | exact A109.out | (have h_ := A109.out; exact h_))).mono ?_); rintro e w118 ⟨rfl, hb⟩; have n0_ := Aside0.mk (blk_below (g := gb145) (o := .cells #[.int .i64 a0_0, .int .i64 a0_1, .int .u64 a0_2] 24 (0, 0)) (by (with_reducible repeat (first | refine blk_drewN ?_ _ | refine blk_drew ?_ | refine blk_alloc ?_ _)); exact BK145.out) hb); have n1_ := Aside0.mk (blk_below (g := gb148) (o := .cells #[.int .i64 x149000_3, .int .i64 x149001_3] 26 (0, 0)) (by (with_reducible repeat (first | refine blk_drewN ?_ _ | refine blk_drew ?_ | refine blk_alloc ?_ _)); exact BK148.out) hb); have n2_ := Aside0.mk (blk_below (g := gb153) (o := .cells #[.int .i64 x149000_2, .int .i64 x149001_2] 26 (0, 0)) (by (with_reducible repeat (first | refine blk_drewN ?_ _ | refine blk_drew ?_ | refine blk_alloc ?_ _)); exact BK153.out) hb); have n3_ := Aside0.mk (below_step (by repeat (first | (with_reducible first | exact HB.out | apply below_alloc | apply pw_below_drewN | apply below_drew1 | refine below_set ?_ GE145.out | refine below_set ?_ GE148.out | refine below_set ?_ GE153.out) | exact HB.out)) hb); clear BK145; clear BK148; clear BK153; clear HB; have BK145 := n0_; have BK148 := n1_; have BK153 := n2_; have HB := n3_; clear n0_ n1_ n2_ n3_; (try clear hb); (try clear hb2); (try clear hk); (try clear hi); have hcz119_0 : w118.cell? ⟨gb148, 0, none⟩ = some (.int .i64 x149000_3) := (blk_cell BK148.out 0).trans rfl; have hcz119_1 : w118.cell? ⟨gb148, 1, none⟩ = some (.int .i64 x149001_3) := (blk_cell BK148.out 1).trans rfl; have hfz119_0 := blk_frozen BK148.out 0; have hfz119_1 := blk_frozen BK148.out 1))
               repeat (go_quiet (first | (go_at_call 18; (with_reducible refine (health_Serves.calls x149000_3 x149001_3 false _ A101.out).mono ?_); rintro e w115 ⟨rfl, hb⟩; have n0_ := Aside0.mk (blk_below (g := gb145) (o := .cells #[.int .i64 a0_0, .int .i64 a0_1, .int .u64 a0_2] 24 (0, 0)) (by (with_reducible repeat (first | refine blk_drewN ?_ _ | refine blk_drew ?_ | refine blk_alloc ?_ _)); exact BK145.out) hb); have n1_ := Aside0.mk (blk_below (g := gb148) (o := .cells #[.int .i64 x149000_3, .int .i64 x149001_3] 26 (0, 0)) (by (with_reducible repeat (first | refine blk_drewN ?_ _ | refine blk_drew ?_ | refine blk_alloc ?_ _)); exact BK148.out) hb); have n2_ := Aside0.mk (blk_below (g := gb153) (o := .cells #[.int .i64 x149000_2, .int .i64 x149001_2] 26 (0, 0)) (by (with_reducible repeat (first | refine blk_drewN ?_ _ | refine blk_drew ?_ | refine blk_alloc ?_ _)); exact BK153.out) hb); have n3_ := Aside0.mk (below_step (by repeat (first | (with_reducible first | exact HB.out | apply below_alloc | apply pw_below_drewN | apply below_drew1 | refine below_set ?_ GE145.out | refine below_set ?_ GE148.out | refine below_set ?_ GE153.out) | exact HB.out)) hb); clear BK145; clear BK148; clear BK153; clear HB; have BK145 := n0_; have BK148 := n1_; have BK153 := n2_; have HB := n3_; clear n0_ n1_ n2_ n3_; (try clear hb); (try clear hb2); (try clear hk); (try clear hi); have hcz116_0 : w115.cell? ⟨gb145, 0, none⟩ = some (.int .i64 a0_0) := (blk_cell BK145.out 0).trans rfl; have hcz116_1 : w115.cell? ⟨gb145, 1, none⟩ = some (.int .i64 a0_1) := (blk_cell BK145.out 1).trans rfl; have hcz116_2 : w115.cell? ⟨gb145, 2, none⟩ = some (.int .u64 a0_2) := (blk_cell BK145.out 2).trans rfl; have hfz116_0 := blk_frozen BK145.out 0; have hfz116_1 := blk_frozen BK145.out 1; have hfz116_2 := blk_frozen BK145.out 2; have hcz117_0 : w115.cell? ⟨gb148, 0, none⟩ = some (.int .i64 x149000_3) := (blk_cell BK148.out 0).trans rfl; have hcz117_1 : w115.cell? ⟨gb148, 1, none⟩ = some (.int .i64 x149001_3) := (blk_cell BK148.out 1).trans rfl; have hfz117_0 := blk_frozen BK148.out 0; have hfz117_1 := blk_frozen BK148.out 1) | (go_at_call 23; (with_reducible refine (health_Step.calls kj92 a0_0 a0_1 a0_2 x149000_3 x149001_3 true x12_92 t156 t157 _ (by first | exact A109.out | (have h_ := A109.out; exact h_))).mono ?_); rintro e w118 ⟨rfl, hb⟩; have n0_ := Aside0.mk (blk_below (g := gb145) (o := .cells #[.int .i64 a0_0, .int .i64 a0_1, .int .u64 a0_2] 24 (0, 0)) (by (with_reducible repeat (first | refine blk_drewN ?_ _ | refine blk_drew ?_ | refine blk_alloc ?_ _)); exact BK145.out) hb); have n1_ := Aside0.mk (blk_below (g := gb148) (o := .cells #[.int .i64 x149000_3, .int .i64 x149001_3] 26 (0, 0)) (by (with_reducible repeat (first | refine blk_drewN ?_ _ | refine blk_drew ?_ | refine blk_alloc ?_ _)); exact BK148.out) hb); have n2_ := Aside0.mk (blk_below (g := gb153) (o := .cells #[.int .i64 x149000_2, .int .i64 x149001_2] 26 (0, 0)) (by (with_reducible repeat (first | refine blk_drewN ?_ _ | refine blk_drew ?_ | refine blk_alloc ?_ _)); exact BK153.out) hb); have n3_ := Aside0.mk (below_step (by repeat (first | (with_reducible first | exact HB.out | apply below_alloc | apply pw_below_drewN | apply below_drew1 | refine below_set ?_ GE145.out | refine below_set ?_ GE148.out | refine below_set ?_ GE153.out) | exact HB.out)) hb); clear BK145; clear BK148; clear BK153; clear HB; have BK145 := n0_; have BK148 := n1_; have BK153 := n2_; have HB := n3_; clear n0_ n1_ n2_ n3_; (try clear hb); (try clear hb2); (try clear hk); (try clear hi); have hcz119_0 : w118.cell? ⟨gb148, 0, none⟩ = some (.int .i64 x149000_3) := (blk_cell BK148.out 0).trans rfl; have hcz119_1 : w118.cell? ⟨gb148, 1, none⟩ = some (.int .i64 x149001_3) := (blk_cell BK148.out 1).trans rfl; have hfz119_0 := blk_frozen BK148.out 0; have hfz119_1 := blk_frozen BK148.out 1)); try go_wp2_with (first | (go_at_call 18; (with_reducible refine (health_Serves.calls x149000_3 x149001_3 false _ A101.out).mono ?_); rintro e w115 ⟨rfl, hb⟩; have n0_ := Aside0.mk (blk_below (g := gb145) (o := .cells #[.int .i64 a0_0, .int .i64 a0_1, .int .u64 a0_2] 24 (0, 0)) (by (with_reducible repeat (first | refine blk_drewN ?_ _ | refine blk_drew ?_ | refine blk_alloc ?_ _)); exact BK145.out) hb); have n1_ := Aside0.mk (blk_below (g := gb148) (o := .cells #[.int .i64 x149000_3, .int .i64 x149001_3] 26 (0, 0)) (by (with_reducible repeat (first | refine blk_drewN ?_ _ | refine blk_drew ?_ | refine blk_alloc ?_ _)); exact BK148.out) hb); have n2_ := Aside0.mk (blk_below (g := gb153) (o := .cells #[.int .i64 x149000_2, .int .i64 x149001_2] 26 (0, 0)) (by (with_reducible repeat (first | refine blk_drewN ?_ _ | refine blk_drew ?_ | refine blk_alloc ?_ _)); exact BK153.out) hb); have n3_ := Aside0.mk (below_step (by repeat (first | (with_reducible first | exact HB.out | apply below_alloc | apply pw_below_drewN | apply below_drew1 | refine below_set ?_ GE145.out | refine below_set ?_ GE148.out | refine below_set ?_ GE153.out) | exact HB.out)) hb); clear BK145; clear BK148; clear BK153; clear HB; have BK145 := n0_; have BK148 := n1_; have BK153 := n2_; have HB := n3_; clear n0_ n1_ n2_ n3_; (try clear hb); (try clear hb2); (try clear hk); (try clear hi); have hcz116_0 : w115.cell? ⟨gb145, 0, none⟩ = some (.int .i64 a0_0) := (blk_cell BK145.out 0).trans rfl; have hcz116_1 : w115.cell? ⟨gb145, 1, none⟩ = some (.int .i64 a0_1) := (blk_cell BK145.out 1).trans rfl; have hcz116_2 : w115.cell? ⟨gb145, 2, none⟩ = some (.int .u64 a0_2) := (blk_cell BK145.out 2).trans rfl; have hfz116_0 := blk_frozen BK145.out 0; have hfz116_1 := blk_frozen BK145.out 1; have hfz116_2 := blk_frozen BK145.out 2; have hcz117_0 : w115.cell? ⟨gb148, 0, none⟩ = some (.int .i64 x149000_3) := (blk_cell BK148.out 0).trans rfl; have hcz117_1 : w115.cell? ⟨gb148, 1, none⟩ = some (.int .i64 x149001_3) := (blk_cell BK148.out 1).trans rfl; have hfz117_0 := blk_frozen BK148.out 0; have hfz117_1 := blk_frozen BK148.out 1) | (go_at_call 23; (with_reducible refine (health_Step.calls kj92 a0_0 a0_1 a0_2 x149000_3 x149001_3 true x12_92 t156 t157 _ (by first | exact A109.out | (have h_ := A109.out; exact h_))).mono ?_); rintro e w118 ⟨rfl, hb⟩; have n0_ := Aside0.mk (blk_below (g := gb145) (o := .cells #[.int .i64 a0_0, .int .i64 a0_1, .int .u64 a0_2] 24 (0, 0)) (by (with_reducible repeat (first | refine blk_drewN ?_ _ | refine blk_drew ?_ | refine blk_alloc ?_ _)); exact BK145.out) hb); have n1_ := Aside0.mk (blk_below (g := gb148) (o := .cells #[.int .i64 x149000_3, .int .i64 x149001_3] 26 (0, 0)) (by (with_reducible repeat (first | refine blk_drewN ?_ _ | refine blk_drew ?_ | refine blk_alloc ?_ _)); exact BK148.out) hb); have n2_ := Aside0.mk (blk_below (g := gb153) (o := .cells #[.int .i64 x149000_2, .int .i64 x149001_2] 26 (0, 0)) (by (with_reducible repeat (first | refine blk_drewN ?_ _ | refine blk_drew ?_ | refine blk_alloc ?_ _)); exact BK153.out) hb); have n3_ := Aside0.mk (below_step (by repeat (first | (with_reducible first | exact HB.out | apply below_alloc | apply pw_below_drewN | apply below_drew1 | refine below_set ?_ GE145.out | refine below_set ?_ GE148.out | refine below_set ?_ GE153.out) | exact HB.out)) hb); clear BK145; clear BK148; clear BK153; clear HB; have BK145 := n0_; have BK148 := n1_; have BK153 := n2_; have HB := n3_; clear n0_ n1_ n2_ n3_; (try clear hb); (try clear hb2); (try clear hk); (try clear hi); have hcz119_0 : w118.cell? ⟨gb148, 0, none⟩ = some (.int .i64 x149000_3) := (blk_cell BK148.out 0).trans rfl; have hcz119_1 : w118.cell? ⟨gb148, 1, none⟩ = some (.int .i64 x149001_3) := (blk_cell BK148.out 1).trans rfl; have hfz119_0 := blk_frozen BK148.out 0; have hfz119_1 := blk_frozen BK148.out 1)))
               go_roundg kj92
               case measure => have := HJ4.out; have := HK2.out; have := HK3.out; have := HJ92.out; omega
               case rel => exact ⟨(wrap64 (x76_3 + 1)), (t156), (t157), (by first | rfl | (simp; done) | (simp [*]; done)), H', ⟨by have := HJ4.out; have := HK2.out; have := HK3.out; have := HJ92.out; omega⟩, ⟨by (with_reducible repeat (first | refine blk_drewN ?_ _ | refine blk_drew ?_ | refine blk_alloc ?_ _)); refine blk_far ?_ NB145_148.out _; (with_reducible repeat (first | refine blk_drewN ?_ _ | refine blk_drew ?_ | refine blk_alloc ?_ _)); refine blk_far ?_ NB145_148.out _; (with_reducible repeat (first | refine blk_drewN ?_ _ | refine blk_drew ?_ | refine blk_alloc ?_ _)); exact BK145.out⟩, ⟨by (with_reducible repeat (first | refine blk_drewN ?_ _ | refine blk_drew ?_ | refine blk_alloc ?_ _)); refine blk_put (cs := #[.int .i64 t156, .int .i64 x149001_3]) ?_ 1 _ rfl; (with_reducible repeat (first | refine blk_drewN ?_ _ | refine blk_drew ?_ | refine blk_alloc ?_ _)); refine blk_put (cs := #[.int .i64 x149000_3, .int .i64 x149001_3]) ?_ 0 _ rfl; (with_reducible repeat (first | refine blk_drewN ?_ _ | refine blk_drew ?_ | refine blk_alloc ?_ _)); exact BK148.out⟩, ⟨by (with_reducible repeat (first | refine blk_drewN ?_ _ | refine blk_drew ?_ | refine blk_alloc ?_ _)); refine blk_far ?_ NB153_148.out _; (with_reducible repeat (first | refine blk_drewN ?_ _ | refine blk_drew ?_ | refine blk_alloc ?_ _)); refine blk_far ?_ NB153_148.out _; (with_reducible repeat (first | refine blk_drewN ?_ _ | refine blk_drew ?_ | refine blk_alloc ?_ _)); exact BK153.out⟩, ⟨by repeat (first | (with_reducible first | exact HB.out | apply below_alloc | apply pw_below_drewN | apply below_drew1 | refine below_set ?_ GE145.out | refine below_set ?_ GE148.out | refine below_set ?_ GE153.out) | exact HB.out)⟩⟩
             ·rw [if_neg c100] at H
              have c100b0 : (x149000_2 == 2) = false := beq_eq_false_iff_ne.mpr c100
              have c100b1 : (x149000_2 != 2) = true := bne_iff_ne.mpr c100
              replace H := Option.bind_eq_some_iff.mp H
              obtain ⟨⟨t158, t159⟩, A1200, H⟩ := H
              replace H : (signalmanlaw12_HealthPasses.l1 kj92 l2 a0_1 (wrap64 (x76_3 + 1)) a0_0 a0_1 a0_2 t158 t159 x149000_2 x149001_2) = some r := H
              have A120 := Aside0.mk A1200
              clear A1200
              have H' := Aside0.mk H
              clear H
              have hnb121 := NB153_145.out
              have hnc121 := NB145_153.out
              have hnb122 := NB153_148.out
              have hnc122 := NB148_153.out
              have hcz123_0 : wc.cell? ⟨gb153, 0, none⟩ = some (.int .i64 x149000_2) := (blk_cell BK153.out 0).trans rfl
              have hcz123_1 : wc.cell? ⟨gb153, 1, none⟩ = some (.int .i64 x149001_2) := (blk_cell BK153.out 1).trans rfl
              have hfz123_0 := blk_frozen BK153.out 0
              have hfz123_1 := blk_frozen BK153.out 1
              have hnb124 := NB145_148.out
              have hnc124 := NB148_145.out
              have hcz125_0 : wc.cell? ⟨gb145, 0, none⟩ = some (.int .i64 a0_0) := (blk_cell BK145.out 0).trans rfl
              have hcz125_1 : wc.cell? ⟨gb145, 1, none⟩ = some (.int .i64 a0_1) := (blk_cell BK145.out 1).trans rfl
              have hcz125_2 : wc.cell? ⟨gb145, 2, none⟩ = some (.int .u64 a0_2) := (blk_cell BK145.out 2).trans rfl
              have hfz125_0 := blk_frozen BK145.out 0
              have hfz125_1 := blk_frozen BK145.out 1
              have hfz125_2 := blk_frozen BK145.out 2
              have hcz126_0 : wc.cell? ⟨gb148, 0, none⟩ = some (.int .i64 x149000_3) := (blk_cell BK148.out 0).trans rfl
              have hcz126_1 : wc.cell? ⟨gb148, 1, none⟩ = some (.int .i64 x149001_3) := (blk_cell BK148.out 1).trans rfl
              have hfz126_0 := blk_frozen BK148.out 0
              have hfz126_1 := blk_frozen BK148.out 1
              go_wp2_with (first | (go_at_call 23; (with_reducible refine (health_Step.calls kj92 a0_0 a0_1 a0_2 x149000_3 x149001_3 true x12_92 t158 t159 _ (by first | exact A120.out | (have h_ := A120.out; exact h_))).mono ?_); rintro e w127 ⟨rfl, hb⟩; have n0_ := Aside0.mk (blk_below (g := gb145) (o := .cells #[.int .i64 a0_0, .int .i64 a0_1, .int .u64 a0_2] 24 (0, 0)) (by (with_reducible repeat (first | refine blk_drewN ?_ _ | refine blk_drew ?_ | refine blk_alloc ?_ _)); exact BK145.out) hb); have n1_ := Aside0.mk (blk_below (g := gb148) (o := .cells #[.int .i64 x149000_3, .int .i64 x149001_3] 26 (0, 0)) (by (with_reducible repeat (first | refine blk_drewN ?_ _ | refine blk_drew ?_ | refine blk_alloc ?_ _)); exact BK148.out) hb); have n2_ := Aside0.mk (blk_below (g := gb153) (o := .cells #[.int .i64 x149000_2, .int .i64 x149001_2] 26 (0, 0)) (by (with_reducible repeat (first | refine blk_drewN ?_ _ | refine blk_drew ?_ | refine blk_alloc ?_ _)); exact BK153.out) hb); have n3_ := Aside0.mk (below_step (by repeat (first | (with_reducible first | exact HB.out | apply below_alloc | apply pw_below_drewN | apply below_drew1 | refine below_set ?_ GE145.out | refine below_set ?_ GE148.out | refine below_set ?_ GE153.out) | exact HB.out)) hb); clear BK145; clear BK148; clear BK153; clear HB; have BK145 := n0_; have BK148 := n1_; have BK153 := n2_; have HB := n3_; clear n0_ n1_ n2_ n3_; (try clear hb); (try clear hb2); (try clear hk); (try clear hi); have hcz128_0 : w127.cell? ⟨gb148, 0, none⟩ = some (.int .i64 x149000_3) := (blk_cell BK148.out 0).trans rfl; have hcz128_1 : w127.cell? ⟨gb148, 1, none⟩ = some (.int .i64 x149001_3) := (blk_cell BK148.out 1).trans rfl; have hfz128_0 := blk_frozen BK148.out 0; have hfz128_1 := blk_frozen BK148.out 1))
              repeat (go_quiet (first | (go_at_call 23; (with_reducible refine (health_Step.calls kj92 a0_0 a0_1 a0_2 x149000_3 x149001_3 true x12_92 t158 t159 _ (by first | exact A120.out | (have h_ := A120.out; exact h_))).mono ?_); rintro e w127 ⟨rfl, hb⟩; have n0_ := Aside0.mk (blk_below (g := gb145) (o := .cells #[.int .i64 a0_0, .int .i64 a0_1, .int .u64 a0_2] 24 (0, 0)) (by (with_reducible repeat (first | refine blk_drewN ?_ _ | refine blk_drew ?_ | refine blk_alloc ?_ _)); exact BK145.out) hb); have n1_ := Aside0.mk (blk_below (g := gb148) (o := .cells #[.int .i64 x149000_3, .int .i64 x149001_3] 26 (0, 0)) (by (with_reducible repeat (first | refine blk_drewN ?_ _ | refine blk_drew ?_ | refine blk_alloc ?_ _)); exact BK148.out) hb); have n2_ := Aside0.mk (blk_below (g := gb153) (o := .cells #[.int .i64 x149000_2, .int .i64 x149001_2] 26 (0, 0)) (by (with_reducible repeat (first | refine blk_drewN ?_ _ | refine blk_drew ?_ | refine blk_alloc ?_ _)); exact BK153.out) hb); have n3_ := Aside0.mk (below_step (by repeat (first | (with_reducible first | exact HB.out | apply below_alloc | apply pw_below_drewN | apply below_drew1 | refine below_set ?_ GE145.out | refine below_set ?_ GE148.out | refine below_set ?_ GE153.out) | exact HB.out)) hb); clear BK145; clear BK148; clear BK153; clear HB; have BK145 := n0_; have BK148 := n1_; have BK153 := n2_; have HB := n3_; clear n0_ n1_ n2_ n3_; (try clear hb); (try clear hb2); (try clear hk); (try clear hi); have hcz128_0 : w127.cell? ⟨gb148, 0, none⟩ = some (.int .i64 x149000_3) := (blk_cell BK148.out 0).trans rfl; have hcz128_1 : w127.cell? ⟨gb148, 1, none⟩ = some (.int .i64 x149001_3) := (blk_cell BK148.out 1).trans rfl; have hfz128_0 := blk_frozen BK148.out 0; have hfz128_1 := blk_frozen BK148.out 1)); try go_wp2_with (first | (go_at_call 23; (with_reducible refine (health_Step.calls kj92 a0_0 a0_1 a0_2 x149000_3 x149001_3 true x12_92 t158 t159 _ (by first | exact A120.out | (have h_ := A120.out; exact h_))).mono ?_); rintro e w127 ⟨rfl, hb⟩; have n0_ := Aside0.mk (blk_below (g := gb145) (o := .cells #[.int .i64 a0_0, .int .i64 a0_1, .int .u64 a0_2] 24 (0, 0)) (by (with_reducible repeat (first | refine blk_drewN ?_ _ | refine blk_drew ?_ | refine blk_alloc ?_ _)); exact BK145.out) hb); have n1_ := Aside0.mk (blk_below (g := gb148) (o := .cells #[.int .i64 x149000_3, .int .i64 x149001_3] 26 (0, 0)) (by (with_reducible repeat (first | refine blk_drewN ?_ _ | refine blk_drew ?_ | refine blk_alloc ?_ _)); exact BK148.out) hb); have n2_ := Aside0.mk (blk_below (g := gb153) (o := .cells #[.int .i64 x149000_2, .int .i64 x149001_2] 26 (0, 0)) (by (with_reducible repeat (first | refine blk_drewN ?_ _ | refine blk_drew ?_ | refine blk_alloc ?_ _)); exact BK153.out) hb); have n3_ := Aside0.mk (below_step (by repeat (first | (with_reducible first | exact HB.out | apply below_alloc | apply pw_below_drewN | apply below_drew1 | refine below_set ?_ GE145.out | refine below_set ?_ GE148.out | refine below_set ?_ GE153.out) | exact HB.out)) hb); clear BK145; clear BK148; clear BK153; clear HB; have BK145 := n0_; have BK148 := n1_; have BK153 := n2_; have HB := n3_; clear n0_ n1_ n2_ n3_; (try clear hb); (try clear hb2); (try clear hk); (try clear hi); have hcz128_0 : w127.cell? ⟨gb148, 0, none⟩ = some (.int .i64 x149000_3) := (blk_cell BK148.out 0).trans rfl; have hcz128_1 : w127.cell? ⟨gb148, 1, none⟩ = some (.int .i64 x149001_3) := (blk_cell BK148.out 1).trans rfl; have hfz128_0 := blk_frozen BK148.out 0; have hfz128_1 := blk_frozen BK148.out 1)))
              go_roundg kj92
              case measure => have := HJ4.out; have := HK2.out; have := HK3.out; have := HJ92.out; omega
              case rel => exact ⟨(wrap64 (x76_3 + 1)), (t158), (t159), (by first | rfl | (simp; done) | (simp [*]; done)), H', ⟨by have := HJ4.out; have := HK2.out; have := HK3.out; have := HJ92.out; omega⟩, ⟨by (with_reducible repeat (first | refine blk_drewN ?_ _ | refine blk_drew ?_ | refine blk_alloc ?_ _)); refine blk_far ?_ NB145_148.out _; (with_reducible repeat (first | refine blk_drewN ?_ _ | refine blk_drew ?_ | refine blk_alloc ?_ _)); refine blk_far ?_ NB145_148.out _; (with_reducible repeat (first | refine blk_drewN ?_ _ | refine blk_drew ?_ | refine blk_alloc ?_ _)); exact BK145.out⟩, ⟨by (with_reducible repeat (first | refine blk_drewN ?_ _ | refine blk_drew ?_ | refine blk_alloc ?_ _)); refine blk_put (cs := #[.int .i64 t158, .int .i64 x149001_3]) ?_ 1 _ rfl; (with_reducible repeat (first | refine blk_drewN ?_ _ | refine blk_drew ?_ | refine blk_alloc ?_ _)); refine blk_put (cs := #[.int .i64 x149000_3, .int .i64 x149001_3]) ?_ 0 _ rfl; (with_reducible repeat (first | refine blk_drewN ?_ _ | refine blk_drew ?_ | refine blk_alloc ?_ _)); exact BK148.out⟩, ⟨by (with_reducible repeat (first | refine blk_drewN ?_ _ | refine blk_drew ?_ | refine blk_alloc ?_ _)); refine blk_far ?_ NB153_148.out _; (with_reducible repeat (first | refine blk_drewN ?_ _ | refine blk_drew ?_ | refine blk_alloc ?_ _)); refine blk_far ?_ NB153_148.out _; (with_reducible repeat (first | refine blk_drewN ?_ _ | refine blk_drew ?_ | refine blk_alloc ?_ _)); exact BK153.out⟩, ⟨by repeat (first | (with_reducible first | exact HB.out | apply below_alloc | apply pw_below_drewN | apply below_drew1 | refine below_set ?_ GE145.out | refine below_set ?_ GE148.out | refine below_set ?_ GE153.out) | exact HB.out)⟩⟩
          ·rw [if_neg c92] at H
           have c92b0 : decide (x76_3 < a0_1) = false := decide_eq_false c92
           clear c92
           replace H := Option.bind_eq_some_iff.mp H
           obtain ⟨t160, A1290, H⟩ := H
           replace H : (if t160 = true then (signalmanlaw12_HealthPasses.l2 k3 a0_0 0 a0_0 a0_1 a0_2 x149000_3 x149001_3) else (some false)) = some r := H
           have A129 := Aside0.mk A1290
           clear A1290
           by_cases c130 : t160 = true
           ·subst c130
            have H1 : (signalmanlaw12_HealthPasses.l2 k3 a0_0 0 a0_0 a0_1 a0_2 x149000_3 x149001_3) = some r := by rw [if_pos rfl] at H; exact H
            clear H
            have H := H1
            clear H1
            have H' := Aside0.mk H
            clear H
            have hnb131 := NB148_145.out
            have hnc131 := NB145_148.out
            have hnb132 := NB148_153.out
            have hnc132 := NB153_148.out
            have hcz133_0 : wr.cell? ⟨gb148, 0, none⟩ = some (.int .i64 x149000_3) := (blk_cell BK148.out 0).trans rfl
            have hcz133_1 : wr.cell? ⟨gb148, 1, none⟩ = some (.int .i64 x149001_3) := (blk_cell BK148.out 1).trans rfl
            have hfz133_0 := blk_frozen BK148.out 0
            have hfz133_1 := blk_frozen BK148.out 1
            go_wp2_with (first | (go_at_call 18; (with_reducible refine (health_Serves.calls x149000_3 x149001_3 true _ A129.out).mono ?_); rintro e w134 ⟨rfl, hb⟩; have n0_ := Aside0.mk (blk_below (g := gb145) (o := .cells #[.int .i64 a0_0, .int .i64 a0_1, .int .u64 a0_2] 24 (0, 0)) (by (with_reducible repeat (first | refine blk_drewN ?_ _ | refine blk_drew ?_ | refine blk_alloc ?_ _)); exact BK145.out) hb); have n1_ := Aside0.mk (blk_below (g := gb148) (o := .cells #[.int .i64 x149000_3, .int .i64 x149001_3] 26 (0, 0)) (by (with_reducible repeat (first | refine blk_drewN ?_ _ | refine blk_drew ?_ | refine blk_alloc ?_ _)); exact BK148.out) hb); have n2_ := Aside0.mk (blk_below (g := gb153) (o := .cells #[.int .i64 x149000_2, .int .i64 x149001_2] 26 (0, 0)) (by (with_reducible repeat (first | refine blk_drewN ?_ _ | refine blk_drew ?_ | refine blk_alloc ?_ _)); exact BK153.out) hb); have n3_ := Aside0.mk (below_step (by repeat (first | (with_reducible first | exact HB.out | apply below_alloc | apply pw_below_drewN | apply below_drew1 | refine below_set ?_ GE145.out | refine below_set ?_ GE148.out | refine below_set ?_ GE153.out) | exact HB.out)) hb); clear BK145; clear BK148; clear BK153; clear HB; have BK145 := n0_; have BK148 := n1_; have BK153 := n2_; have HB := n3_; clear n0_ n1_ n2_ n3_; (try clear hb); (try clear hb2); (try clear hk); (try clear hi); have hnb135 := NB145_153.out; have hnc135 := NB153_145.out; have hcz136_0 : w134.cell? ⟨gb145, 0, none⟩ = some (.int .i64 a0_0) := (blk_cell BK145.out 0).trans rfl; have hcz136_1 : w134.cell? ⟨gb145, 1, none⟩ = some (.int .i64 a0_1) := (blk_cell BK145.out 1).trans rfl; have hcz136_2 : w134.cell? ⟨gb145, 2, none⟩ = some (.int .u64 a0_2) := (blk_cell BK145.out 2).trans rfl; have hfz136_0 := blk_frozen BK145.out 0; have hfz136_1 := blk_frozen BK145.out 1; have hfz136_2 := blk_frozen BK145.out 2))
            repeat (go_quiet (first | (go_at_call 18; (with_reducible refine (health_Serves.calls x149000_3 x149001_3 true _ A129.out).mono ?_); rintro e w134 ⟨rfl, hb⟩; have n0_ := Aside0.mk (blk_below (g := gb145) (o := .cells #[.int .i64 a0_0, .int .i64 a0_1, .int .u64 a0_2] 24 (0, 0)) (by (with_reducible repeat (first | refine blk_drewN ?_ _ | refine blk_drew ?_ | refine blk_alloc ?_ _)); exact BK145.out) hb); have n1_ := Aside0.mk (blk_below (g := gb148) (o := .cells #[.int .i64 x149000_3, .int .i64 x149001_3] 26 (0, 0)) (by (with_reducible repeat (first | refine blk_drewN ?_ _ | refine blk_drew ?_ | refine blk_alloc ?_ _)); exact BK148.out) hb); have n2_ := Aside0.mk (blk_below (g := gb153) (o := .cells #[.int .i64 x149000_2, .int .i64 x149001_2] 26 (0, 0)) (by (with_reducible repeat (first | refine blk_drewN ?_ _ | refine blk_drew ?_ | refine blk_alloc ?_ _)); exact BK153.out) hb); have n3_ := Aside0.mk (below_step (by repeat (first | (with_reducible first | exact HB.out | apply below_alloc | apply pw_below_drewN | apply below_drew1 | refine below_set ?_ GE145.out | refine below_set ?_ GE148.out | refine below_set ?_ GE153.out) | exact HB.out)) hb); clear BK145; clear BK148; clear BK153; clear HB; have BK145 := n0_; have BK148 := n1_; have BK153 := n2_; have HB := n3_; clear n0_ n1_ n2_ n3_; (try clear hb); (try clear hb2); (try clear hk); (try clear hi); have hnb135 := NB145_153.out; have hnc135 := NB153_145.out; have hcz136_0 : w134.cell? ⟨gb145, 0, none⟩ = some (.int .i64 a0_0) := (blk_cell BK145.out 0).trans rfl; have hcz136_1 : w134.cell? ⟨gb145, 1, none⟩ = some (.int .i64 a0_1) := (blk_cell BK145.out 1).trans rfl; have hcz136_2 : w134.cell? ⟨gb145, 2, none⟩ = some (.int .u64 a0_2) := (blk_cell BK145.out 2).trans rfl; have hfz136_0 := blk_frozen BK145.out 0; have hfz136_1 := blk_frozen BK145.out 1; have hfz136_2 := blk_frozen BK145.out 2)); try go_wp2_with (first | (go_at_call 18; (with_reducible refine (health_Serves.calls x149000_3 x149001_3 true _ A129.out).mono ?_); rintro e w134 ⟨rfl, hb⟩; have n0_ := Aside0.mk (blk_below (g := gb145) (o := .cells #[.int .i64 a0_0, .int .i64 a0_1, .int .u64 a0_2] 24 (0, 0)) (by (with_reducible repeat (first | refine blk_drewN ?_ _ | refine blk_drew ?_ | refine blk_alloc ?_ _)); exact BK145.out) hb); have n1_ := Aside0.mk (blk_below (g := gb148) (o := .cells #[.int .i64 x149000_3, .int .i64 x149001_3] 26 (0, 0)) (by (with_reducible repeat (first | refine blk_drewN ?_ _ | refine blk_drew ?_ | refine blk_alloc ?_ _)); exact BK148.out) hb); have n2_ := Aside0.mk (blk_below (g := gb153) (o := .cells #[.int .i64 x149000_2, .int .i64 x149001_2] 26 (0, 0)) (by (with_reducible repeat (first | refine blk_drewN ?_ _ | refine blk_drew ?_ | refine blk_alloc ?_ _)); exact BK153.out) hb); have n3_ := Aside0.mk (below_step (by repeat (first | (with_reducible first | exact HB.out | apply below_alloc | apply pw_below_drewN | apply below_drew1 | refine below_set ?_ GE145.out | refine below_set ?_ GE148.out | refine below_set ?_ GE153.out) | exact HB.out)) hb); clear BK145; clear BK148; clear BK153; clear HB; have BK145 := n0_; have BK148 := n1_; have BK153 := n2_; have HB := n3_; clear n0_ n1_ n2_ n3_; (try clear hb); (try clear hb2); (try clear hk); (try clear hi); have hnb135 := NB145_153.out; have hnc135 := NB153_145.out; have hcz136_0 : w134.cell? ⟨gb145, 0, none⟩ = some (.int .i64 a0_0) := (blk_cell BK145.out 0).trans rfl; have hcz136_1 : w134.cell? ⟨gb145, 1, none⟩ = some (.int .i64 a0_1) := (blk_cell BK145.out 1).trans rfl; have hcz136_2 : w134.cell? ⟨gb145, 2, none⟩ = some (.int .u64 a0_2) := (blk_cell BK145.out 2).trans rfl; have hfz136_0 := blk_frozen BK145.out 0; have hfz136_1 := blk_frozen BK145.out 1; have hfz136_2 := blk_frozen BK145.out 2)))
            go_loopg [108] k3 (fun kq v108 w' => ∃ (x108_4 : Int) (x149000_4 : Int) (x149001_4 : Int), v108 = .int .i64 x108_4 ∧ Aside0 (signalmanlaw12_HealthPasses.l2 kq a0_0 x108_4 a0_0 a0_1 a0_2 x149000_4 x149001_4 = some r) ∧ Aside0 (kq ≤ k3) ∧ Aside0 (w'.heap[gb145]? = some (.cells #[.int .i64 a0_0, .int .i64 a0_1, .int .u64 a0_2] 24 (0, 0))) ∧ Aside0 (w'.heap[gb148]? = some (.cells #[.int .i64 x149000_4, .int .i64 x149001_4] 26 (0, 0))) ∧ Aside0 (w'.heap[gb153]? = some (.cells #[.int .i64 x149000_2, .int .i64 x149001_2] 26 (0, 0))) ∧ Aside0 (Below w.heap.size w w'))
            case atStart => exact ⟨(0), (x149000_3), (x149001_3), (by first | rfl | (simp; done) | (simp [*]; done)), H', ⟨Nat.le_refl _⟩, ⟨by (with_reducible repeat (first | refine blk_drewN ?_ _ | refine blk_drew ?_ | refine blk_alloc ?_ _)); exact BK145.out⟩, ⟨by (with_reducible repeat (first | refine blk_drewN ?_ _ | refine blk_drew ?_ | refine blk_alloc ?_ _)); exact BK148.out⟩, ⟨by (with_reducible repeat (first | refine blk_drewN ?_ _ | refine blk_drew ?_ | refine blk_alloc ?_ _)); exact BK153.out⟩, ⟨by repeat (first | (with_reducible first | exact HB.out | apply below_alloc | apply pw_below_drewN | apply below_drew1 | refine below_set ?_ GE145.out | refine below_set ?_ GE148.out | refine below_set ?_ GE153.out) | exact HB.out)⟩⟩
            case round =>
             clear H'
             try clear c1
             try clear p1
             try clear q1
             try clear hx1
             try clear c2
             try clear p2
             try clear c3
             try clear c4
             try clear c5
             try clear c6
             try clear p6
             try clear c7
             try clear c8
             try clear c9
             try clear c10
             try clear c10b0
             try clear c10b1
             try clear c11
             try clear c12
             try clear c13
             try clear c13b0
             try clear c13b1
             try clear p14
             try clear q14
             try clear hx14
             try clear p15
             try clear q15
             try clear hx15
             try clear c16
             try clear c16b0
             try clear c25
             try clear c27
             try clear c29
             try clear c29b0
             try clear c30
             try clear c30b0
             try clear c31
             try clear c31b0
             try clear c33
             try clear c33b0
             try clear c35
             try clear c36
             try clear c38
             try clear c43
             try clear c43b0
             try clear c45
             try clear c46
             try clear c48
             try clear c53
             try clear c53b0
             try clear c55
             try clear c56
             try clear c58
             try clear c64
             try clear c64b0
             try clear p64
             try clear c66
             try clear c67
             try clear c69
             try clear c76
             try clear c77
             try clear c79
             try clear c85
             try clear c88
             try clear c89
             try clear c92
             try clear c92b0
             try clear c94
             try clear c94b0
             try clear c95
             try clear c95b0
             try clear c97
             try clear c98
             try clear c100
             try clear c100b0
             try clear c100b1
             try clear c102
             try clear c103
             try clear c104
             try clear c106
             try clear c110
             try clear c111
             try clear c113
             try clear c121
             try clear c122
             try clear c124
             try clear c130
             try clear c131
             try clear c132
             try clear c135
             try clear hcz105_0
             try clear hcz105_1
             try clear hcz107_0
             try clear hcz107_1
             try clear hcz112_0
             try clear hcz112_1
             try clear hcz114_0
             try clear hcz114_1
             try clear hcz116_0
             try clear hcz116_1
             try clear hcz116_2
             try clear hcz117_0
             try clear hcz117_1
             try clear hcz119_0
             try clear hcz119_1
             try clear hcz11_0
             try clear hcz11_1
             try clear hcz11_2
             try clear hcz123_0
             try clear hcz123_1
             try clear hcz125_0
             try clear hcz125_1
             try clear hcz125_2
             try clear hcz126_0
             try clear hcz126_1
             try clear hcz128_0
             try clear hcz128_1
             try clear hcz133_0
             try clear hcz133_1
             try clear hcz136_0
             try clear hcz136_1
             try clear hcz136_2
             try clear hcz14_0
             try clear hcz14_1
             try clear hcz14_2
             try clear hcz17_0
             try clear hcz17_1
             try clear hcz17_2
             try clear hcz19_0
             try clear hcz19_1
             try clear hcz19_2
             try clear hcz20_0
             try clear hcz20_1
             try clear hcz20_2
             try clear hcz22_0
             try clear hcz22_1
             try clear hcz22_2
             try clear hcz23_0
             try clear hcz23_1
             try clear hcz23_2
             try clear hcz28_0
             try clear hcz28_1
             try clear hcz37_0
             try clear hcz37_1
             try clear hcz39_0
             try clear hcz39_1
             try clear hcz39_2
             try clear hcz40_0
             try clear hcz40_1
             try clear hcz42_0
             try clear hcz42_1
             try clear hcz47_0
             try clear hcz47_1
             try clear hcz49_0
             try clear hcz49_1
             try clear hcz49_2
             try clear hcz50_0
             try clear hcz50_1
             try clear hcz52_0
             try clear hcz52_1
             try clear hcz57_0
             try clear hcz57_1
             try clear hcz59_0
             try clear hcz59_1
             try clear hcz59_2
             try clear hcz60_0
             try clear hcz60_1
             try clear hcz62_0
             try clear hcz62_1
             try clear hcz68_0
             try clear hcz68_1
             try clear hcz70_0
             try clear hcz70_1
             try clear hcz70_2
             try clear hcz71_0
             try clear hcz71_1
             try clear hcz73_0
             try clear hcz73_1
             try clear hcz74_0
             try clear hcz74_1
             try clear hcz74_2
             try clear hcz78_0
             try clear hcz78_1
             try clear hcz80_0
             try clear hcz80_1
             try clear hcz80_2
             try clear hcz81_0
             try clear hcz81_1
             try clear hcz83_0
             try clear hcz83_1
             try clear hcz84_0
             try clear hcz84_1
             try clear hcz84_2
             try clear hcz86_0
             try clear hcz86_1
             try clear hcz90_0
             try clear hcz90_1
             try clear hcz91_0
             try clear hcz91_1
             try clear hcz91_2
             try clear hcz99_0
             try clear hcz99_1
             try clear hcz99_2
             try clear hfz105_0
             try clear hfz105_1
             try clear hfz107_0
             try clear hfz107_1
             try clear hfz112_0
             try clear hfz112_1
             try clear hfz114_0
             try clear hfz114_1
             try clear hfz116_0
             try clear hfz116_1
             try clear hfz116_2
             try clear hfz117_0
             try clear hfz117_1
             try clear hfz119_0
             try clear hfz119_1
             try clear hfz11_0
             try clear hfz11_1
             try clear hfz11_2
             try clear hfz123_0
             try clear hfz123_1
             try clear hfz125_0
             try clear hfz125_1
             try clear hfz125_2
             try clear hfz126_0
             try clear hfz126_1
             try clear hfz128_0
             try clear hfz128_1
             try clear hfz133_0
             try clear hfz133_1
             try clear hfz136_0
             try clear hfz136_1
             try clear hfz136_2
             try clear hfz14_0
             try clear hfz14_1
             try clear hfz14_2
             try clear hfz17_0
             try clear hfz17_1
             try clear hfz17_2
             try clear hfz19_0
             try clear hfz19_1
             try clear hfz19_2
             try clear hfz20_0
             try clear hfz20_1
             try clear hfz20_2
             try clear hfz22_0
             try clear hfz22_1
             try clear hfz22_2
             try clear hfz23_0
             try clear hfz23_1
             try clear hfz23_2
             try clear hfz28_0
             try clear hfz28_1
             try clear hfz37_0
             try clear hfz37_1
             try clear hfz39_0
             try clear hfz39_1
             try clear hfz39_2
             try clear hfz40_0
             try clear hfz40_1
             try clear hfz42_0
             try clear hfz42_1
             try clear hfz47_0
             try clear hfz47_1
             try clear hfz49_0
             try clear hfz49_1
             try clear hfz49_2
             try clear hfz50_0
             try clear hfz50_1
             try clear hfz52_0
             try clear hfz52_1
             try clear hfz57_0
             try clear hfz57_1
             try clear hfz59_0
             try clear hfz59_1
             try clear hfz59_2
             try clear hfz60_0
             try clear hfz60_1
             try clear hfz62_0
             try clear hfz62_1
             try clear hfz68_0
             try clear hfz68_1
             try clear hfz70_0
             try clear hfz70_1
             try clear hfz70_2
             try clear hfz71_0
             try clear hfz71_1
             try clear hfz73_0
             try clear hfz73_1
             try clear hfz74_0
             try clear hfz74_1
             try clear hfz74_2
             try clear hfz78_0
             try clear hfz78_1
             try clear hfz80_0
             try clear hfz80_1
             try clear hfz80_2
             try clear hfz81_0
             try clear hfz81_1
             try clear hfz83_0
             try clear hfz83_1
             try clear hfz84_0
             try clear hfz84_1
             try clear hfz84_2
             try clear hfz86_0
             try clear hfz86_1
             try clear hfz90_0
             try clear hfz90_1
             try clear hfz91_0
             try clear hfz91_1
             try clear hfz91_2
             try clear hfz99_0
             try clear hfz99_1
             try clear hfz99_2
             try clear hx149_0
             try clear hx149_1
             try clear hx154_0
             try clear p1
             try clear p14
             try clear p149
             try clear p15
             try clear p154
             try clear p2
             try clear p6
             try clear p64
             try clear q1
             try clear q14
             try clear q149
             try clear q15
             try clear q154
             obtain ⟨x108_4, x149000_4, x149001_4, rfl, HA, HK4, BK145, BK148, BK153, HB⟩ := hrel
             cases gk with
             | zero => exact absurd HA.out (by simp [signalmanlaw12_HealthPasses.l2])
             | succ k4 =>
              have H := HA.out
              clear HA
              simp only [signalmanlaw12_HealthPasses.l2] at H
              by_cases c137 : x108_4 < a0_0
              ·rw [if_pos c137] at H
               have c137b0 : decide (x108_4 < a0_0) = true := decide_eq_true c137
               clear c137
               replace H := Option.bind_eq_some_iff.mp H
               obtain ⟨t161, A1380, H⟩ := H
               replace H : (if t161 = true then ((health_Step.f k4 a0_0 a0_1 a0_2 x149000_4 x149001_4 false 0).bind fun bt162 => (signalmanlaw12_HealthPasses.l2 k4 a0_0 (wrap64 (x108_4 + 1)) a0_0 a0_1 a0_2 bt162.1 bt162.2)) else (some false)) = some r := H
               have A138 := Aside0.mk A1380
               clear A1380
               by_cases c139 : t161 = true
               ·subst c139
                have H1 : ((health_Step.f k4 a0_0 a0_1 a0_2 x149000_4 x149001_4 false 0).bind fun bt162 => (signalmanlaw12_HealthPasses.l2 k4 a0_0 (wrap64 (x108_4 + 1)) a0_0 a0_1 a0_2 bt162.1 bt162.2)) = some r := by rw [if_pos rfl] at H; exact H
                clear H
                have H := H1
                clear H1
                replace H := Option.bind_eq_some_iff.mp H
                obtain ⟨⟨t162, t163⟩, A1400, H⟩ := H
                replace H : (signalmanlaw12_HealthPasses.l2 k4 a0_0 (wrap64 (x108_4 + 1)) a0_0 a0_1 a0_2 t162 t163) = some r := H
                have A140 := Aside0.mk A1400
                clear A1400
                have H' := Aside0.mk H
                clear H
                have hnb141 := NB148_145.out
                have hnc141 := NB145_148.out
                have hnb142 := NB148_153.out
                have hnc142 := NB153_148.out
                have hcz143_0 : wr.cell? ⟨gb148, 0, none⟩ = some (.int .i64 x149000_4) := (blk_cell BK148.out 0).trans rfl
                have hcz143_1 : wr.cell? ⟨gb148, 1, none⟩ = some (.int .i64 x149001_4) := (blk_cell BK148.out 1).trans rfl
                have hfz143_0 := blk_frozen BK148.out 0
                have hfz143_1 := blk_frozen BK148.out 1
                go_wp2_with (first | (go_at_call 18; (with_reducible refine (health_Serves.calls x149000_4 x149001_4 true _ A138.out).mono ?_); rintro e w144 ⟨rfl, hb⟩; have n0_ := Aside0.mk (blk_below (g := gb145) (o := .cells #[.int .i64 a0_0, .int .i64 a0_1, .int .u64 a0_2] 24 (0, 0)) (by (with_reducible repeat (first | refine blk_drewN ?_ _ | refine blk_drew ?_ | refine blk_alloc ?_ _)); exact BK145.out) hb); have n1_ := Aside0.mk (blk_below (g := gb148) (o := .cells #[.int .i64 x149000_4, .int .i64 x149001_4] 26 (0, 0)) (by (with_reducible repeat (first | refine blk_drewN ?_ _ | refine blk_drew ?_ | refine blk_alloc ?_ _)); exact BK148.out) hb); have n2_ := Aside0.mk (blk_below (g := gb153) (o := .cells #[.int .i64 x149000_2, .int .i64 x149001_2] 26 (0, 0)) (by (with_reducible repeat (first | refine blk_drewN ?_ _ | refine blk_drew ?_ | refine blk_alloc ?_ _)); exact BK153.out) hb); have n3_ := Aside0.mk (below_step (by repeat (first | (with_reducible first | exact HB.out | apply below_alloc | apply pw_below_drewN | apply below_drew1 | refine below_set ?_ GE145.out | refine below_set ?_ GE148.out | refine below_set ?_ GE153.out) | exact HB.out)) hb); clear BK145; clear BK148; clear BK153; clear HB; have BK145 := n0_; have BK148 := n1_; have BK153 := n2_; have HB := n3_; clear n0_ n1_ n2_ n3_; (try clear hb); (try clear hb2); (try clear hk); (try clear hi); have hnb145 := NB145_153.out; have hnc145 := NB153_145.out; have hcz146_0 : w144.cell? ⟨gb145, 0, none⟩ = some (.int .i64 a0_0) := (blk_cell BK145.out 0).trans rfl; have hcz146_1 : w144.cell? ⟨gb145, 1, none⟩ = some (.int .i64 a0_1) := (blk_cell BK145.out 1).trans rfl; have hcz146_2 : w144.cell? ⟨gb145, 2, none⟩ = some (.int .u64 a0_2) := (blk_cell BK145.out 2).trans rfl; have hfz146_0 := blk_frozen BK145.out 0; have hfz146_1 := blk_frozen BK145.out 1; have hfz146_2 := blk_frozen BK145.out 2; have hcz147_0 : w144.cell? ⟨gb148, 0, none⟩ = some (.int .i64 x149000_4) := (blk_cell BK148.out 0).trans rfl; have hcz147_1 : w144.cell? ⟨gb148, 1, none⟩ = some (.int .i64 x149001_4) := (blk_cell BK148.out 1).trans rfl; have hfz147_0 := blk_frozen BK148.out 0; have hfz147_1 := blk_frozen BK148.out 1) | (go_at_call 23; (with_reducible refine (health_Step.calls k4 a0_0 a0_1 a0_2 x149000_4 x149001_4 false 0 t162 t163 _ (by first | exact A140.out | (have h_ := A140.out; exact h_))).mono ?_); rintro e w148 ⟨rfl, hb⟩; have n0_ := Aside0.mk (blk_below (g := gb145) (o := .cells #[.int .i64 a0_0, .int .i64 a0_1, .int .u64 a0_2] 24 (0, 0)) (by (with_reducible repeat (first | refine blk_drewN ?_ _ | refine blk_drew ?_ | refine blk_alloc ?_ _)); exact BK145.out) hb); have n1_ := Aside0.mk (blk_below (g := gb148) (o := .cells #[.int .i64 x149000_4, .int .i64 x149001_4] 26 (0, 0)) (by (with_reducible repeat (first | refine blk_drewN ?_ _ | refine blk_drew ?_ | refine blk_alloc ?_ _)); exact BK148.out) hb); have n2_ := Aside0.mk (blk_below (g := gb153) (o := .cells #[.int .i64 x149000_2, .int .i64 x149001_2] 26 (0, 0)) (by (with_reducible repeat (first | refine blk_drewN ?_ _ | refine blk_drew ?_ | refine blk_alloc ?_ _)); exact BK153.out) hb); have n3_ := Aside0.mk (below_step (by repeat (first | (with_reducible first | exact HB.out | apply below_alloc | apply pw_below_drewN | apply below_drew1 | refine below_set ?_ GE145.out | refine below_set ?_ GE148.out | refine below_set ?_ GE153.out) | exact HB.out)) hb); clear BK145; clear BK148; clear BK153; clear HB; have BK145 := n0_; have BK148 := n1_; have BK153 := n2_; have HB := n3_; clear n0_ n1_ n2_ n3_; (try clear hb); (try clear hb2); (try clear hk); (try clear hi); have hcz149_0 : w148.cell? ⟨gb148, 0, none⟩ = some (.int .i64 x149000_4) := (blk_cell BK148.out 0).trans rfl; have hcz149_1 : w148.cell? ⟨gb148, 1, none⟩ = some (.int .i64 x149001_4) := (blk_cell BK148.out 1).trans rfl; have hfz149_0 := blk_frozen BK148.out 0; have hfz149_1 := blk_frozen BK148.out 1))
                repeat (go_quiet (first | (go_at_call 18; (with_reducible refine (health_Serves.calls x149000_4 x149001_4 true _ A138.out).mono ?_); rintro e w144 ⟨rfl, hb⟩; have n0_ := Aside0.mk (blk_below (g := gb145) (o := .cells #[.int .i64 a0_0, .int .i64 a0_1, .int .u64 a0_2] 24 (0, 0)) (by (with_reducible repeat (first | refine blk_drewN ?_ _ | refine blk_drew ?_ | refine blk_alloc ?_ _)); exact BK145.out) hb); have n1_ := Aside0.mk (blk_below (g := gb148) (o := .cells #[.int .i64 x149000_4, .int .i64 x149001_4] 26 (0, 0)) (by (with_reducible repeat (first | refine blk_drewN ?_ _ | refine blk_drew ?_ | refine blk_alloc ?_ _)); exact BK148.out) hb); have n2_ := Aside0.mk (blk_below (g := gb153) (o := .cells #[.int .i64 x149000_2, .int .i64 x149001_2] 26 (0, 0)) (by (with_reducible repeat (first | refine blk_drewN ?_ _ | refine blk_drew ?_ | refine blk_alloc ?_ _)); exact BK153.out) hb); have n3_ := Aside0.mk (below_step (by repeat (first | (with_reducible first | exact HB.out | apply below_alloc | apply pw_below_drewN | apply below_drew1 | refine below_set ?_ GE145.out | refine below_set ?_ GE148.out | refine below_set ?_ GE153.out) | exact HB.out)) hb); clear BK145; clear BK148; clear BK153; clear HB; have BK145 := n0_; have BK148 := n1_; have BK153 := n2_; have HB := n3_; clear n0_ n1_ n2_ n3_; (try clear hb); (try clear hb2); (try clear hk); (try clear hi); have hnb145 := NB145_153.out; have hnc145 := NB153_145.out; have hcz146_0 : w144.cell? ⟨gb145, 0, none⟩ = some (.int .i64 a0_0) := (blk_cell BK145.out 0).trans rfl; have hcz146_1 : w144.cell? ⟨gb145, 1, none⟩ = some (.int .i64 a0_1) := (blk_cell BK145.out 1).trans rfl; have hcz146_2 : w144.cell? ⟨gb145, 2, none⟩ = some (.int .u64 a0_2) := (blk_cell BK145.out 2).trans rfl; have hfz146_0 := blk_frozen BK145.out 0; have hfz146_1 := blk_frozen BK145.out 1; have hfz146_2 := blk_frozen BK145.out 2; have hcz147_0 : w144.cell? ⟨gb148, 0, none⟩ = some (.int .i64 x149000_4) := (blk_cell BK148.out 0).trans rfl; have hcz147_1 : w144.cell? ⟨gb148, 1, none⟩ = some (.int .i64 x149001_4) := (blk_cell BK148.out 1).trans rfl; have hfz147_0 := blk_frozen BK148.out 0; have hfz147_1 := blk_frozen BK148.out 1) | (go_at_call 23; (with_reducible refine (health_Step.calls k4 a0_0 a0_1 a0_2 x149000_4 x149001_4 false 0 t162 t163 _ (by first | exact A140.out | (have h_ := A140.out; exact h_))).mono ?_); rintro e w148 ⟨rfl, hb⟩; have n0_ := Aside0.mk (blk_below (g := gb145) (o := .cells #[.int .i64 a0_0, .int .i64 a0_1, .int .u64 a0_2] 24 (0, 0)) (by (with_reducible repeat (first | refine blk_drewN ?_ _ | refine blk_drew ?_ | refine blk_alloc ?_ _)); exact BK145.out) hb); have n1_ := Aside0.mk (blk_below (g := gb148) (o := .cells #[.int .i64 x149000_4, .int .i64 x149001_4] 26 (0, 0)) (by (with_reducible repeat (first | refine blk_drewN ?_ _ | refine blk_drew ?_ | refine blk_alloc ?_ _)); exact BK148.out) hb); have n2_ := Aside0.mk (blk_below (g := gb153) (o := .cells #[.int .i64 x149000_2, .int .i64 x149001_2] 26 (0, 0)) (by (with_reducible repeat (first | refine blk_drewN ?_ _ | refine blk_drew ?_ | refine blk_alloc ?_ _)); exact BK153.out) hb); have n3_ := Aside0.mk (below_step (by repeat (first | (with_reducible first | exact HB.out | apply below_alloc | apply pw_below_drewN | apply below_drew1 | refine below_set ?_ GE145.out | refine below_set ?_ GE148.out | refine below_set ?_ GE153.out) | exact HB.out)) hb); clear BK145; clear BK148; clear BK153; clear HB; have BK145 := n0_; have BK148 := n1_; have BK153 := n2_; have HB := n3_; clear n0_ n1_ n2_ n3_; (try clear hb); (try clear hb2); (try clear hk); (try clear hi); have hcz149_0 : w148.cell? ⟨gb148, 0, none⟩ = some (.int .i64 x149000_4) := (blk_cell BK148.out 0).trans rfl; have hcz149_1 : w148.cell? ⟨gb148, 1, none⟩ = some (.int .i64 x149001_4) := (blk_cell BK148.out 1).trans rfl; have hfz149_0 := blk_frozen BK148.out 0; have hfz149_1 := blk_frozen BK148.out 1)); try go_wp2_with (first | (go_at_call 18; (with_reducible refine (health_Serves.calls x149000_4 x149001_4 true _ A138.out).mono ?_); rintro e w144 ⟨rfl, hb⟩; have n0_ := Aside0.mk (blk_below (g := gb145) (o := .cells #[.int .i64 a0_0, .int .i64 a0_1, .int .u64 a0_2] 24 (0, 0)) (by (with_reducible repeat (first | refine blk_drewN ?_ _ | refine blk_drew ?_ | refine blk_alloc ?_ _)); exact BK145.out) hb); have n1_ := Aside0.mk (blk_below (g := gb148) (o := .cells #[.int .i64 x149000_4, .int .i64 x149001_4] 26 (0, 0)) (by (with_reducible repeat (first | refine blk_drewN ?_ _ | refine blk_drew ?_ | refine blk_alloc ?_ _)); exact BK148.out) hb); have n2_ := Aside0.mk (blk_below (g := gb153) (o := .cells #[.int .i64 x149000_2, .int .i64 x149001_2] 26 (0, 0)) (by (with_reducible repeat (first | refine blk_drewN ?_ _ | refine blk_drew ?_ | refine blk_alloc ?_ _)); exact BK153.out) hb); have n3_ := Aside0.mk (below_step (by repeat (first | (with_reducible first | exact HB.out | apply below_alloc | apply pw_below_drewN | apply below_drew1 | refine below_set ?_ GE145.out | refine below_set ?_ GE148.out | refine below_set ?_ GE153.out) | exact HB.out)) hb); clear BK145; clear BK148; clear BK153; clear HB; have BK145 := n0_; have BK148 := n1_; have BK153 := n2_; have HB := n3_; clear n0_ n1_ n2_ n3_; (try clear hb); (try clear hb2); (try clear hk); (try clear hi); have hnb145 := NB145_153.out; have hnc145 := NB153_145.out; have hcz146_0 : w144.cell? ⟨gb145, 0, none⟩ = some (.int .i64 a0_0) := (blk_cell BK145.out 0).trans rfl; have hcz146_1 : w144.cell? ⟨gb145, 1, none⟩ = some (.int .i64 a0_1) := (blk_cell BK145.out 1).trans rfl; have hcz146_2 : w144.cell? ⟨gb145, 2, none⟩ = some (.int .u64 a0_2) := (blk_cell BK145.out 2).trans rfl; have hfz146_0 := blk_frozen BK145.out 0; have hfz146_1 := blk_frozen BK145.out 1; have hfz146_2 := blk_frozen BK145.out 2; have hcz147_0 : w144.cell? ⟨gb148, 0, none⟩ = some (.int .i64 x149000_4) := (blk_cell BK148.out 0).trans rfl; have hcz147_1 : w144.cell? ⟨gb148, 1, none⟩ = some (.int .i64 x149001_4) := (blk_cell BK148.out 1).trans rfl; have hfz147_0 := blk_frozen BK148.out 0; have hfz147_1 := blk_frozen BK148.out 1) | (go_at_call 23; (with_reducible refine (health_Step.calls k4 a0_0 a0_1 a0_2 x149000_4 x149001_4 false 0 t162 t163 _ (by first | exact A140.out | (have h_ := A140.out; exact h_))).mono ?_); rintro e w148 ⟨rfl, hb⟩; have n0_ := Aside0.mk (blk_below (g := gb145) (o := .cells #[.int .i64 a0_0, .int .i64 a0_1, .int .u64 a0_2] 24 (0, 0)) (by (with_reducible repeat (first | refine blk_drewN ?_ _ | refine blk_drew ?_ | refine blk_alloc ?_ _)); exact BK145.out) hb); have n1_ := Aside0.mk (blk_below (g := gb148) (o := .cells #[.int .i64 x149000_4, .int .i64 x149001_4] 26 (0, 0)) (by (with_reducible repeat (first | refine blk_drewN ?_ _ | refine blk_drew ?_ | refine blk_alloc ?_ _)); exact BK148.out) hb); have n2_ := Aside0.mk (blk_below (g := gb153) (o := .cells #[.int .i64 x149000_2, .int .i64 x149001_2] 26 (0, 0)) (by (with_reducible repeat (first | refine blk_drewN ?_ _ | refine blk_drew ?_ | refine blk_alloc ?_ _)); exact BK153.out) hb); have n3_ := Aside0.mk (below_step (by repeat (first | (with_reducible first | exact HB.out | apply below_alloc | apply pw_below_drewN | apply below_drew1 | refine below_set ?_ GE145.out | refine below_set ?_ GE148.out | refine below_set ?_ GE153.out) | exact HB.out)) hb); clear BK145; clear BK148; clear BK153; clear HB; have BK145 := n0_; have BK148 := n1_; have BK153 := n2_; have HB := n3_; clear n0_ n1_ n2_ n3_; (try clear hb); (try clear hb2); (try clear hk); (try clear hi); have hcz149_0 : w148.cell? ⟨gb148, 0, none⟩ = some (.int .i64 x149000_4) := (blk_cell BK148.out 0).trans rfl; have hcz149_1 : w148.cell? ⟨gb148, 1, none⟩ = some (.int .i64 x149001_4) := (blk_cell BK148.out 1).trans rfl; have hfz149_0 := blk_frozen BK148.out 0; have hfz149_1 := blk_frozen BK148.out 1)))
                go_roundg k4
                case measure => have := HJ4.out; have := HK2.out; have := HK3.out; have := HK4.out; omega
                case rel => exact ⟨(wrap64 (x108_4 + 1)), (t162), (t163), (by first | rfl | (simp; done) | (simp [*]; done)), H', ⟨by have := HJ4.out; have := HK2.out; have := HK3.out; have := HK4.out; omega⟩, ⟨by (with_reducible repeat (first | refine blk_drewN ?_ _ | refine blk_drew ?_ | refine blk_alloc ?_ _)); refine blk_far ?_ NB145_148.out _; (with_reducible repeat (first | refine blk_drewN ?_ _ | refine blk_drew ?_ | refine blk_alloc ?_ _)); refine blk_far ?_ NB145_148.out _; (with_reducible repeat (first | refine blk_drewN ?_ _ | refine blk_drew ?_ | refine blk_alloc ?_ _)); exact BK145.out⟩, ⟨by (with_reducible repeat (first | refine blk_drewN ?_ _ | refine blk_drew ?_ | refine blk_alloc ?_ _)); refine blk_put (cs := #[.int .i64 t162, .int .i64 x149001_4]) ?_ 1 _ rfl; (with_reducible repeat (first | refine blk_drewN ?_ _ | refine blk_drew ?_ | refine blk_alloc ?_ _)); refine blk_put (cs := #[.int .i64 x149000_4, .int .i64 x149001_4]) ?_ 0 _ rfl; (with_reducible repeat (first | refine blk_drewN ?_ _ | refine blk_drew ?_ | refine blk_alloc ?_ _)); exact BK148.out⟩, ⟨by (with_reducible repeat (first | refine blk_drewN ?_ _ | refine blk_drew ?_ | refine blk_alloc ?_ _)); refine blk_far ?_ NB153_148.out _; (with_reducible repeat (first | refine blk_drewN ?_ _ | refine blk_drew ?_ | refine blk_alloc ?_ _)); refine blk_far ?_ NB153_148.out _; (with_reducible repeat (first | refine blk_drewN ?_ _ | refine blk_drew ?_ | refine blk_alloc ?_ _)); exact BK153.out⟩, ⟨by repeat (first | (with_reducible first | exact HB.out | apply below_alloc | apply pw_below_drewN | apply below_drew1 | refine below_set ?_ GE145.out | refine below_set ?_ GE148.out | refine below_set ?_ GE153.out) | exact HB.out)⟩⟩
               ·replace c139 := Bool.eq_false_iff.mpr c139
                subst c139
                have H1 : (some false) = some r := by rw [if_neg (show ¬ (false = true) by decide)] at H; exact H
                clear H
                have H := H1
                clear H1
                obtain rfl := Option.some.inj H
                have hnb150 := NB148_145.out
                have hnc150 := NB145_148.out
                have hnb151 := NB148_153.out
                have hnc151 := NB153_148.out
                have hcz152_0 : wr.cell? ⟨gb148, 0, none⟩ = some (.int .i64 x149000_4) := (blk_cell BK148.out 0).trans rfl
                have hcz152_1 : wr.cell? ⟨gb148, 1, none⟩ = some (.int .i64 x149001_4) := (blk_cell BK148.out 1).trans rfl
                have hfz152_0 := blk_frozen BK148.out 0
                have hfz152_1 := blk_frozen BK148.out 1
                go_wp2_with (first | (go_at_call 18; (with_reducible refine (health_Serves.calls x149000_4 x149001_4 false _ A138.out).mono ?_); rintro e w153 ⟨rfl, hb⟩; have n0_ := Aside0.mk (blk_below (g := gb145) (o := .cells #[.int .i64 a0_0, .int .i64 a0_1, .int .u64 a0_2] 24 (0, 0)) (by (with_reducible repeat (first | refine blk_drewN ?_ _ | refine blk_drew ?_ | refine blk_alloc ?_ _)); exact BK145.out) hb); have n1_ := Aside0.mk (blk_below (g := gb148) (o := .cells #[.int .i64 x149000_4, .int .i64 x149001_4] 26 (0, 0)) (by (with_reducible repeat (first | refine blk_drewN ?_ _ | refine blk_drew ?_ | refine blk_alloc ?_ _)); exact BK148.out) hb); have n2_ := Aside0.mk (blk_below (g := gb153) (o := .cells #[.int .i64 x149000_2, .int .i64 x149001_2] 26 (0, 0)) (by (with_reducible repeat (first | refine blk_drewN ?_ _ | refine blk_drew ?_ | refine blk_alloc ?_ _)); exact BK153.out) hb); have n3_ := Aside0.mk (below_step (by repeat (first | (with_reducible first | exact HB.out | apply below_alloc | apply pw_below_drewN | apply below_drew1 | refine below_set ?_ GE145.out | refine below_set ?_ GE148.out | refine below_set ?_ GE153.out) | exact HB.out)) hb); clear BK145; clear BK148; clear BK153; clear HB; have BK145 := n0_; have BK148 := n1_; have BK153 := n2_; have HB := n3_; clear n0_ n1_ n2_ n3_; (try clear hb); (try clear hb2); (try clear hk); (try clear hi)))
                repeat (go_quiet (first | (go_at_call 18; (with_reducible refine (health_Serves.calls x149000_4 x149001_4 false _ A138.out).mono ?_); rintro e w153 ⟨rfl, hb⟩; have n0_ := Aside0.mk (blk_below (g := gb145) (o := .cells #[.int .i64 a0_0, .int .i64 a0_1, .int .u64 a0_2] 24 (0, 0)) (by (with_reducible repeat (first | refine blk_drewN ?_ _ | refine blk_drew ?_ | refine blk_alloc ?_ _)); exact BK145.out) hb); have n1_ := Aside0.mk (blk_below (g := gb148) (o := .cells #[.int .i64 x149000_4, .int .i64 x149001_4] 26 (0, 0)) (by (with_reducible repeat (first | refine blk_drewN ?_ _ | refine blk_drew ?_ | refine blk_alloc ?_ _)); exact BK148.out) hb); have n2_ := Aside0.mk (blk_below (g := gb153) (o := .cells #[.int .i64 x149000_2, .int .i64 x149001_2] 26 (0, 0)) (by (with_reducible repeat (first | refine blk_drewN ?_ _ | refine blk_drew ?_ | refine blk_alloc ?_ _)); exact BK153.out) hb); have n3_ := Aside0.mk (below_step (by repeat (first | (with_reducible first | exact HB.out | apply below_alloc | apply pw_below_drewN | apply below_drew1 | refine below_set ?_ GE145.out | refine below_set ?_ GE148.out | refine below_set ?_ GE153.out) | exact HB.out)) hb); clear BK145; clear BK148; clear BK153; clear HB; have BK145 := n0_; have BK148 := n1_; have BK153 := n2_; have HB := n3_; clear n0_ n1_ n2_ n3_; (try clear hb); (try clear hb2); (try clear hk); (try clear hi))); try go_wp2_with (first | (go_at_call 18; (with_reducible refine (health_Serves.calls x149000_4 x149001_4 false _ A138.out).mono ?_); rintro e w153 ⟨rfl, hb⟩; have n0_ := Aside0.mk (blk_below (g := gb145) (o := .cells #[.int .i64 a0_0, .int .i64 a0_1, .int .u64 a0_2] 24 (0, 0)) (by (with_reducible repeat (first | refine blk_drewN ?_ _ | refine blk_drew ?_ | refine blk_alloc ?_ _)); exact BK145.out) hb); have n1_ := Aside0.mk (blk_below (g := gb148) (o := .cells #[.int .i64 x149000_4, .int .i64 x149001_4] 26 (0, 0)) (by (with_reducible repeat (first | refine blk_drewN ?_ _ | refine blk_drew ?_ | refine blk_alloc ?_ _)); exact BK148.out) hb); have n2_ := Aside0.mk (blk_below (g := gb153) (o := .cells #[.int .i64 x149000_2, .int .i64 x149001_2] 26 (0, 0)) (by (with_reducible repeat (first | refine blk_drewN ?_ _ | refine blk_drew ?_ | refine blk_alloc ?_ _)); exact BK153.out) hb); have n3_ := Aside0.mk (below_step (by repeat (first | (with_reducible first | exact HB.out | apply below_alloc | apply pw_below_drewN | apply below_drew1 | refine below_set ?_ GE145.out | refine below_set ?_ GE148.out | refine below_set ?_ GE153.out) | exact HB.out)) hb); clear BK145; clear BK148; clear BK153; clear HB; have BK145 := n0_; have BK148 := n1_; have BK153 := n2_; have HB := n3_; clear n0_ n1_ n2_ n3_; (try clear hb); (try clear hb2); (try clear hk); (try clear hi))))
                go_ret
                exact ⟨by first | rfl | (simp [errW_none, errW_some] <;> rfl) | (simp [*, errW_none, errW_some] <;> rfl), by repeat (first | (with_reducible first | exact HB.out | apply below_alloc | apply pw_below_drewN | apply below_drew1 | refine below_set ?_ GE145.out | refine below_set ?_ GE148.out | refine below_set ?_ GE153.out) | exact HB.out)⟩
              ·rw [if_neg c137] at H
               have c137b0 : decide (x108_4 < a0_0) = false := decide_eq_false c137
               clear c137
               obtain rfl := Option.some.inj H
               have hnb154 := NB148_145.out
               have hnc154 := NB145_148.out
               have hnb155 := NB148_153.out
               have hnc155 := NB153_148.out
               have hcz156_0 : wr.cell? ⟨gb148, 0, none⟩ = some (.int .i64 x149000_4) := (blk_cell BK148.out 0).trans rfl
               have hcz156_1 : wr.cell? ⟨gb148, 1, none⟩ = some (.int .i64 x149001_4) := (blk_cell BK148.out 1).trans rfl
               have hfz156_0 := blk_frozen BK148.out 0
               have hfz156_1 := blk_frozen BK148.out 1
               go_wp2
               repeat (go_quiet (fail); try go_wp2)
               go_ret
               exact ⟨by first | rfl | (simp [errW_none, errW_some] <;> rfl) | (simp [*, errW_none, errW_some] <;> rfl), by repeat (first | (with_reducible first | exact HB.out | apply below_alloc | apply pw_below_drewN | apply below_drew1 | refine below_set ?_ GE145.out | refine below_set ?_ GE148.out | refine below_set ?_ GE153.out) | exact HB.out)⟩
           ·replace c130 := Bool.eq_false_iff.mpr c130
            subst c130
            have H1 : (some false) = some r := by rw [if_neg (show ¬ (false = true) by decide)] at H; exact H
            clear H
            have H := H1
            clear H1
            obtain rfl := Option.some.inj H
            have hnb157 := NB148_145.out
            have hnc157 := NB145_148.out
            have hnb158 := NB148_153.out
            have hnc158 := NB153_148.out
            have hcz159_0 : wr.cell? ⟨gb148, 0, none⟩ = some (.int .i64 x149000_3) := (blk_cell BK148.out 0).trans rfl
            have hcz159_1 : wr.cell? ⟨gb148, 1, none⟩ = some (.int .i64 x149001_3) := (blk_cell BK148.out 1).trans rfl
            have hfz159_0 := blk_frozen BK148.out 0
            have hfz159_1 := blk_frozen BK148.out 1
            go_wp2_with (first | (go_at_call 18; (with_reducible refine (health_Serves.calls x149000_3 x149001_3 false _ A129.out).mono ?_); rintro e w160 ⟨rfl, hb⟩; have n0_ := Aside0.mk (blk_below (g := gb145) (o := .cells #[.int .i64 a0_0, .int .i64 a0_1, .int .u64 a0_2] 24 (0, 0)) (by (with_reducible repeat (first | refine blk_drewN ?_ _ | refine blk_drew ?_ | refine blk_alloc ?_ _)); exact BK145.out) hb); have n1_ := Aside0.mk (blk_below (g := gb148) (o := .cells #[.int .i64 x149000_3, .int .i64 x149001_3] 26 (0, 0)) (by (with_reducible repeat (first | refine blk_drewN ?_ _ | refine blk_drew ?_ | refine blk_alloc ?_ _)); exact BK148.out) hb); have n2_ := Aside0.mk (blk_below (g := gb153) (o := .cells #[.int .i64 x149000_2, .int .i64 x149001_2] 26 (0, 0)) (by (with_reducible repeat (first | refine blk_drewN ?_ _ | refine blk_drew ?_ | refine blk_alloc ?_ _)); exact BK153.out) hb); have n3_ := Aside0.mk (below_step (by repeat (first | (with_reducible first | exact HB.out | apply below_alloc | apply pw_below_drewN | apply below_drew1 | refine below_set ?_ GE145.out | refine below_set ?_ GE148.out | refine below_set ?_ GE153.out) | exact HB.out)) hb); clear BK145; clear BK148; clear BK153; clear HB; have BK145 := n0_; have BK148 := n1_; have BK153 := n2_; have HB := n3_; clear n0_ n1_ n2_ n3_; (try clear hb); (try clear hb2); (try clear hk); (try clear hi)))
            repeat (go_quiet (first | (go_at_call 18; (with_reducible refine (health_Serves.calls x149000_3 x149001_3 false _ A129.out).mono ?_); rintro e w160 ⟨rfl, hb⟩; have n0_ := Aside0.mk (blk_below (g := gb145) (o := .cells #[.int .i64 a0_0, .int .i64 a0_1, .int .u64 a0_2] 24 (0, 0)) (by (with_reducible repeat (first | refine blk_drewN ?_ _ | refine blk_drew ?_ | refine blk_alloc ?_ _)); exact BK145.out) hb); have n1_ := Aside0.mk (blk_below (g := gb148) (o := .cells #[.int .i64 x149000_3, .int .i64 x149001_3] 26 (0, 0)) (by (with_reducible repeat (first | refine blk_drewN ?_ _ | refine blk_drew ?_ | refine blk_alloc ?_ _)); exact BK148.out) hb); have n2_ := Aside0.mk (blk_below (g := gb153) (o := .cells #[.int .i64 x149000_2, .int .i64 x149001_2] 26 (0, 0)) (by (with_reducible repeat (first | refine blk_drewN ?_ _ | refine blk_drew ?_ | refine blk_alloc ?_ _)); exact BK153.out) hb); have n3_ := Aside0.mk (below_step (by repeat (first | (with_reducible first | exact HB.out | apply below_alloc | apply pw_below_drewN | apply below_drew1 | refine below_set ?_ GE145.out | refine below_set ?_ GE148.out | refine below_set ?_ GE153.out) | exact HB.out)) hb); clear BK145; clear BK148; clear BK153; clear HB; have BK145 := n0_; have BK148 := n1_; have BK153 := n2_; have HB := n3_; clear n0_ n1_ n2_ n3_; (try clear hb); (try clear hb2); (try clear hk); (try clear hi))); try go_wp2_with (first | (go_at_call 18; (with_reducible refine (health_Serves.calls x149000_3 x149001_3 false _ A129.out).mono ?_); rintro e w160 ⟨rfl, hb⟩; have n0_ := Aside0.mk (blk_below (g := gb145) (o := .cells #[.int .i64 a0_0, .int .i64 a0_1, .int .u64 a0_2] 24 (0, 0)) (by (with_reducible repeat (first | refine blk_drewN ?_ _ | refine blk_drew ?_ | refine blk_alloc ?_ _)); exact BK145.out) hb); have n1_ := Aside0.mk (blk_below (g := gb148) (o := .cells #[.int .i64 x149000_3, .int .i64 x149001_3] 26 (0, 0)) (by (with_reducible repeat (first | refine blk_drewN ?_ _ | refine blk_drew ?_ | refine blk_alloc ?_ _)); exact BK148.out) hb); have n2_ := Aside0.mk (blk_below (g := gb153) (o := .cells #[.int .i64 x149000_2, .int .i64 x149001_2] 26 (0, 0)) (by (with_reducible repeat (first | refine blk_drewN ?_ _ | refine blk_drew ?_ | refine blk_alloc ?_ _)); exact BK153.out) hb); have n3_ := Aside0.mk (below_step (by repeat (first | (with_reducible first | exact HB.out | apply below_alloc | apply pw_below_drewN | apply below_drew1 | refine below_set ?_ GE145.out | refine below_set ?_ GE148.out | refine below_set ?_ GE153.out) | exact HB.out)) hb); clear BK145; clear BK148; clear BK153; clear HB; have BK145 := n0_; have BK148 := n1_; have BK153 := n2_; have HB := n3_; clear n0_ n1_ n2_ n3_; (try clear hb); (try clear hb2); (try clear hk); (try clear hi))))
            go_ret
            exact ⟨by first | rfl | (simp [errW_none, errW_some] <;> rfl) | (simp [*, errW_none, errW_some] <;> rfl), by repeat (first | (with_reducible first | exact HB.out | apply below_alloc | apply pw_below_drewN | apply below_drew1 | refine below_set ?_ GE145.out | refine below_set ?_ GE148.out | refine below_set ?_ GE153.out) | exact HB.out)⟩

end Go.Proofs.Ytagmefjpnmjcjaa.He
