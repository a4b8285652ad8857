-- By a program of this session (wip/pp: a turned copy of the kit's print) out of the translation; Lean checks it.
import Derived.Test.YtagmefjpnmjcjabNux0
import Derived.Test.YtagmefjpnmjcjabNux2
import Derived.Test.YtagmefjpnmjcjabNux3
import Derived.Test.YtagmefjpnmjcjabNux6
namespace Go.Proofs.Ytagmefjpnmjcjab.Nu
open Go.RowKit Go.Proofs.YtagmefjpnmjcjabW.PrintWords Go.Proofs.YtagmefjpnmjcjabW.PrintLast Go.Proofs.YtagmefjpnmjcjabW.PrintMore
attribute [local go_sem] max2_int min2_int max_two min_two max_three min_three max_four min_four   -- for this text's walks alone
set_option linter.unusedVariables false
set_option linter.unusedSimpArgs false

/-! ### signalmanlaw01_NumRises: function 5 -/
def signalmanlaw01_NumRises.j0 : Nat → Int → Int → Int → List Int → List Int → Bool → Option (Bool)
  | 0, _, _, _, _, _, _ => none
  | k + 1, x0, x1, x2, x7, x9, x30 => if x30 = true then (if x0 < 1 then (some true) else (if x0 > 8 then (some true) else (if x0 < 8 then (if 0 ≤ (wrap64 (8 * (mx x0 1))) then (some (decide ((mx x1 x2) ≥ (shl .u64 1 (wrap64 (8 * (mx x0 1))))))) else (none)) else (some false)))) else ((signalmanref01_Less.f k x7 x9).bind fun t312 => (if ((decide (x1 < x2)) == t312) = true then ((signalmanref01_Same.f k x7 x9).bind fun t313 => (some ((x1 == x2) == t313))) else (some false)))
def signalmanlaw01_NumRises.f (k : Nat) (a0 : Int) (a1 : Int) (a2 : Int) : Option (Bool) := (signalmanlaw01_awake.f k).bind fun t303 => (if t303 = true then ((num_Put.f k ([] : List Int) a0 a1).bind fun bt304 => ((num_Put.f k ([] : List Int) a0 a2).bind fun bt308 => (if bt304.2 = 0 then (signalmanlaw01_NumRises.j0 k a0 a1 a2 bt304.1 bt308.1 (bt308.2 != 0)) else (signalmanlaw01_NumRises.j0 k a0 a1 a2 bt304.1 bt308.1 true)))) else (some false))
theorem signalmanlaw01_NumRises.mono_l : ∀ k, (∀ y0 y1 y2 y3 y4 y5, LeO (signalmanlaw01_NumRises.j0 k y0 y1 y2 y3 y4 y5) (signalmanlaw01_NumRises.j0 (k + 1) y0 y1 y2 y3 y4 y5))
  | 0 => fun _ _ _ _ _ _ r h => by simp [signalmanlaw01_NumRises.j0] at h
  | k + 1 => by
    have ih0 := signalmanlaw01_NumRises.mono_l k
    · intro y0 y1 y2 y3 y4 y5
      unfold signalmanlaw01_NumRises.j0
      repeat' first
      | (with_reducible exact ih0 _ _ _ _ _ _)
      | (with_reducible exact num_Put.mono _ _ _ _)
      | (with_reducible exact signalmanlaw01_awake.mono _)
      | (with_reducible exact signalmanref01_Less.mono _ _ _)
      | (with_reducible exact signalmanref01_Same.mono _ _ _)
      | (with_reducible exact LeO.refl _)
      | (with_reducible exact LeO.none _)
      | (with_reducible refine LeO.ite ?_ ?_)
      | (with_reducible refine LeO.bind ?_ (fun _ => ?_))
      | exact ih0 _ _ _ _ _ _
      | exact num_Put.mono _ _ _ _
      | exact signalmanlaw01_awake.mono _
      | exact signalmanref01_Less.mono _ _ _
      | exact signalmanref01_Same.mono _ _ _
      | exact LeO.none _
      | refine LeO.ite ?_ ?_
      | refine LeO.bind ?_ (fun _ => ?_)
theorem signalmanlaw01_NumRises.mono : ∀ a0 a1 a2 k, LeO (signalmanlaw01_NumRises.f k a0 a1 a2) (signalmanlaw01_NumRises.f (k + 1) a0 a1 a2) := by
  intro a0 a1 a2 k
  have ih0 := signalmanlaw01_NumRises.mono_l k
  unfold signalmanlaw01_NumRises.f
  repeat' first
      | (with_reducible exact ih0 _ _ _ _ _ _)
      | (with_reducible exact num_Put.mono _ _ _ _)
      | (with_reducible exact signalmanlaw01_awake.mono _)
      | (with_reducible exact signalmanref01_Less.mono _ _ _)
      | (with_reducible exact signalmanref01_Same.mono _ _ _)
      | (with_reducible exact LeO.refl _)
      | (with_reducible exact LeO.none _)
      | (with_reducible refine LeO.ite ?_ ?_)
      | (with_reducible refine LeO.bind ?_ (fun _ => ?_))
      | exact ih0 _ _ _ _ _ _
      | exact num_Put.mono _ _ _ _
      | exact signalmanlaw01_awake.mono _
      | exact signalmanref01_Less.mono _ _ _
      | exact signalmanref01_Same.mono _ _ _
      | exact LeO.none _
      | refine LeO.ite ?_ ?_
      | refine LeO.bind ?_ (fun _ => ?_)
set_option maxHeartbeats 8000000 in
set_option maxRecDepth 100000 in
theorem signalmanlaw01_NumRises.calls (k : Nat) (a0 : Int) (a1 : Int) (a2 : Int) (r : Bool) (w : World) (h : signalmanlaw01_NumRises.f k a0 a1 a2 = some r) :
    Calls Try.prog 5 #[.int .i64 a0, .int .u64 a1, .int .u64 a2] w fun e w' => e = .returned (.bool r) ∧ Below w.heap.size w w' := by
  have HB := Aside0.mk (Below.refl w.heap.size w)
  have H : ((signalmanlaw01_awake.f k).bind fun t303 => (if t303 = true then ((num_Put.f k ([] : List Int) a0 a1).bind fun bt304 => ((num_Put.f k ([] : List Int) a0 a2).bind fun bt308 => (if bt304.2 = 0 then (signalmanlaw01_NumRises.j0 k a0 a1 a2 bt304.1 bt308.1 (bt308.2 != 0)) else (signalmanlaw01_NumRises.j0 k a0 a1 a2 bt304.1 bt308.1 true)))) else (some false))) = some r := h
  clear h
  replace H := Option.bind_eq_some_iff.mp H
  obtain ⟨t303, A40, H⟩ := H
  replace H : (if t303 = true then ((num_Put.f k ([] : List Int) a0 a1).bind fun bt304 => ((num_Put.f k ([] : List Int) a0 a2).bind fun bt308 => (if bt304.2 = 0 then (signalmanlaw01_NumRises.j0 k a0 a1 a2 bt304.1 bt308.1 (bt308.2 != 0)) else (signalmanlaw01_NumRises.j0 k a0 a1 a2 bt304.1 bt308.1 true)))) else (some false)) = some r := H
  have A4 := Aside0.mk A40
  clear A40
  by_cases c5 : t303 = true
  ·subst c5
   have H1 : ((num_Put.f k ([] : List Int) a0 a1).bind fun bt304 => ((num_Put.f k ([] : List Int) a0 a2).bind fun bt308 => (if bt304.2 = 0 then (signalmanlaw01_NumRises.j0 k a0 a1 a2 bt304.1 bt308.1 (bt308.2 != 0)) else (signalmanlaw01_NumRises.j0 k a0 a1 a2 bt304.1 bt308.1 true)))) = some r := by rw [if_pos rfl] at H; exact H
   clear H
   have H := H1
   clear H1
   replace H := Option.bind_eq_some_iff.mp H
   obtain ⟨⟨t304, t305⟩, A60, H⟩ := H
   replace H : ((num_Put.f k ([] : List Int) a0 a2).bind fun bt308 => (if t305 = 0 then (signalmanlaw01_NumRises.j0 k a0 a1 a2 t304 bt308.1 (bt308.2 != 0)) else (signalmanlaw01_NumRises.j0 k a0 a1 a2 t304 bt308.1 true))) = some r := H
   have A6 := Aside0.mk A60
   clear A60
   replace H := Option.bind_eq_some_iff.mp H
   obtain ⟨⟨t308, t309⟩, A70, H⟩ := H
   replace H : (if t305 = 0 then (signalmanlaw01_NumRises.j0 k a0 a1 a2 t304 t308 (t309 != 0)) else (signalmanlaw01_NumRises.j0 k a0 a1 a2 t304 t308 true)) = some r := H
   have A7 := Aside0.mk A70
   clear A70
   have HC8 := Aside0.mk H
   clear H
   go_enter Try.func5, Try.ntmps5
   go_upto_region 5 with (first | ((with_reducible refine gate_callee (f := 14) rfl ?_); refine goesL_ (some 11) rfl rfl Try.func14 (by kernel_rfl) rfl #[] rfl (by (try simp only [List.map_toArray, List.map_cons, List.map_nil]); first | done | rfl | (simp only [List.length_drop, List.length_take]; rfl)) ?_; (with_reducible refine (signalmanlaw01_awake.calls k  true _ A4.out).mono ?_); rintro e w9 ⟨rfl, hb⟩; refine ⟨_, rfl, ?_⟩; have n0_ := Aside0.mk (below_step (by repeat (first | (with_reducible first | exact HB.out | apply below_alloc | apply pw_below_drewN | apply below_drew1) | exact HB.out)) hb); clear HB; have HB := n0_; clear n0_; (try clear hb); (try clear hb2); (try clear hk); (try clear hi)) | ((with_reducible refine gate_callee (f := 15) rfl ?_); refine goesL_ (some 16) rfl rfl Try.func15 (by kernel_rfl) rfl #[.slice none 0 0, .int .i64 a0, .int .u64 a1] rfl (by (try simp only [List.map_toArray, List.map_cons, List.map_nil]); first | done | rfl | (simp only [List.length_drop, List.length_take]; rfl)) ?_; (refine (num_Put.calls k _ _ ([] : List Int) a0 a1 t304 t305 _ ?side1 ?side2 A6.out).mono ?_); (case side1 => exact Kd.C_nil _ _); (case side2 => exact Nat.le_refl _); rintro e w10 ⟨v306, rfl, ho0, hb⟩; refine ⟨_, rfl, ?_⟩; have n0_ := Aside0.mk (Kd.R_lower ho0 (below_size (by repeat (first | (with_reducible first | exact HB.out | apply below_alloc | apply pw_below_drewN | apply below_drew1) | exact HB.out)))); have n1_ := Aside0.mk (below_step (by repeat (first | (with_reducible first | exact HB.out | apply below_alloc | apply pw_below_drewN | apply below_drew1) | exact HB.out)) hb); clear HB; have HO307 := n0_; have HB := n1_; clear n0_ n1_; (try clear hb); (try clear hb2); (try clear hk); (try clear hi); (try clear ho0)) | ((with_reducible refine gate_callee (f := 15) rfl ?_); refine goesL_ (some 22) rfl rfl Try.func15 (by kernel_rfl) rfl #[.slice none 0 0, .int .i64 a0, .int .u64 a2] rfl (by (try simp only [List.map_toArray, List.map_cons, List.map_nil]); first | done | rfl | (simp only [List.length_drop, List.length_take]; rfl)) ?_; (refine (num_Put.calls k _ _ ([] : List Int) a0 a2 t308 t309 _ ?side1 ?side2 A7.out).mono ?_); (case side1 => exact Kd.C_nil _ _); (case side2 => exact Nat.le_refl _); rintro e w11 ⟨v310, rfl, ho0, hb⟩; refine ⟨_, rfl, ?_⟩; have n0_ := Aside0.mk (Kd.R_elder' (by (with_reducible repeat (first | apply Kd.R_alloc | apply Kd.R_drewN | apply Kd.R_drew)); exact HO307.out) (Kd.R_base ho0) hb); have n1_ := Aside0.mk (Kd.R_lower (Kd.R_new' ho0 (Kd.R_lt (by (with_reducible repeat (first | apply Kd.R_alloc | apply Kd.R_drewN | apply Kd.R_drew)); exact HO307.out))) (below_size (by repeat (first | (with_reducible first | exact HB.out | apply below_alloc | apply pw_below_drewN | apply below_drew1) | exact HB.out)))); have n2_ := Aside0.mk (below_step (by repeat (first | (with_reducible first | exact HB.out | apply below_alloc | apply pw_below_drewN | apply below_drew1) | exact HB.out)) hb); clear HO307; clear HB; have HO307 := n0_; have HO311 := n1_; have HB := n2_; clear n0_ n1_ n2_; (try clear hb); (try clear hb2); (try clear hk); (try clear hi); (try clear ho0)))
   (try simp only [Act.put, List.setIfInBounds_toArray, List.set_cons_zero, List.set_cons_succ])
   go_cut [30] (fun v30 wc => ∃ (kq : Nat) (x30_7 : Bool), v30 = .bool x30_7 ∧ Aside0 (signalmanlaw01_NumRises.j0 kq a0 a1 a2 t304 t308 x30_7 = some r) ∧ Aside0 (kq ≤ k) ∧ Aside0 (Kd.R (Kd.int .u8) 5 wc w.heap.size (fun k_ => some k_ ≠ (v310 : Value).ownBlock) v306 t304) ∧ Aside0 (Kd.R (Kd.int .u8) 5 wc w.heap.size (fun k_ => some k_ ≠ (v306 : Value).ownBlock) v310 t308) ∧ Aside0 (Below w.heap.size w wc))
   case first =>
    have H := HC8.out
    clear HC8
    by_cases c12 : t305 = 0
    ·rw [if_pos c12] at H
     have c12b0 : (t305 == 0) = true := beq_iff_eq.mpr c12
     have c12b1 : (t305 != 0) = false := bne_eq_false_iff_eq.mpr c12
     clear c12
     (first | rw [c12b0] | (simp only [i64_w, i32_w]; rw [c12b0]) | skip)
     have H' := Aside0.mk H
     clear H
     go_wp2
     go_meet
     case rel => exact ⟨_, ((t309 != 0)), (by first | rfl | (simp; done) | (simp [*]; done)), H', ⟨by first | omega | exact Nat.le_refl _⟩, ⟨by (with_reducible repeat (first | apply Kd.R_alloc | apply Kd.R_drewN | apply Kd.R_drew)); exact Kd.R_mono HO307.out (fun _ hk => hk.2)⟩, ⟨by (with_reducible repeat (first | apply Kd.R_alloc | apply Kd.R_drewN | apply Kd.R_drew)); exact Kd.R_mono HO311.out (fun _ hk => hk.2)⟩, ⟨by repeat (first | (with_reducible first | exact HB.out | apply below_alloc | apply pw_below_drewN | apply below_drew1) | exact HB.out)⟩⟩
    ·rw [if_neg c12] at H
     have c12b0 : (t305 == 0) = false := beq_eq_false_iff_ne.mpr c12
     have c12b1 : (t305 != 0) = true := bne_iff_ne.mpr c12
     (first | rw [c12b0] | (simp only [i64_w, i32_w]; rw [c12b0]) | skip)
     have H' := Aside0.mk H
     clear H
     go_wp2
     go_meet
     case rel => exact ⟨_, (true), (by first | rfl | (simp; done) | (simp [*]; done)), H', ⟨by first | omega | exact Nat.le_refl _⟩, ⟨by (with_reducible repeat (first | apply Kd.R_alloc | apply Kd.R_drewN | apply Kd.R_drew)); exact Kd.R_mono HO307.out (fun _ hk => hk.2)⟩, ⟨by (with_reducible repeat (first | apply Kd.R_alloc | apply Kd.R_drewN | apply Kd.R_drew)); exact Kd.R_mono HO311.out (fun _ hk => hk.2)⟩, ⟨by repeat (first | (with_reducible first | exact HB.out | apply below_alloc | apply pw_below_drewN | apply below_drew1) | exact HB.out)⟩⟩
   case rest =>
    clear HC8
    try clear c1
    try clear p2
    try clear c5
    try clear c12
    try clear c12b0
    try clear c12b1
    obtain ⟨kq, x30_7, rfl, HA, HJ7, HO_7, HO_9, HB⟩ := hcut
    cases kq with
    | zero => exact absurd HA.out (by simp [signalmanlaw01_NumRises.j0])
    | succ kj7 =>
     have H := HA.out
     clear HA
     simp only [signalmanlaw01_NumRises.j0] at H
     by_cases c13 : x30_7 = true
     ·subst c13
      have H1 : (if a0 < 1 then (some true) else (if a0 > 8 then (some true) else (if a0 < 8 then (if 0 ≤ (wrap64 (8 * (mx a0 1))) then (some (decide ((mx a1 a2) ≥ (shl .u64 1 (wrap64 (8 * (mx a0 1))))))) else (none)) else (some false)))) = some r := by rw [if_pos rfl] at H; exact H
      clear H
      have H := H1
      clear H1
      by_cases c14 : a0 < 1
      ·rw [if_pos c14] at H
       have c14b0 : decide (a0 < 1) = true := decide_eq_true c14
       clear c14
       obtain rfl := Option.some.inj H
       go_wp2
       go_ret
       exact ⟨by first | rfl | (simp [errW_none, errW_some] <;> rfl) | (simp [*, errW_none, errW_some] <;> rfl), by repeat (first | (with_reducible first | exact HB.out | apply below_alloc | apply pw_below_drewN | apply below_drew1) | exact HB.out)⟩
      ·rw [if_neg c14] at H
       have c14b0 : decide (a0 < 1) = false := decide_eq_false c14
       clear c14
       by_cases c15 : a0 > 8
       ·rw [if_pos c15] at H
        have c15b0 : decide (8 < a0) = true := decide_eq_true c15
        clear c15
        obtain rfl := Option.some.inj H
        go_wp2
        go_ret
        exact ⟨by first | rfl | (simp [errW_none, errW_some] <;> rfl) | (simp [*, errW_none, errW_some] <;> rfl), by repeat (first | (with_reducible first | exact HB.out | apply below_alloc | apply pw_below_drewN | apply below_drew1) | exact HB.out)⟩
       ·rw [if_neg c15] at H
        have c15b0 : decide (8 < a0) = false := decide_eq_false c15
        clear c15
        by_cases c16 : a0 < 8
        ·rw [if_pos c16] at H
         have c16b0 : decide (a0 < 8) = true := decide_eq_true c16
         clear c16
         obtain ⟨ji17, hji17⟩ : ∃ j_ : Int, (mx a1 a2) = j_ := ⟨_, rfl⟩
         replace H : (if 0 ≤ (wrap64 (8 * (mx a0 1))) then (some (decide ((ji17) ≥ (shl .u64 1 (wrap64 (8 * (mx a0 1))))))) else (none)) = some r := by first | (rw [hji17] at H; exact H) | (simp only [hji17] at H ⊢; exact H)
         have hji17_ : (if a1 < a2 then a2 else a1) = ji17 := hji17
         obtain ⟨ji18, hji18⟩ : ∃ j_ : Int, (mx a0 1) = j_ := ⟨_, rfl⟩
         replace H : (if 0 ≤ (wrap64 (8 * (ji18))) then (some (decide ((ji17) ≥ (shl .u64 1 (wrap64 (8 * (ji18))))))) else (none)) = some r := by first | (rw [hji18] at H; exact H) | (simp only [hji18] at H ⊢; exact H)
         have hji18_ : (if a0 < 1 then 1 else a0) = ji18 := hji18
         obtain ⟨ji19, hji19⟩ : ∃ j_ : Int, (wrap64 (8 * (ji18))) = j_ := ⟨_, rfl⟩
         replace H : (if 0 ≤ (ji19) then (some (decide ((ji17) ≥ (shl .u64 1 (ji19))))) else (none)) = some r := by first | (rw [hji19] at H; exact H) | (simp only [hji19] at H ⊢; exact H)
         have hji19w : (IntKind.i64.wrap (8 * (ji18))) = ji19 := (i64_w _).trans hji19
         by_cases c20 : 0 ≤ (ji19)
         ·rw [if_pos c20] at H
          have c20b0 := eq_true c20
          have c20b1 : decide (0 ≤ (ji19)) = true := decide_eq_true c20
          clear c20
          obtain ⟨ji21, hji21⟩ : ∃ j_ : Int, (shl .u64 1 (ji19)) = j_ := ⟨_, rfl⟩
          replace H : (some (decide ((ji17) ≥ (ji21)))) = some r := by first | (rw [hji21] at H; exact H) | (simp only [hji21] at H ⊢; exact H)
          have hji21_ : (IntKind.u64.wrap (1 * 2 ^ min (ji19).toNat 64)) = ji21 := hji21
          have hji21z : (ji19) ≤ 64 → (IntKind.u64.wrap (1 * 2 ^ (ji19).toNat)) = ji21 := shl_small hji21
          have hji21u : (IntKind.u64.wrap (2 ^ min (ji19).toNat 64)) = ji21 := by have h_ := hji21_; rw [Int.one_mul] at h_; exact h_
          have hji21v : (ji19) ≤ 64 → (IntKind.u64.wrap (2 ^ (ji19).toNat)) = ji21 := fun hle_ => by have h_ := hji21z hle_; rw [Int.one_mul] at h_; exact h_
          obtain rfl := Option.some.inj H
          go_wp2
          go_ret
          exact ⟨by first | rfl | (simp [errW_none, errW_some] <;> rfl) | (simp only [← hji17, ← hji18, ← hji19, ← hji21]; first | rfl | (simp [errW_none, errW_some] <;> rfl)) | (simp [*, errW_none, errW_some] <;> rfl), by repeat (first | (with_reducible first | exact HB.out | apply below_alloc | apply pw_below_drewN | apply below_drew1) | exact HB.out)⟩
         ·rw [if_neg c20] at H
          exact absurd H (by simp)
        ·rw [if_neg c16] at H
         have c16b0 : decide (a0 < 8) = false := decide_eq_false c16
         clear c16
         obtain rfl := Option.some.inj H
         go_wp2
         go_ret
         exact ⟨by first | rfl | (simp [errW_none, errW_some] <;> rfl) | (simp [*, errW_none, errW_some] <;> rfl), by repeat (first | (with_reducible first | exact HB.out | apply below_alloc | apply pw_below_drewN | apply below_drew1) | exact HB.out)⟩
     ·replace c13 := Bool.eq_false_iff.mpr c13
      subst c13
      have H1 : ((signalmanref01_Less.f kj7 t304 t308).bind fun t312 => (if ((decide (a1 < a2)) == t312) = true then ((signalmanref01_Same.f kj7 t304 t308).bind fun t313 => (some ((a1 == a2) == t313))) else (some false))) = some r := by rw [if_neg (show ¬ (false = true) by decide)] at H; exact H
      clear H
      have H := H1
      clear H1
      replace H := Option.bind_eq_some_iff.mp H
      obtain ⟨t312, A220, H⟩ := H
      replace H : (if ((decide (a1 < a2)) == t312) = true then ((signalmanref01_Same.f kj7 t304 t308).bind fun t313 => (some ((a1 == a2) == t313))) else (some false)) = some r := H
      have A22 := Aside0.mk A220
      clear A220
      by_cases c23 : ((decide (a1 < a2)) == t312) = true
      ·rw [if_pos c23] at H
       have c23b0 : ((decide (a1 < a2)) == t312) = true := c23
       (try (have c23b1 : decide ((decide (a1 < a2)) = t312) = true := by simpa using c23))
       (try (have c23b2 : ((decide (a1 < a2)) == t312) = true := by simpa using c23))
       clear c23
       replace H := Option.bind_eq_some_iff.mp H
       obtain ⟨t313, A240, H⟩ := H
       replace H : (some ((a1 == a2) == t313)) = some r := H
       have A24 := Aside0.mk A240
       clear A240
       obtain rfl := Option.some.inj H
       obtain ⟨Ao25, co25, eo25⟩ := Kd.R_slice HO_7.out
       subst eo25
       obtain ⟨Ao26, co26, eo26⟩ := Kd.R_slice HO_9.out
       subst eo26
       go_wp2_with (first | ((with_reducible refine gate_callee (f := 24) rfl ?_); refine goesL_ (some 56) rfl rfl Try.func24 (by kernel_rfl) rfl #[.slice Ao25 t304.length co25, .slice Ao26 t308.length co26] rfl (by (try simp only [List.map_toArray, List.map_cons, List.map_nil]); first | done | rfl | (simp only [List.length_drop, List.length_take]; rfl)) ?_; (with_reducible refine (signalmanref01_Less.calls kj7 _ _ t304 _ _ t308 t312 _ ?side1 ?side2 ?side3 ?side4 A22.out).mono ?_); (case side1 => repeat (first | exact (Kd.R_reads' HO_7.out).2.2 | (with_reducible refine Kd.C_alloc ?_ _) | (with_reducible refine Kd.C_drewN ?_ _) | (with_reducible refine Kd.C_drew ?_))); (case side2 => exact (Kd.R_reads' HO_7.out).2.1); (case side3 => repeat (first | exact (Kd.R_reads' HO_9.out).2.2 | (with_reducible refine Kd.C_alloc ?_ _) | (with_reducible refine Kd.C_drewN ?_ _) | (with_reducible refine Kd.C_drew ?_))); (case side4 => exact (Kd.R_reads' HO_9.out).2.1); rintro e w' ⟨rfl, ⟨nd, rfl⟩⟩; refine ⟨_, rfl, ?_⟩) | (go_at_call 23; (with_reducible refine (signalmanref01_Same.calls kj7 _ _ t304 _ _ t308 t313 _ ?side1 ?side2 ?side3 ?side4 A24.out).mono ?_); (case side1 => repeat (first | exact (Kd.R_reads' HO_7.out).2.2 | (with_reducible refine Kd.C_alloc ?_ _) | (with_reducible refine Kd.C_drewN ?_ _) | (with_reducible refine Kd.C_drew ?_))); (case side2 => exact (Kd.R_reads' HO_7.out).2.1); (case side3 => repeat (first | exact (Kd.R_reads' HO_9.out).2.2 | (with_reducible refine Kd.C_alloc ?_ _) | (with_reducible refine Kd.C_drewN ?_ _) | (with_reducible refine Kd.C_drew ?_))); (case side4 => exact (Kd.R_reads' HO_9.out).2.1); rintro e w' ⟨rfl, ⟨nd, rfl⟩⟩))
       go_ret
       exact ⟨by first | rfl | (simp [errW_none, errW_some] <;> rfl) | (simp [*, errW_none, errW_some] <;> rfl), by repeat (first | (with_reducible first | exact HB.out | apply below_alloc | apply pw_below_drewN | apply below_drew1) | exact HB.out)⟩
      ·rw [if_neg c23] at H
       have c23b0 : ((decide (a1 < a2)) == t312) = false := by simpa using c23
       (try (have c23b1 : decide ((decide (a1 < a2)) = t312) = false := by simpa using c23))
       (try (have c23b2 : ((decide (a1 < a2)) == t312) = false := by simpa using c23))
       (try (have c23b3 : ¬ ((decide (a1 < a2)) = t312) := by simpa using c23))
       clear c23
       obtain rfl := Option.some.inj H
       obtain ⟨Ao27, co27, eo27⟩ := Kd.R_slice HO_7.out
       subst eo27
       obtain ⟨Ao28, co28, eo28⟩ := Kd.R_slice HO_9.out
       subst eo28
       go_wp2_with (first | ((with_reducible refine gate_callee (f := 24) rfl ?_); refine goesL_ (some 56) rfl rfl Try.func24 (by kernel_rfl) rfl #[.slice Ao27 t304.length co27, .slice Ao28 t308.length co28] rfl (by (try simp only [List.map_toArray, List.map_cons, List.map_nil]); first | done | rfl | (simp only [List.length_drop, List.length_take]; rfl)) ?_; (with_reducible refine (signalmanref01_Less.calls kj7 _ _ t304 _ _ t308 t312 _ ?side1 ?side2 ?side3 ?side4 A22.out).mono ?_); (case side1 => repeat (first | exact (Kd.R_reads' HO_7.out).2.2 | (with_reducible refine Kd.C_alloc ?_ _) | (with_reducible refine Kd.C_drewN ?_ _) | (with_reducible refine Kd.C_drew ?_))); (case side2 => exact (Kd.R_reads' HO_7.out).2.1); (case side3 => repeat (first | exact (Kd.R_reads' HO_9.out).2.2 | (with_reducible refine Kd.C_alloc ?_ _) | (with_reducible refine Kd.C_drewN ?_ _) | (with_reducible refine Kd.C_drew ?_))); (case side4 => exact (Kd.R_reads' HO_9.out).2.1); rintro e w' ⟨rfl, ⟨nd, rfl⟩⟩; refine ⟨_, rfl, ?_⟩))
       go_ret
       exact ⟨by first | rfl | (simp [errW_none, errW_some] <;> rfl) | (simp [*, errW_none, errW_some] <;> rfl), by repeat (first | (with_reducible first | exact HB.out | apply below_alloc | apply pw_below_drewN | apply below_drew1) | exact HB.out)⟩
  ·replace c5 := Bool.eq_false_iff.mpr c5
   subst c5
   have H1 : (some false) = some r := by rw [if_neg (show ¬ (false = true) by decide)] at H; exact H
   clear H
   have H := H1
   clear H1
   obtain rfl := Option.some.inj H
   go_enter Try.func5, Try.ntmps5
   go_wp2_with (first | ((with_reducible refine gate_callee (f := 14) rfl ?_); refine goesL_ (some 11) rfl rfl Try.func14 (by kernel_rfl) rfl #[] rfl (by (try simp only [List.map_toArray, List.map_cons, List.map_nil]); first | done | rfl | (simp only [List.length_drop, List.length_take]; rfl)) ?_; (with_reducible refine (signalmanlaw01_awake.calls k  false _ A4.out).mono ?_); rintro e w29 ⟨rfl, hb⟩; refine ⟨_, rfl, ?_⟩; have n0_ := Aside0.mk (below_step (by repeat (first | (with_reducible first | exact HB.out | apply below_alloc | apply pw_below_drewN | apply below_drew1) | exact HB.out)) hb); clear HB; have HB := n0_; clear n0_; (try clear hb); (try clear hb2); (try clear hk); (try clear hi)))
   go_ret
   exact ⟨by first | rfl | (simp [errW_none, errW_some] <;> rfl) | (simp [*, errW_none, errW_some] <;> rfl), by repeat (first | (with_reducible first | exact HB.out | apply below_alloc | apply pw_below_drewN | apply below_drew1) | exact HB.out)⟩

/-- THE ONE PURE STATEMENT of signalmanlaw01_NumRises: yours. -/
def signalmanlaw01_NumRises.Pure : Prop := ∀ (a0 : Int) (a1 : Int) (a2 : Int), (Lit.int .i64 a0).wf = true → (Lit.int .u64 a1).wf = true → (Lit.int .u64 a2).wf = true → ∃ k, signalmanlaw01_NumRises.f k a0 a1 a2 = some true
theorem signalmanlaw01_NumRises.walk (P : signalmanlaw01_NumRises.Pure) (a0 : Int) (a1 : Int) (a2 : Int) (w : World) (w0 : (Lit.int .i64 a0).wf = true) (w1 : (Lit.int .u64 a1).wf = true) (w2 : (Lit.int .u64 a2).wf = true) :
    Calls Try.prog 5 #[.int .i64 a0, .int .u64 a1, .int .u64 a2] w fun e w' => e = .returned (.bool true) ∧ Below w.heap.size w w' := by
  obtain ⟨k, h⟩ := P a0 a1 a2 w0 w1 w2
  refine (signalmanlaw01_NumRises.calls k a0 a1 a2 true w h).mono ?_
  rintro e w' ⟨rfl, hd⟩
  exact ⟨rfl, hd⟩

/-! ### signalmanlaw01_NumShort: function 6 -/
mutual
def signalmanlaw01_NumShort.j0 : Nat → Int → Int → ByteArray → Int → Bool → Option (Bool)
  | 0, _, _, _, _, _ => none
  | k + 1, x0, x1, x2, x3, x27 => if x27 = true then (some true) else ((num_Put.f k ([] : List Int) x0 x1).bind fun bt315 => (if bt315.2 = 0 then (signalmanlaw01_NumShort.j1 k x0 x2 x3 bt315.1 (decide (x3 < (bt315.1.length : Int)))) else (signalmanlaw01_NumShort.j1 k x0 x2 x3 bt315.1 false)))
def signalmanlaw01_NumShort.j1 : Nat → Int → ByteArray → Int → List Int → Bool → Option (Bool)
  | 0, _, _, _, _, _ => none
  | k + 1, x0, x2, x3, x9, x41 => if x41 = true then (if 0 ≤ x3 then (if x3 ≤ (x9.length : Int) then ((num_Take.f k (x9.take (x3 : Int).toNat) x0).bind fun bt323 => (if bt323.1 = 0 then (if (bt323.2.1.length : Int) = 0 then (if bt323.2.2 = 3 then (signalmanlaw01_NumShort.j2 k x2 x3) else (some false)) else (some false)) else (some false))) else (none)) else (none)) else (signalmanlaw01_NumShort.j2 k x2 x3)
def signalmanlaw01_NumShort.j2 : Nat → ByteArray → Int → Option (Bool)
  | 0, _, _ => none
  | k + 1, x2, x3 => (num_PutText.f k ([] : List Int) x2).bind fun bt328 => (if x3 ≥ (bt328.1.length : Int) then (some true) else (if 0 ≤ x3 then (if x3 ≤ (bt328.1.length : Int) then ((num_TakeText.f k (bt328.1.take (x3 : Int).toNat)).bind fun bt336 => (if bt336.1.toList = ([] : List UInt8) then (if (bt336.2.1.length : Int) = 0 then (some (bt336.2.2 == 3)) else (some false)) else (some false))) else (none)) else (none)))
end
def signalmanlaw01_NumShort.f (k : Nat) (a0 : Int) (a1 : Int) (a2 : ByteArray) (a3 : Int) : Option (Bool) := (signalmanlaw01_awake.f k).bind fun t314 => (if t314 = true then (if (a2.size : Int) > 1000 then (signalmanlaw01_NumShort.j0 k a0 a1 a2 a3 true) else (signalmanlaw01_NumShort.j0 k a0 a1 a2 a3 (decide (a3 < 0)))) else (some false))
theorem signalmanlaw01_NumShort.mono_l : ∀ k, (∀ y0 y1 y2 y3 y4, LeO (signalmanlaw01_NumShort.j0 k y0 y1 y2 y3 y4) (signalmanlaw01_NumShort.j0 (k + 1) y0 y1 y2 y3 y4)) ∧ (∀ y0 y1 y2 y3 y4, LeO (signalmanlaw01_NumShort.j1 k y0 y1 y2 y3 y4) (signalmanlaw01_NumShort.j1 (k + 1) y0 y1 y2 y3 y4)) ∧ (∀ y0 y1, LeO (signalmanlaw01_NumShort.j2 k y0 y1) (signalmanlaw01_NumShort.j2 (k + 1) y0 y1))
  | 0 => ⟨fun _ _ _ _ _ r h => by simp [signalmanlaw01_NumShort.j0] at h, fun _ _ _ _ _ r h => by simp [signalmanlaw01_NumShort.j1] at h, fun _ _ r h => by simp [signalmanlaw01_NumShort.j2] at h⟩
  | k + 1 => by
    obtain ⟨ih0, ih1, ih2⟩ := signalmanlaw01_NumShort.mono_l k
    refine ⟨?_, ?_, ?_⟩
    · intro y0 y1 y2 y3 y4
      unfold signalmanlaw01_NumShort.j0
      repeat' first
      | (with_reducible exact ih0 _ _ _ _ _)
      | (with_reducible exact ih1 _ _ _ _ _)
      | (with_reducible exact ih2 _ _)
      | (with_reducible exact num_Put.mono _ _ _ _)
      | (with_reducible exact num_PutText.mono _ _ _)
      | (with_reducible exact num_Take.mono _ _ _)
      | (with_reducible exact num_TakeText.mono _ _)
      | (with_reducible exact signalmanlaw01_awake.mono _)
      | (with_reducible exact LeO.refl _)
      | (with_reducible exact LeO.none _)
      | (with_reducible refine LeO.ite ?_ ?_)
      | (with_reducible refine LeO.bind ?_ (fun _ => ?_))
      | exact ih0 _ _ _ _ _
      | exact ih1 _ _ _ _ _
      | exact ih2 _ _
      | exact num_Put.mono _ _ _ _
      | exact num_PutText.mono _ _ _
      | exact num_Take.mono _ _ _
      | exact num_TakeText.mono _ _
      | exact signalmanlaw01_awake.mono _
      | exact LeO.none _
      | refine LeO.ite ?_ ?_
      | refine LeO.bind ?_ (fun _ => ?_)
    · intro y0 y1 y2 y3 y4
      unfold signalmanlaw01_NumShort.j1
      repeat' first
      | (with_reducible exact ih0 _ _ _ _ _)
      | (with_reducible exact ih1 _ _ _ _ _)
      | (with_reducible exact ih2 _ _)
      | (with_reducible exact num_Put.mono _ _ _ _)
      | (with_reducible exact num_PutText.mono _ _ _)
      | (with_reducible exact num_Take.mono _ _ _)
      | (with_reducible exact num_TakeText.mono _ _)
      | (with_reducible exact signalmanlaw01_awake.mono _)
      | (with_reducible exact LeO.refl _)
      | (with_reducible exact LeO.none _)
      | (with_reducible refine LeO.ite ?_ ?_)
      | (with_reducible refine LeO.bind ?_ (fun _ => ?_))
      | exact ih0 _ _ _ _ _
      | exact ih1 _ _ _ _ _
      | exact ih2 _ _
      | exact num_Put.mono _ _ _ _
      | exact num_PutText.mono _ _ _
      | exact num_Take.mono _ _ _
      | exact num_TakeText.mono _ _
      | exact signalmanlaw01_awake.mono _
      | exact LeO.none _
      | refine LeO.ite ?_ ?_
      | refine LeO.bind ?_ (fun _ => ?_)
    · intro y0 y1
      unfold signalmanlaw01_NumShort.j2
      repeat' first
      | (with_reducible exact ih0 _ _ _ _ _)
      | (with_reducible exact ih1 _ _ _ _ _)
      | (with_reducible exact ih2 _ _)
      | (with_reducible exact num_Put.mono _ _ _ _)
      | (with_reducible exact num_PutText.mono _ _ _)
      | (with_reducible exact num_Take.mono _ _ _)
      | (with_reducible exact num_TakeText.mono _ _)
      | (with_reducible exact signalmanlaw01_awake.mono _)
      | (with_reducible exact LeO.refl _)
      | (with_reducible exact LeO.none _)
      | (with_reducible refine LeO.ite ?_ ?_)
      | (with_reducible refine LeO.bind ?_ (fun _ => ?_))
      | exact ih0 _ _ _ _ _
      | exact ih1 _ _ _ _ _
      | exact ih2 _ _
      | exact num_Put.mono _ _ _ _
      | exact num_PutText.mono _ _ _
      | exact num_Take.mono _ _ _
      | exact num_TakeText.mono _ _
      | exact signalmanlaw01_awake.mono _
      | exact LeO.none _
      | refine LeO.ite ?_ ?_
      | refine LeO.bind ?_ (fun _ => ?_)
theorem signalmanlaw01_NumShort.mono : ∀ a0 a1 a2 a3 k, LeO (signalmanlaw01_NumShort.f k a0 a1 a2 a3) (signalmanlaw01_NumShort.f (k + 1) a0 a1 a2 a3) := by
  intro a0 a1 a2 a3 k
  obtain ⟨ih0, ih1, ih2⟩ := signalmanlaw01_NumShort.mono_l k
  unfold signalmanlaw01_NumShort.f
  repeat' first
      | (with_reducible exact ih0 _ _ _ _ _)
      | (with_reducible exact ih1 _ _ _ _ _)
      | (with_reducible exact ih2 _ _)
      | (with_reducible exact num_Put.mono _ _ _ _)
      | (with_reducible exact num_PutText.mono _ _ _)
      | (with_reducible exact num_Take.mono _ _ _)
      | (with_reducible exact num_TakeText.mono _ _)
      | (with_reducible exact signalmanlaw01_awake.mono _)
      | (with_reducible exact LeO.refl _)
      | (with_reducible exact LeO.none _)
      | (with_reducible refine LeO.ite ?_ ?_)
      | (with_reducible refine LeO.bind ?_ (fun _ => ?_))
      | exact ih0 _ _ _ _ _
      | exact ih1 _ _ _ _ _
      | exact ih2 _ _
      | exact num_Put.mono _ _ _ _
      | exact num_PutText.mono _ _ _
      | exact num_Take.mono _ _ _
      | exact num_TakeText.mono _ _
      | exact signalmanlaw01_awake.mono _
      | exact LeO.none _
      | refine LeO.ite ?_ ?_
      | refine LeO.bind ?_ (fun _ => ?_)
set_option maxHeartbeats 8000000 in
set_option maxRecDepth 100000 in
theorem signalmanlaw01_NumShort.calls (k : Nat) (a0 : Int) (a1 : Int) (a2 : ByteArray) (a3 : Int) (r : Bool) (w : World) (h : signalmanlaw01_NumShort.f k a0 a1 a2 a3 = some r) :
    Calls Try.prog 6 #[.int .i64 a0, .int .u64 a1, .string a2, .int .i64 a3] w fun e w' => e = .returned (.bool r) ∧ Below w.heap.size w w' := by
  have HB := Aside0.mk (Below.refl w.heap.size w)
  have H : ((signalmanlaw01_awake.f k).bind fun t314 => (if t314 = true then (if (a2.size : Int) > 1000 then (signalmanlaw01_NumShort.j0 k a0 a1 a2 a3 true) else (signalmanlaw01_NumShort.j0 k a0 a1 a2 a3 (decide (a3 < 0)))) else (some false))) = some r := h
  clear h
  replace H := Option.bind_eq_some_iff.mp H
  obtain ⟨t314, A50, H⟩ := H
  replace H : (if t314 = true then (if (a2.size : Int) > 1000 then (signalmanlaw01_NumShort.j0 k a0 a1 a2 a3 true) else (signalmanlaw01_NumShort.j0 k a0 a1 a2 a3 (decide (a3 < 0)))) else (some false)) = some r := H
  have A5 := Aside0.mk A50
  clear A50
  by_cases c6 : t314 = true
  ·subst c6
   have H1 : (if (a2.size : Int) > 1000 then (signalmanlaw01_NumShort.j0 k a0 a1 a2 a3 true) else (signalmanlaw01_NumShort.j0 k a0 a1 a2 a3 (decide (a3 < 0)))) = some r := by rw [if_pos rfl] at H; exact H
   clear H
   have H := H1
   clear H1
   have HC7 := Aside0.mk H
   clear H
   go_enter Try.func6, Try.ntmps6
   go_upto_region 3 with (first | ((with_reducible refine gate_callee (f := 14) rfl ?_); refine goesL_ (some 19) rfl rfl Try.func14 (by kernel_rfl) rfl #[] rfl (by (try simp only [List.map_toArray, List.map_cons, List.map_nil]); first | done | rfl | (simp only [List.length_drop, List.length_take]; rfl)) ?_; (with_reducible refine (signalmanlaw01_awake.calls k  true _ A5.out).mono ?_); rintro e w8 ⟨rfl, hb⟩; refine ⟨_, rfl, ?_⟩; have n0_ := Aside0.mk (below_step (by repeat (first | (with_reducible first | exact HB.out | apply below_alloc | apply pw_below_drewN | apply below_drew1) | exact HB.out)) hb); clear HB; have HB := n0_; clear n0_; (try clear hb); (try clear hb2); (try clear hk); (try clear hi)))
   (try simp only [Act.put, List.setIfInBounds_toArray, List.set_cons_zero, List.set_cons_succ])
   go_cut [27] (fun v27 wc => ∃ (kq : Nat) (x27_6 : Bool), v27 = .bool x27_6 ∧ Aside0 (signalmanlaw01_NumShort.j0 kq a0 a1 a2 a3 x27_6 = some r) ∧ Aside0 (kq ≤ k) ∧ Aside0 (Below w.heap.size w wc))
   case first =>
    have H := HC7.out
    clear HC7
    by_cases c9 : (a2.size : Int) > 1000
    ·rw [if_pos c9] at H
     have c9b0 : decide (1000 < (a2.size : Int)) = true := decide_eq_true c9
     have c9b1 : decide (1000 < a2.size) = true := decide_eq_true (by omega)
     clear c9
     (first | rw [c9b0] | (simp only [i64_w, i32_w]; rw [c9b0]) | skip)
     have H' := Aside0.mk H
     clear H
     go_wp2
     go_meet
     case rel => exact ⟨_, (true), (by first | rfl | (simp; done) | (simp [*]; done)), H', ⟨by first | omega | exact Nat.le_refl _⟩, ⟨by repeat (first | (with_reducible first | exact HB.out | apply below_alloc | apply pw_below_drewN | apply below_drew1) | exact HB.out)⟩⟩
    ·rw [if_neg c9] at H
     have c9b0 : decide (1000 < (a2.size : Int)) = false := decide_eq_false c9
     have c9b1 : decide (1000 < a2.size) = false := decide_eq_false (by omega)
     clear c9
     (first | rw [c9b0] | (simp only [i64_w, i32_w]; rw [c9b0]) | skip)
     have H' := Aside0.mk H
     clear H
     go_wp2
     go_meet
     case rel => exact ⟨_, (decide (a3 < 0)), (by first | rfl | (simp; done) | (simp [*]; done)), H', ⟨by first | omega | exact Nat.le_refl _⟩, ⟨by repeat (first | (with_reducible first | exact HB.out | apply below_alloc | apply pw_below_drewN | apply below_drew1) | exact HB.out)⟩⟩
   case rest =>
    clear HC7
    try clear c1
    try clear p2
    try clear c6
    try clear c9
    try clear c9b0
    try clear c9b1
    obtain ⟨kq, x27_6, rfl, HA, HJ6, HB⟩ := hcut
    cases kq with
    | zero => exact absurd HA.out (by simp [signalmanlaw01_NumShort.j0])
    | succ kj6 =>
     have H := HA.out
     clear HA
     simp only [signalmanlaw01_NumShort.j0] at H
     by_cases c10 : x27_6 = true
     ·subst c10
      have H1 : (some true) = some r := by rw [if_pos rfl] at H; exact H
      clear H
      have H := H1
      clear H1
      obtain rfl := Option.some.inj H
      go_wp2
      go_ret
      exact ⟨by first | rfl | (simp [errW_none, errW_some] <;> rfl) | (simp [*, errW_none, errW_some] <;> rfl), by repeat (first | (with_reducible first | exact HB.out | apply below_alloc | apply pw_below_drewN | apply below_drew1) | exact HB.out)⟩
     ·replace c10 := Bool.eq_false_iff.mpr c10
      subst c10
      have H1 : ((num_Put.f kj6 ([] : List Int) a0 a1).bind fun bt315 => (if bt315.2 = 0 then (signalmanlaw01_NumShort.j1 kj6 a0 a2 a3 bt315.1 (decide (a3 < (bt315.1.length : Int)))) else (signalmanlaw01_NumShort.j1 kj6 a0 a2 a3 bt315.1 false))) = some r := by rw [if_neg (show ¬ (false = true) by decide)] at H; exact H
      clear H
      have H := H1
      clear H1
      replace H := Option.bind_eq_some_iff.mp H
      obtain ⟨⟨t315, t316⟩, A110, H⟩ := H
      replace H : (if t316 = 0 then (signalmanlaw01_NumShort.j1 kj6 a0 a2 a3 t315 (decide (a3 < (t315.length : Int)))) else (signalmanlaw01_NumShort.j1 kj6 a0 a2 a3 t315 false)) = some r := H
      have A11 := Aside0.mk A110
      clear A110
      have HC12 := Aside0.mk H
      clear H
      go_upto_region 6 with (first | ((with_reducible refine gate_callee (f := 15) rfl ?_); refine goesL_ (some 31) rfl rfl Try.func15 (by kernel_rfl) rfl #[.slice none 0 0, .int .i64 a0, .int .u64 a1] rfl (by (try simp only [List.map_toArray, List.map_cons, List.map_nil]); first | done | rfl | (simp only [List.length_drop, List.length_take]; rfl)) ?_; (refine (num_Put.calls kj6 _ _ ([] : List Int) a0 a1 t315 t316 _ ?side1 ?side2 A11.out).mono ?_); (case side1 => exact Kd.C_nil _ _); (case side2 => exact Nat.le_refl _); rintro e w13 ⟨v317, rfl, ho0, hb⟩; refine ⟨_, rfl, ?_⟩; have n0_ := Aside0.mk (Kd.R_lower ho0 (below_size (by repeat (first | (with_reducible first | exact HB.out | apply below_alloc | apply pw_below_drewN | apply below_drew1) | exact HB.out)))); have n1_ := Aside0.mk (below_step (by repeat (first | (with_reducible first | exact HB.out | apply below_alloc | apply pw_below_drewN | apply below_drew1) | exact HB.out)) hb); clear HB; have HO318 := n0_; have HB := n1_; clear n0_ n1_; (try clear hb); (try clear hb2); (try clear hk); (try clear hi); (try clear ho0)))
      (try simp only [Act.put, List.setIfInBounds_toArray, List.set_cons_zero, List.set_cons_succ])
      go_cut [41] (fun v41 wc => ∃ (kq : Nat) (x41_11 : Bool), v41 = .bool x41_11 ∧ Aside0 (signalmanlaw01_NumShort.j1 kq a0 a2 a3 t315 x41_11 = some r) ∧ Aside0 (kq ≤ kj6) ∧ Aside0 (Kd.R (Kd.int .u8) 5 wc w.heap.size (fun _ => True) v317 t315) ∧ Aside0 (Below w.heap.size w wc))
      case first =>
       have H := HC12.out
       clear HC12
       by_cases c14 : t316 = 0
       ·rw [if_pos c14] at H
        have c14b0 : (t316 == 0) = true := beq_iff_eq.mpr c14
        have c14b1 : (t316 != 0) = false := bne_eq_false_iff_eq.mpr c14
        clear c14
        (first | rw [c14b0] | (simp only [i64_w, i32_w]; rw [c14b0]) | skip)
        have H' := Aside0.mk H
        clear H
        obtain ⟨Ao15, co15, eo15⟩ := Kd.R_slice HO318.out
        subst eo15
        go_wp2
        go_meet
        case rel => exact ⟨_, (decide (a3 < (t315.length : Int))), (by first | rfl | (simp; done) | (simp [*]; done)), H', ⟨by have := HJ6.out; first | omega | exact Nat.le_refl _⟩, ⟨by (with_reducible repeat (first | apply Kd.R_alloc | apply Kd.R_drewN | apply Kd.R_drew)); exact HO318.out⟩, ⟨by repeat (first | (with_reducible first | exact HB.out | apply below_alloc | apply pw_below_drewN | apply below_drew1) | exact HB.out)⟩⟩
       ·rw [if_neg c14] at H
        have c14b0 : (t316 == 0) = false := beq_eq_false_iff_ne.mpr c14
        have c14b1 : (t316 != 0) = true := bne_iff_ne.mpr c14
        (first | rw [c14b0] | (simp only [i64_w, i32_w]; rw [c14b0]) | skip)
        have H' := Aside0.mk H
        clear H
        go_wp2
        go_meet
        case rel => exact ⟨_, (false), (by first | rfl | (simp; done) | (simp [*]; done)), H', ⟨by have := HJ6.out; first | omega | exact Nat.le_refl _⟩, ⟨by (with_reducible repeat (first | apply Kd.R_alloc | apply Kd.R_drewN | apply Kd.R_drew)); exact HO318.out⟩, ⟨by repeat (first | (with_reducible first | exact HB.out | apply below_alloc | apply pw_below_drewN | apply below_drew1) | exact HB.out)⟩⟩
      case rest =>
       clear HC12
       try clear c1
       try clear p2
       try clear c6
       try clear c9
       try clear c9b0
       try clear c9b1
       try clear c10
       try clear c14
       try clear c14b0
       try clear c14b1
       try clear c15
       try clear p2
       obtain ⟨kq, x41_11, rfl, HA, HJ11, HO_9, HB⟩ := hcut
       cases kq with
       | zero => exact absurd HA.out (by simp [signalmanlaw01_NumShort.j1])
       | succ kj11 =>
        have H := HA.out
        clear HA
        simp only [signalmanlaw01_NumShort.j1] at H
        have HC16 := Aside0.mk H
        clear H
        go_upto_if 41 with (fail)
        go_cut [] (fun wc => ∃ (kq : Nat), Aside0 (signalmanlaw01_NumShort.j2 kq a2 a3 = some r) ∧ Aside0 (kq ≤ kj11) ∧ Aside0 (Below w.heap.size w wc))
        case first =>
         have H := HC16.out
         clear HC16
         by_cases c17 : x41_11 = true
         ·subst c17
          have H1 : (if 0 ≤ a3 then (if a3 ≤ (t315.length : Int) then ((num_Take.f kj11 (t315.take (a3 : Int).toNat) a0).bind fun bt323 => (if bt323.1 = 0 then (if (bt323.2.1.length : Int) = 0 then (if bt323.2.2 = 3 then (signalmanlaw01_NumShort.j2 kj11 a2 a3) else (some false)) else (some false)) else (some false))) else (none)) else (none)) = some r := by rw [if_pos rfl] at H; exact H
          clear H
          have H := H1
          clear H1
          by_cases c18 : 0 ≤ a3
          ·rw [if_pos c18] at H
           have c18b0 := eq_true c18
           have c18b1 : decide (0 ≤ a3) = true := decide_eq_true c18
           clear c18
           by_cases c19 : a3 ≤ (t315.length : Int)
           ·rw [if_pos c19] at H
            have c19b0 := eq_true c19
            have c19b1 : decide (a3 ≤ (t315.length : Int)) = true := decide_eq_true c19
            clear c19
            obtain ⟨y319, hy319⟩ : ∃ y_ : List Int, y_ = (t315.take (a3 : Int).toNat) := ⟨_, rfl⟩
            replace H : ((num_Take.f kj11 y319 a0).bind fun bt323 => (if bt323.1 = 0 then (if (bt323.2.1.length : Int) = 0 then (if bt323.2.2 = 3 then (signalmanlaw01_NumShort.j2 kj11 a2 a3) else (some false)) else (some false)) else (some false))) = some r := by first | (rw [hy319]; with_reducible exact H) | (have H2_ := (Option.bind_some _ _).symm.trans H; rw [hy319]; with_reducible exact H2_) | (have H2_ := (Option.bind_some _ _).symm.trans H; with_reducible exact H2_) | with_reducible exact H | (rw [hy319]; exact H) | exact H
            have Ny319 := Aside0.mk hy319
            clear hy319
            replace H := Option.bind_eq_some_iff.mp H
            obtain ⟨⟨t323, t324, t325⟩, A200, H⟩ := H
            replace H : (if t323 = 0 then (if (t324.length : Int) = 0 then (if t325 = 3 then (signalmanlaw01_NumShort.j2 kj11 a2 a3) else (some false)) else (some false)) else (some false)) = some r := H
            have A20 := Aside0.mk A200
            clear A200
            by_cases c21 : t323 = 0
            ·rw [if_pos c21] at H
             have c21b0 : (t323 == 0) = true := beq_iff_eq.mpr c21
             have c21b1 : (t323 != 0) = false := bne_eq_false_iff_eq.mpr c21
             clear c21
             (first | rw [c21b0] | (simp only [i64_w, i32_w]; rw [c21b0]) | skip)
             by_cases c22 : (t324.length : Int) = 0
             ·rw [if_pos c22] at H
              have c22b0 : ((t324.length : Int) == 0) = true := beq_iff_eq.mpr c22
              have c22b1 : ((t324.length : Int) != 0) = false := bne_eq_false_iff_eq.mpr c22
              clear c22
              by_cases c23 : t325 = 3
              ·rw [if_pos c23] at H
               have c23b0 : (t325 == 3) = true := beq_iff_eq.mpr c23
               have c23b1 : (t325 != 3) = false := bne_eq_false_iff_eq.mpr c23
               clear c23
               have H' := Aside0.mk H
               clear H
               obtain ⟨Ao25, co25, eo25⟩ := Kd.R_slice HO_9.out
               subst eo25
               have q24 : (a3 : Int) ≤ ((t315.length : Int) : Int) := of_decide_eq_true (by first | (with_reducible assumption) | assumption)
               obtain ⟨i024, hi024, _, hsz24, _⟩ := info_parts info5
               have hroom24 : t315.length ≤ co25 := (Kd.R_reads' HO_9.out).2.1
               have hC24 : Kd.C (Kd.int .u8) _ Ao25 t315.length t315 := (Kd.R_reads' HO_9.out).2.2
               have hcut24 := cut_to (P := Try.prog) 22 5 .i64 Try.underlying22 hi024 Ao25 t315.length co25 a3 (of_decide_eq_true (by first | (with_reducible assumption) | assumption)) q24 hroom24
               have hr24 := Kd.C_take (m := (a3 : Int).toNat) hC24 (by omega)
               have hy24 : y319.length = (a3 : Int).toNat := (by rw [Ny319.out, List.length_take]; omega)
               rw [← Ny319.out] at hr24
               rw [← hy24] at hcut24
               have HR322 := Aside0.mk hr24
               have HC322 := Aside0.mk (show y319.length ≤ co25 from by omega)
               clear hr24 hC24 hroom24 hi024 hsz24
               have KY24 := Aside0.mk hy24
               clear hy24
               have KL24 := Aside0.mk (show (a3 : Int).toNat ≤ t315.length from by omega)
               replace q24 := eq_true q24
               go_wp2_with (first | ((with_reducible refine gate_callee (f := 17) rfl ?_); refine goesL_ (some 47) rfl rfl Try.func17 (by kernel_rfl) rfl #[.slice Ao25 y319.length co25, .int .i64 a0] rfl (by (try simp only [List.map_toArray, List.map_cons, List.map_nil]); first | done | rfl | (simp only [List.length_drop, List.length_take]; rfl)) ?_; (with_reducible refine (num_Take.calls kj11 _ _ y319 a0 t323 t324 t325 _ ?side1 ?side2 A20.out).mono ?_); (case side1 => repeat (first | exact (by repeat (first | (with_reducible exact HR322.out) | (with_reducible refine Kd.C_alloc ?_ _) | (with_reducible refine Kd.C_drewN ?_ _) | (with_reducible refine Kd.C_drew ?_) | exact HR322.out)) | (with_reducible refine Kd.C_alloc ?_ _) | (with_reducible refine Kd.C_drewN ?_ _) | (with_reducible refine Kd.C_drew ?_))); (case side2 => exact HC322.out); rintro e w26 ⟨v326, rfl, ho0, hb⟩; refine ⟨_, rfl, ?_⟩; have n0_ := Aside0.mk (Kd.R_elder' (by (with_reducible repeat (first | apply Kd.R_alloc | apply Kd.R_drewN | apply Kd.R_drew)); exact HO_9.out) (Kd.R_base ho0) hb); have n1_ := Aside0.mk (Kd.R_lower (Kd.R_new' ho0 (Kd.R_lt (by (with_reducible repeat (first | apply Kd.R_alloc | apply Kd.R_drewN | apply Kd.R_drew)); exact HO_9.out))) (below_size (by repeat (first | (with_reducible first | exact HB.out | apply below_alloc | apply pw_below_drewN | apply below_drew1) | exact HB.out)))); have n2_ := Aside0.mk (Kd.C_below (by repeat (first | (with_reducible exact HR322.out) | (with_reducible refine Kd.C_alloc ?_ _) | (with_reducible refine Kd.C_drewN ?_ _) | (with_reducible refine Kd.C_drew ?_) | exact HR322.out)) hb); have n3_ := Aside0.mk (below_step (by repeat (first | (with_reducible first | exact HB.out | apply below_alloc | apply pw_below_drewN | apply below_drew1) | exact HB.out)) hb); clear HO_9; clear HR322; clear HB; have HO_9 := n0_; have HO327 := n1_; have HR322 := n2_; have HB := n3_; clear n0_ n1_ n2_ n3_; (try clear hb); (try clear hb2); (try clear hk); (try clear hi); (try clear ho0); obtain ⟨Ao27, co27, eo27⟩ := Kd.R_slice HO327.out; subst eo27))
               go_meet
               case rel => exact ⟨_, H', ⟨by have := HJ6.out; have := HJ11.out; first | omega | exact Nat.le_refl _⟩, ⟨by repeat (first | (with_reducible first | exact HB.out | apply below_alloc | apply pw_below_drewN | apply below_drew1) | exact HB.out)⟩⟩
              ·rw [if_neg c23] at H
               have c23b0 : (t325 == 3) = false := beq_eq_false_iff_ne.mpr c23
               have c23b1 : (t325 != 3) = true := bne_iff_ne.mpr c23
               obtain rfl := Option.some.inj H
               obtain ⟨Ao29, co29, eo29⟩ := Kd.R_slice HO_9.out
               subst eo29
               have q28 : (a3 : Int) ≤ ((t315.length : Int) : Int) := of_decide_eq_true (by first | (with_reducible assumption) | assumption)
               obtain ⟨i028, hi028, _, hsz28, _⟩ := info_parts info5
               have hroom28 : t315.length ≤ co29 := (Kd.R_reads' HO_9.out).2.1
               have hC28 : Kd.C (Kd.int .u8) _ Ao29 t315.length t315 := (Kd.R_reads' HO_9.out).2.2
               have hcut28 := cut_to (P := Try.prog) 22 5 .i64 Try.underlying22 hi028 Ao29 t315.length co29 a3 (of_decide_eq_true (by first | (with_reducible assumption) | assumption)) q28 hroom28
               have hr28 := Kd.C_take (m := (a3 : Int).toNat) hC28 (by omega)
               have hy28 : y319.length = (a3 : Int).toNat := (by rw [Ny319.out, List.length_take]; omega)
               rw [← Ny319.out] at hr28
               rw [← hy28] at hcut28
               have HR322 := Aside0.mk hr28
               have HC322 := Aside0.mk (show y319.length ≤ co29 from by omega)
               clear hr28 hC28 hroom28 hi028 hsz28
               have KY28 := Aside0.mk hy28
               clear hy28
               have KL28 := Aside0.mk (show (a3 : Int).toNat ≤ t315.length from by omega)
               replace q28 := eq_true q28
               go_wp2_with (first | ((with_reducible refine gate_callee (f := 17) rfl ?_); refine goesL_ (some 47) rfl rfl Try.func17 (by kernel_rfl) rfl #[.slice Ao29 y319.length co29, .int .i64 a0] rfl (by (try simp only [List.map_toArray, List.map_cons, List.map_nil]); first | done | rfl | (simp only [List.length_drop, List.length_take]; rfl)) ?_; (with_reducible refine (num_Take.calls kj11 _ _ y319 a0 t323 t324 t325 _ ?side1 ?side2 A20.out).mono ?_); (case side1 => repeat (first | exact (by repeat (first | (with_reducible exact HR322.out) | (with_reducible refine Kd.C_alloc ?_ _) | (with_reducible refine Kd.C_drewN ?_ _) | (with_reducible refine Kd.C_drew ?_) | exact HR322.out)) | (with_reducible refine Kd.C_alloc ?_ _) | (with_reducible refine Kd.C_drewN ?_ _) | (with_reducible refine Kd.C_drew ?_))); (case side2 => exact HC322.out); rintro e w30 ⟨v326, rfl, ho0, hb⟩; refine ⟨_, rfl, ?_⟩; have n0_ := Aside0.mk (Kd.R_elder' (by (with_reducible repeat (first | apply Kd.R_alloc | apply Kd.R_drewN | apply Kd.R_drew)); exact HO_9.out) (Kd.R_base ho0) hb); have n1_ := Aside0.mk (Kd.R_lower (Kd.R_new' ho0 (Kd.R_lt (by (with_reducible repeat (first | apply Kd.R_alloc | apply Kd.R_drewN | apply Kd.R_drew)); exact HO_9.out))) (below_size (by repeat (first | (with_reducible first | exact HB.out | apply below_alloc | apply pw_below_drewN | apply below_drew1) | exact HB.out)))); have n2_ := Aside0.mk (Kd.C_below (by repeat (first | (with_reducible exact HR322.out) | (with_reducible refine Kd.C_alloc ?_ _) | (with_reducible refine Kd.C_drewN ?_ _) | (with_reducible refine Kd.C_drew ?_) | exact HR322.out)) hb); have n3_ := Aside0.mk (below_step (by repeat (first | (with_reducible first | exact HB.out | apply below_alloc | apply pw_below_drewN | apply below_drew1) | exact HB.out)) hb); clear HO_9; clear HR322; clear HB; have HO_9 := n0_; have HO327 := n1_; have HR322 := n2_; have HB := n3_; clear n0_ n1_ n2_ n3_; (try clear hb); (try clear hb2); (try clear hk); (try clear hi); (try clear ho0); obtain ⟨Ao31, co31, eo31⟩ := Kd.R_slice HO327.out; subst eo31))
               go_ret
               exact ⟨by first | rfl | (simp [errW_none, errW_some] <;> rfl) | (simp [*, errW_none, errW_some] <;> rfl), by repeat (first | (with_reducible first | exact HB.out | apply below_alloc | apply pw_below_drewN | apply below_drew1) | exact HB.out)⟩
             ·rw [if_neg c22] at H
              have c22b0 : ((t324.length : Int) == 0) = false := beq_eq_false_iff_ne.mpr c22
              have c22b1 : ((t324.length : Int) != 0) = true := bne_iff_ne.mpr c22
              have c22b2 : ¬ (t324 = []) := fun h_ => c22 (by rw [h_]; rfl)
              obtain rfl := Option.some.inj H
              obtain ⟨Ao33, co33, eo33⟩ := Kd.R_slice HO_9.out
              subst eo33
              have q32 : (a3 : Int) ≤ ((t315.length : Int) : Int) := of_decide_eq_true (by first | (with_reducible assumption) | assumption)
              obtain ⟨i032, hi032, _, hsz32, _⟩ := info_parts info5
              have hroom32 : t315.length ≤ co33 := (Kd.R_reads' HO_9.out).2.1
              have hC32 : Kd.C (Kd.int .u8) _ Ao33 t315.length t315 := (Kd.R_reads' HO_9.out).2.2
              have hcut32 := cut_to (P := Try.prog) 22 5 .i64 Try.underlying22 hi032 Ao33 t315.length co33 a3 (of_decide_eq_true (by first | (with_reducible assumption) | assumption)) q32 hroom32
              have hr32 := Kd.C_take (m := (a3 : Int).toNat) hC32 (by omega)
              have hy32 : y319.length = (a3 : Int).toNat := (by rw [Ny319.out, List.length_take]; omega)
              rw [← Ny319.out] at hr32
              rw [← hy32] at hcut32
              have HR322 := Aside0.mk hr32
              have HC322 := Aside0.mk (show y319.length ≤ co33 from by omega)
              clear hr32 hC32 hroom32 hi032 hsz32
              have KY32 := Aside0.mk hy32
              clear hy32
              have KL32 := Aside0.mk (show (a3 : Int).toNat ≤ t315.length from by omega)
              replace q32 := eq_true q32
              go_wp2_with (first | ((with_reducible refine gate_callee (f := 17) rfl ?_); refine goesL_ (some 47) rfl rfl Try.func17 (by kernel_rfl) rfl #[.slice Ao33 y319.length co33, .int .i64 a0] rfl (by (try simp only [List.map_toArray, List.map_cons, List.map_nil]); first | done | rfl | (simp only [List.length_drop, List.length_take]; rfl)) ?_; (with_reducible refine (num_Take.calls kj11 _ _ y319 a0 t323 t324 t325 _ ?side1 ?side2 A20.out).mono ?_); (case side1 => repeat (first | exact (by repeat (first | (with_reducible exact HR322.out) | (with_reducible refine Kd.C_alloc ?_ _) | (with_reducible refine Kd.C_drewN ?_ _) | (with_reducible refine Kd.C_drew ?_) | exact HR322.out)) | (with_reducible refine Kd.C_alloc ?_ _) | (with_reducible refine Kd.C_drewN ?_ _) | (with_reducible refine Kd.C_drew ?_))); (case side2 => exact HC322.out); rintro e w34 ⟨v326, rfl, ho0, hb⟩; refine ⟨_, rfl, ?_⟩; have n0_ := Aside0.mk (Kd.R_elder' (by (with_reducible repeat (first | apply Kd.R_alloc | apply Kd.R_drewN | apply Kd.R_drew)); exact HO_9.out) (Kd.R_base ho0) hb); have n1_ := Aside0.mk (Kd.R_lower (Kd.R_new' ho0 (Kd.R_lt (by (with_reducible repeat (first | apply Kd.R_alloc | apply Kd.R_drewN | apply Kd.R_drew)); exact HO_9.out))) (below_size (by repeat (first | (with_reducible first | exact HB.out | apply below_alloc | apply pw_below_drewN | apply below_drew1) | exact HB.out)))); have n2_ := Aside0.mk (Kd.C_below (by repeat (first | (with_reducible exact HR322.out) | (with_reducible refine Kd.C_alloc ?_ _) | (with_reducible refine Kd.C_drewN ?_ _) | (with_reducible refine Kd.C_drew ?_) | exact HR322.out)) hb); have n3_ := Aside0.mk (below_step (by repeat (first | (with_reducible first | exact HB.out | apply below_alloc | apply pw_below_drewN | apply below_drew1) | exact HB.out)) hb); clear HO_9; clear HR322; clear HB; have HO_9 := n0_; have HO327 := n1_; have HR322 := n2_; have HB := n3_; clear n0_ n1_ n2_ n3_; (try clear hb); (try clear hb2); (try clear hk); (try clear hi); (try clear ho0); obtain ⟨Ao35, co35, eo35⟩ := Kd.R_slice HO327.out; subst eo35))
              go_ret
              exact ⟨by first | rfl | (simp [errW_none, errW_some] <;> rfl) | (simp [*, errW_none, errW_some] <;> rfl), by repeat (first | (with_reducible first | exact HB.out | apply below_alloc | apply pw_below_drewN | apply below_drew1) | exact HB.out)⟩
            ·rw [if_neg c21] at H
             have c21b0 : (t323 == 0) = false := beq_eq_false_iff_ne.mpr c21
             have c21b1 : (t323 != 0) = true := bne_iff_ne.mpr c21
             (first | rw [c21b0] | (simp only [i64_w, i32_w]; rw [c21b0]) | skip)
             obtain rfl := Option.some.inj H
             obtain ⟨Ao37, co37, eo37⟩ := Kd.R_slice HO_9.out
             subst eo37
             have q36 : (a3 : Int) ≤ ((t315.length : Int) : Int) := of_decide_eq_true (by first | (with_reducible assumption) | assumption)
             obtain ⟨i036, hi036, _, hsz36, _⟩ := info_parts info5
             have hroom36 : t315.length ≤ co37 := (Kd.R_reads' HO_9.out).2.1
             have hC36 : Kd.C (Kd.int .u8) _ Ao37 t315.length t315 := (Kd.R_reads' HO_9.out).2.2
             have hcut36 := cut_to (P := Try.prog) 22 5 .i64 Try.underlying22 hi036 Ao37 t315.length co37 a3 (of_decide_eq_true (by first | (with_reducible assumption) | assumption)) q36 hroom36
             have hr36 := Kd.C_take (m := (a3 : Int).toNat) hC36 (by omega)
             have hy36 : y319.length = (a3 : Int).toNat := (by rw [Ny319.out, List.length_take]; omega)
             rw [← Ny319.out] at hr36
             rw [← hy36] at hcut36
             have HR322 := Aside0.mk hr36
             have HC322 := Aside0.mk (show y319.length ≤ co37 from by omega)
             clear hr36 hC36 hroom36 hi036 hsz36
             have KY36 := Aside0.mk hy36
             clear hy36
             have KL36 := Aside0.mk (show (a3 : Int).toNat ≤ t315.length from by omega)
             replace q36 := eq_true q36
             go_wp2_with (first | ((with_reducible refine gate_callee (f := 17) rfl ?_); refine goesL_ (some 47) rfl rfl Try.func17 (by kernel_rfl) rfl #[.slice Ao37 y319.length co37, .int .i64 a0] rfl (by (try simp only [List.map_toArray, List.map_cons, List.map_nil]); first | done | rfl | (simp only [List.length_drop, List.length_take]; rfl)) ?_; (with_reducible refine (num_Take.calls kj11 _ _ y319 a0 t323 t324 t325 _ ?side1 ?side2 A20.out).mono ?_); (case side1 => repeat (first | exact (by repeat (first | (with_reducible exact HR322.out) | (with_reducible refine Kd.C_alloc ?_ _) | (with_reducible refine Kd.C_drewN ?_ _) | (with_reducible refine Kd.C_drew ?_) | exact HR322.out)) | (with_reducible refine Kd.C_alloc ?_ _) | (with_reducible refine Kd.C_drewN ?_ _) | (with_reducible refine Kd.C_drew ?_))); (case side2 => exact HC322.out); rintro e w38 ⟨v326, rfl, ho0, hb⟩; refine ⟨_, rfl, ?_⟩; have n0_ := Aside0.mk (Kd.R_elder' (by (with_reducible repeat (first | apply Kd.R_alloc | apply Kd.R_drewN | apply Kd.R_drew)); exact HO_9.out) (Kd.R_base ho0) hb); have n1_ := Aside0.mk (Kd.R_lower (Kd.R_new' ho0 (Kd.R_lt (by (with_reducible repeat (first | apply Kd.R_alloc | apply Kd.R_drewN | apply Kd.R_drew)); exact HO_9.out))) (below_size (by repeat (first | (with_reducible first | exact HB.out | apply below_alloc | apply pw_below_drewN | apply below_drew1) | exact HB.out)))); have n2_ := Aside0.mk (Kd.C_below (by repeat (first | (with_reducible exact HR322.out) | (with_reducible refine Kd.C_alloc ?_ _) | (with_reducible refine Kd.C_drewN ?_ _) | (with_reducible refine Kd.C_drew ?_) | exact HR322.out)) hb); have n3_ := Aside0.mk (below_step (by repeat (first | (with_reducible first | exact HB.out | apply below_alloc | apply pw_below_drewN | apply below_drew1) | exact HB.out)) hb); clear HO_9; clear HR322; clear HB; have HO_9 := n0_; have HO327 := n1_; have HR322 := n2_; have HB := n3_; clear n0_ n1_ n2_ n3_; (try clear hb); (try clear hb2); (try clear hk); (try clear hi); (try clear ho0)))
             go_ret
             exact ⟨by first | rfl | (simp [errW_none, errW_some] <;> rfl) | (simp [*, errW_none, errW_some] <;> rfl), by repeat (first | (with_reducible first | exact HB.out | apply below_alloc | apply pw_below_drewN | apply below_drew1) | exact HB.out)⟩
           ·rw [if_neg c19] at H
            exact absurd H (by simp)
          ·rw [if_neg c18] at H
           exact absurd H (by simp)
         ·replace c17 := Bool.eq_false_iff.mpr c17
          subst c17
          have H1 : (signalmanlaw01_NumShort.j2 kj11 a2 a3) = some r := by rw [if_neg (show ¬ (false = true) by decide)] at H; exact H
          clear H
          have H := H1
          clear H1
          have H' := Aside0.mk H
          clear H
          go_wp2
          go_meet
          case rel => exact ⟨_, H', ⟨by have := HJ6.out; have := HJ11.out; first | omega | exact Nat.le_refl _⟩, ⟨by repeat (first | (with_reducible first | exact HB.out | apply below_alloc | apply pw_below_drewN | apply below_drew1) | exact HB.out)⟩⟩
        case rest =>
         clear HC16
         try clear c1
         try clear c2
         try clear p2
         try clear q2
         try clear q3
         try clear c6
         try clear c9
         try clear c9b0
         try clear c9b1
         try clear c10
         try clear c14
         try clear c14b0
         try clear c14b1
         try clear c15
         try clear c17
         try clear c18
         try clear c18b0
         try clear c18b1
         try clear c19
         try clear c19b0
         try clear c19b1
         try clear c21
         try clear c21b0
         try clear c21b1
         try clear c22
         try clear c22b0
         try clear c22b1
         try clear c22b2
         try clear c23
         try clear c23b0
         try clear c23b1
         try clear q24
         try clear q28
         try clear q32
         try clear q36
         try clear p2
         try clear q24
         try clear q28
         try clear q32
         try clear q36
         obtain ⟨kq, HA, HJ15, HB⟩ := hcut
         cases kq with
         | zero => exact absurd HA.out (by simp [signalmanlaw01_NumShort.j2])
         | succ kj15 =>
          have H := HA.out
          clear HA
          simp only [signalmanlaw01_NumShort.j2] at H
          replace H := Option.bind_eq_some_iff.mp H
          obtain ⟨⟨t328, t329⟩, A390, H⟩ := H
          replace H : (if a3 ≥ (t328.length : Int) then (some true) else (if 0 ≤ a3 then (if a3 ≤ (t328.length : Int) then ((num_TakeText.f kj15 (t328.take (a3 : Int).toNat)).bind fun bt336 => (if bt336.1.toList = ([] : List UInt8) then (if (bt336.2.1.length : Int) = 0 then (some (bt336.2.2 == 3)) else (some false)) else (some false))) else (none)) else (none))) = some r := H
          have A39 := Aside0.mk A390
          clear A390
          by_cases c40 : a3 ≥ (t328.length : Int)
          ·rw [if_pos c40] at H
           have c40b0 : decide ((t328.length : Int) ≤ a3) = true := decide_eq_true c40
           clear c40
           obtain rfl := Option.some.inj H
           go_wp2_with (first | ((with_reducible refine gate_callee (f := 19) rfl ?_); refine goesL_ (some 64) rfl rfl Try.func19 (by kernel_rfl) rfl #[.slice none 0 0, .string a2] rfl (by (try simp only [List.map_toArray, List.map_cons, List.map_nil]); first | done | rfl | (simp only [List.length_drop, List.length_take]; rfl)) ?_; (refine (num_PutText.calls kj15 _ _ ([] : List Int) a2 t328 t329 _ ?side1 ?side2 A39.out).mono ?_); (case side1 => exact Kd.C_nil _ _); (case side2 => exact Nat.le_refl _); rintro e w41 ⟨v330, rfl, ho0, hb⟩; refine ⟨_, rfl, ?_⟩; have n0_ := Aside0.mk (Kd.R_lower ho0 (below_size (by repeat (first | (with_reducible first | exact HB.out | apply below_alloc | apply pw_below_drewN | apply below_drew1) | exact HB.out)))); have n1_ := Aside0.mk (below_step (by repeat (first | (with_reducible first | exact HB.out | apply below_alloc | apply pw_below_drewN | apply below_drew1) | exact HB.out)) hb); clear HB; have HO331 := n0_; have HB := n1_; clear n0_ n1_; (try clear hb); (try clear hb2); (try clear hk); (try clear hi); (try clear ho0); obtain ⟨Ao42, co42, eo42⟩ := Kd.R_slice HO331.out; subst eo42))
           go_ret
           exact ⟨by first | rfl | (simp [errW_none, errW_some] <;> rfl) | (simp [*, errW_none, errW_some] <;> rfl), by repeat (first | (with_reducible first | exact HB.out | apply below_alloc | apply pw_below_drewN | apply below_drew1) | exact HB.out)⟩
          ·rw [if_neg c40] at H
           have c40b0 : decide ((t328.length : Int) ≤ a3) = false := decide_eq_false c40
           clear c40
           by_cases c43 : 0 ≤ a3
           ·rw [if_pos c43] at H
            have c43b0 := eq_true c43
            have c43b1 : decide (0 ≤ a3) = true := decide_eq_true c43
            clear c43
            by_cases c44 : a3 ≤ (t328.length : Int)
            ·rw [if_pos c44] at H
             have c44b0 := eq_true c44
             have c44b1 : decide (a3 ≤ (t328.length : Int)) = true := decide_eq_true c44
             clear c44
             obtain ⟨y332, hy332⟩ : ∃ y_ : List Int, y_ = (t328.take (a3 : Int).toNat) := ⟨_, rfl⟩
             replace H : ((num_TakeText.f kj15 y332).bind fun bt336 => (if bt336.1.toList = ([] : List UInt8) then (if (bt336.2.1.length : Int) = 0 then (some (bt336.2.2 == 3)) else (some false)) else (some false))) = some r := by first | (rw [hy332]; with_reducible exact H) | (have H2_ := (Option.bind_some _ _).symm.trans H; rw [hy332]; with_reducible exact H2_) | (have H2_ := (Option.bind_some _ _).symm.trans H; with_reducible exact H2_) | with_reducible exact H | (rw [hy332]; exact H) | exact H
             have Ny332 := Aside0.mk hy332
             clear hy332
             replace H := Option.bind_eq_some_iff.mp H
             obtain ⟨⟨t336, t337, t338⟩, A450, H⟩ := H
             replace H : (if t336.toList = ([] : List UInt8) then (if (t337.length : Int) = 0 then (some (t338 == 3)) else (some false)) else (some false)) = some r := H
             have A45 := Aside0.mk A450
             clear A450
             by_cases c46 : t336.toList = ([] : List UInt8)
             ·rw [if_pos c46] at H
              have c46b0 : (t336.toList == ([] : List UInt8)) = true := beq_iff_eq.mpr c46
              have c46b1 : (t336.toList != ([] : List UInt8)) = false := bne_eq_false_iff_eq.mpr c46
              clear c46
              by_cases c47 : (t337.length : Int) = 0
              ·rw [if_pos c47] at H
               have c47b0 : ((t337.length : Int) == 0) = true := beq_iff_eq.mpr c47
               have c47b1 : ((t337.length : Int) != 0) = false := bne_eq_false_iff_eq.mpr c47
               clear c47
               obtain rfl := Option.some.inj H
               go_wp2_with (first | ((with_reducible refine gate_callee (f := 19) rfl ?_); refine goesL_ (some 64) rfl rfl Try.func19 (by kernel_rfl) rfl #[.slice none 0 0, .string a2] rfl (by (try simp only [List.map_toArray, List.map_cons, List.map_nil]); first | done | rfl | (simp only [List.length_drop, List.length_take]; rfl)) ?_; (refine (num_PutText.calls kj15 _ _ ([] : List Int) a2 t328 t329 _ ?side1 ?side2 A39.out).mono ?_); (case side1 => exact Kd.C_nil _ _); (case side2 => exact Nat.le_refl _); rintro e w48 ⟨v330, rfl, ho0, hb⟩; refine ⟨_, rfl, ?_⟩; have n0_ := Aside0.mk (Kd.R_lower ho0 (below_size (by repeat (first | (with_reducible first | exact HB.out | apply below_alloc | apply pw_below_drewN | apply below_drew1) | exact HB.out)))); have n1_ := Aside0.mk (below_step (by repeat (first | (with_reducible first | exact HB.out | apply below_alloc | apply pw_below_drewN | apply below_drew1) | exact HB.out)) hb); clear HB; have HO331 := n0_; have HB := n1_; clear n0_ n1_; (try clear hb); (try clear hb2); (try clear hk); (try clear hi); (try clear ho0); obtain ⟨Ao49, co49, eo49⟩ := Kd.R_slice HO331.out; subst eo49; have q50 : (a3 : Int) ≤ ((t328.length : Int) : Int) := of_decide_eq_true (by first | (with_reducible assumption) | assumption); obtain ⟨i050, hi050, _, hsz50, _⟩ := info_parts info5; have hroom50 : t328.length ≤ co49 := (Kd.R_reads' HO331.out).2.1; have hC50 : Kd.C (Kd.int .u8) _ Ao49 t328.length t328 := (Kd.R_reads' HO331.out).2.2; have hcut50 := cut_to (P := Try.prog) 22 5 .i64 Try.underlying22 hi050 Ao49 t328.length co49 a3 (of_decide_eq_true (by first | (with_reducible assumption) | assumption)) q50 hroom50; have hr50 := Kd.C_take (m := (a3 : Int).toNat) hC50 (by omega); have hy50 : y332.length = (a3 : Int).toNat := (by rw [Ny332.out, List.length_take]; omega); rw [← Ny332.out] at hr50; rw [← hy50] at hcut50; have HR335 := Aside0.mk hr50; have HC335 := Aside0.mk (show y332.length ≤ co49 from by omega); clear hr50 hC50 hroom50 hi050 hsz50; have KY50 := Aside0.mk hy50; clear hy50; have KL50 := Aside0.mk (show (a3 : Int).toNat ≤ t328.length from by omega); replace q50 := eq_true q50) | ((with_reducible refine gate_callee (f := 21) rfl ?_); refine goesL_ (some 75) rfl rfl Try.func21 (by kernel_rfl) rfl #[.slice Ao49 y332.length co49] rfl (by (try simp only [List.map_toArray, List.map_cons, List.map_nil]); first | done | rfl | (simp only [List.length_drop, List.length_take]; rfl)) ?_; (with_reducible refine (num_TakeText.calls kj15 _ _ y332 t336 t337 t338 _ ?side1 ?side2 A45.out).mono ?_); (case side1 => repeat (first | exact (by repeat (first | (with_reducible exact HR335.out) | (with_reducible refine Kd.C_alloc ?_ _) | (with_reducible refine Kd.C_drewN ?_ _) | (with_reducible refine Kd.C_drew ?_) | exact HR335.out)) | (with_reducible refine Kd.C_alloc ?_ _) | (with_reducible refine Kd.C_drewN ?_ _) | (with_reducible refine Kd.C_drew ?_))); (case side2 => exact HC335.out); rintro e w51 ⟨v339, rfl, ho0, hb⟩; refine ⟨_, rfl, ?_⟩; have n0_ := Aside0.mk (Kd.R_elder' (by (with_reducible repeat (first | apply Kd.R_alloc | apply Kd.R_drewN | apply Kd.R_drew)); exact HO331.out) (Kd.Q_base ho0) hb); have n1_ := Aside0.mk (Kd.Q_lower (Kd.Q_new' ho0 (Kd.R_lt (by (with_reducible repeat (first | apply Kd.R_alloc | apply Kd.R_drewN | apply Kd.R_drew)); exact HO331.out))) (below_size (by repeat (first | (with_reducible first | exact HB.out | apply below_alloc | apply pw_below_drewN | apply below_drew1) | exact HB.out)))); have n2_ := Aside0.mk (Kd.C_below (by repeat (first | (with_reducible exact HR335.out) | (with_reducible refine Kd.C_alloc ?_ _) | (with_reducible refine Kd.C_drewN ?_ _) | (with_reducible refine Kd.C_drew ?_) | exact HR335.out)) hb); have n3_ := Aside0.mk (below_step (by repeat (first | (with_reducible first | exact HB.out | apply below_alloc | apply pw_below_drewN | apply below_drew1) | exact HB.out)) hb); clear HO331; clear HR335; clear HB; have HO331 := n0_; have HO340 := n1_; have HR335 := n2_; have HB := n3_; clear n0_ n1_ n2_ n3_; (try clear hb); (try clear hb2); (try clear hk); (try clear hi); (try clear ho0); obtain ⟨Ao52, co52, eo52, _⟩ := Kd.Q_slice HO340.out; subst eo52))
               go_ret
               exact ⟨by first | rfl | (simp [errW_none, errW_some] <;> rfl) | (simp [*, errW_none, errW_some] <;> rfl), by repeat (first | (with_reducible first | exact HB.out | apply below_alloc | apply pw_below_drewN | apply below_drew1) | exact HB.out)⟩
              ·rw [if_neg c47] at H
               have c47b0 : ((t337.length : Int) == 0) = false := beq_eq_false_iff_ne.mpr c47
               have c47b1 : ((t337.length : Int) != 0) = true := bne_iff_ne.mpr c47
               have c47b2 : ¬ (t337 = []) := fun h_ => c47 (by rw [h_]; rfl)
               obtain rfl := Option.some.inj H
               go_wp2_with (first | ((with_reducible refine gate_callee (f := 19) rfl ?_); refine goesL_ (some 64) rfl rfl Try.func19 (by kernel_rfl) rfl #[.slice none 0 0, .string a2] rfl (by (try simp only [List.map_toArray, List.map_cons, List.map_nil]); first | done | rfl | (simp only [List.length_drop, List.length_take]; rfl)) ?_; (refine (num_PutText.calls kj15 _ _ ([] : List Int) a2 t328 t329 _ ?side1 ?side2 A39.out).mono ?_); (case side1 => exact Kd.C_nil _ _); (case side2 => exact Nat.le_refl _); rintro e w53 ⟨v330, rfl, ho0, hb⟩; refine ⟨_, rfl, ?_⟩; have n0_ := Aside0.mk (Kd.R_lower ho0 (below_size (by repeat (first | (with_reducible first | exact HB.out | apply below_alloc | apply pw_below_drewN | apply below_drew1) | exact HB.out)))); have n1_ := Aside0.mk (below_step (by repeat (first | (with_reducible first | exact HB.out | apply below_alloc | apply pw_below_drewN | apply below_drew1) | exact HB.out)) hb); clear HB; have HO331 := n0_; have HB := n1_; clear n0_ n1_; (try clear hb); (try clear hb2); (try clear hk); (try clear hi); (try clear ho0); obtain ⟨Ao54, co54, eo54⟩ := Kd.R_slice HO331.out; subst eo54; have q55 : (a3 : Int) ≤ ((t328.length : Int) : Int) := of_decide_eq_true (by first | (with_reducible assumption) | assumption); obtain ⟨i055, hi055, _, hsz55, _⟩ := info_parts info5; have hroom55 : t328.length ≤ co54 := (Kd.R_reads' HO331.out).2.1; have hC55 : Kd.C (Kd.int .u8) _ Ao54 t328.length t328 := (Kd.R_reads' HO331.out).2.2; have hcut55 := cut_to (P := Try.prog) 22 5 .i64 Try.underlying22 hi055 Ao54 t328.length co54 a3 (of_decide_eq_true (by first | (with_reducible assumption) | assumption)) q55 hroom55; have hr55 := Kd.C_take (m := (a3 : Int).toNat) hC55 (by omega); have hy55 : y332.length = (a3 : Int).toNat := (by rw [Ny332.out, List.length_take]; omega); rw [← Ny332.out] at hr55; rw [← hy55] at hcut55; have HR335 := Aside0.mk hr55; have HC335 := Aside0.mk (show y332.length ≤ co54 from by omega); clear hr55 hC55 hroom55 hi055 hsz55; have KY55 := Aside0.mk hy55; clear hy55; have KL55 := Aside0.mk (show (a3 : Int).toNat ≤ t328.length from by omega); replace q55 := eq_true q55) | ((with_reducible refine gate_callee (f := 21) rfl ?_); refine goesL_ (some 75) rfl rfl Try.func21 (by kernel_rfl) rfl #[.slice Ao54 y332.length co54] rfl (by (try simp only [List.map_toArray, List.map_cons, List.map_nil]); first | done | rfl | (simp only [List.length_drop, List.length_take]; rfl)) ?_; (with_reducible refine (num_TakeText.calls kj15 _ _ y332 t336 t337 t338 _ ?side1 ?side2 A45.out).mono ?_); (case side1 => repeat (first | exact (by repeat (first | (with_reducible exact HR335.out) | (with_reducible refine Kd.C_alloc ?_ _) | (with_reducible refine Kd.C_drewN ?_ _) | (with_reducible refine Kd.C_drew ?_) | exact HR335.out)) | (with_reducible refine Kd.C_alloc ?_ _) | (with_reducible refine Kd.C_drewN ?_ _) | (with_reducible refine Kd.C_drew ?_))); (case side2 => exact HC335.out); rintro e w56 ⟨v339, rfl, ho0, hb⟩; refine ⟨_, rfl, ?_⟩; have n0_ := Aside0.mk (Kd.R_elder' (by (with_reducible repeat (first | apply Kd.R_alloc | apply Kd.R_drewN | apply Kd.R_drew)); exact HO331.out) (Kd.Q_base ho0) hb); have n1_ := Aside0.mk (Kd.Q_lower (Kd.Q_new' ho0 (Kd.R_lt (by (with_reducible repeat (first | apply Kd.R_alloc | apply Kd.R_drewN | apply Kd.R_drew)); exact HO331.out))) (below_size (by repeat (first | (with_reducible first | exact HB.out | apply below_alloc | apply pw_below_drewN | apply below_drew1) | exact HB.out)))); have n2_ := Aside0.mk (Kd.C_below (by repeat (first | (with_reducible exact HR335.out) | (with_reducible refine Kd.C_alloc ?_ _) | (with_reducible refine Kd.C_drewN ?_ _) | (with_reducible refine Kd.C_drew ?_) | exact HR335.out)) hb); have n3_ := Aside0.mk (below_step (by repeat (first | (with_reducible first | exact HB.out | apply below_alloc | apply pw_below_drewN | apply below_drew1) | exact HB.out)) hb); clear HO331; clear HR335; clear HB; have HO331 := n0_; have HO340 := n1_; have HR335 := n2_; have HB := n3_; clear n0_ n1_ n2_ n3_; (try clear hb); (try clear hb2); (try clear hk); (try clear hi); (try clear ho0); obtain ⟨Ao57, co57, eo57, _⟩ := Kd.Q_slice HO340.out; subst eo57))
               go_ret
               exact ⟨by first | rfl | (simp [errW_none, errW_some] <;> rfl) | (simp [*, errW_none, errW_some] <;> rfl), by repeat (first | (with_reducible first | exact HB.out | apply below_alloc | apply pw_below_drewN | apply below_drew1) | exact HB.out)⟩
             ·rw [if_neg c46] at H
              have c46b0 : (t336.toList == ([] : List UInt8)) = false := beq_eq_false_iff_ne.mpr c46
              have c46b1 : (t336.toList != ([] : List UInt8)) = true := bne_iff_ne.mpr c46
              obtain rfl := Option.some.inj H
              go_wp2_with (first | ((with_reducible refine gate_callee (f := 19) rfl ?_); refine goesL_ (some 64) rfl rfl Try.func19 (by kernel_rfl) rfl #[.slice none 0 0, .string a2] rfl (by (try simp only [List.map_toArray, List.map_cons, List.map_nil]); first | done | rfl | (simp only [List.length_drop, List.length_take]; rfl)) ?_; (refine (num_PutText.calls kj15 _ _ ([] : List Int) a2 t328 t329 _ ?side1 ?side2 A39.out).mono ?_); (case side1 => exact Kd.C_nil _ _); (case side2 => exact Nat.le_refl _); rintro e w58 ⟨v330, rfl, ho0, hb⟩; refine ⟨_, rfl, ?_⟩; have n0_ := Aside0.mk (Kd.R_lower ho0 (below_size (by repeat (first | (with_reducible first | exact HB.out | apply below_alloc | apply pw_below_drewN | apply below_drew1) | exact HB.out)))); have n1_ := Aside0.mk (below_step (by repeat (first | (with_reducible first | exact HB.out | apply below_alloc | apply pw_below_drewN | apply below_drew1) | exact HB.out)) hb); clear HB; have HO331 := n0_; have HB := n1_; clear n0_ n1_; (try clear hb); (try clear hb2); (try clear hk); (try clear hi); (try clear ho0); obtain ⟨Ao59, co59, eo59⟩ := Kd.R_slice HO331.out; subst eo59; have q60 : (a3 : Int) ≤ ((t328.length : Int) : Int) := of_decide_eq_true (by first | (with_reducible assumption) | assumption); obtain ⟨i060, hi060, _, hsz60, _⟩ := info_parts info5; have hroom60 : t328.length ≤ co59 := (Kd.R_reads' HO331.out).2.1; have hC60 : Kd.C (Kd.int .u8) _ Ao59 t328.length t328 := (Kd.R_reads' HO331.out).2.2; have hcut60 := cut_to (P := Try.prog) 22 5 .i64 Try.underlying22 hi060 Ao59 t328.length co59 a3 (of_decide_eq_true (by first | (with_reducible assumption) | assumption)) q60 hroom60; have hr60 := Kd.C_take (m := (a3 : Int).toNat) hC60 (by omega); have hy60 : y332.length = (a3 : Int).toNat := (by rw [Ny332.out, List.length_take]; omega); rw [← Ny332.out] at hr60; rw [← hy60] at hcut60; have HR335 := Aside0.mk hr60; have HC335 := Aside0.mk (show y332.length ≤ co59 from by omega); clear hr60 hC60 hroom60 hi060 hsz60; have KY60 := Aside0.mk hy60; clear hy60; have KL60 := Aside0.mk (show (a3 : Int).toNat ≤ t328.length from by omega); replace q60 := eq_true q60) | ((with_reducible refine gate_callee (f := 21) rfl ?_); refine goesL_ (some 75) rfl rfl Try.func21 (by kernel_rfl) rfl #[.slice Ao59 y332.length co59] rfl (by (try simp only [List.map_toArray, List.map_cons, List.map_nil]); first | done | rfl | (simp only [List.length_drop, List.length_take]; rfl)) ?_; (with_reducible refine (num_TakeText.calls kj15 _ _ y332 t336 t337 t338 _ ?side1 ?side2 A45.out).mono ?_); (case side1 => repeat (first | exact (by repeat (first | (with_reducible exact HR335.out) | (with_reducible refine Kd.C_alloc ?_ _) | (with_reducible refine Kd.C_drewN ?_ _) | (with_reducible refine Kd.C_drew ?_) | exact HR335.out)) | (with_reducible refine Kd.C_alloc ?_ _) | (with_reducible refine Kd.C_drewN ?_ _) | (with_reducible refine Kd.C_drew ?_))); (case side2 => exact HC335.out); rintro e w61 ⟨v339, rfl, ho0, hb⟩; refine ⟨_, rfl, ?_⟩; have n0_ := Aside0.mk (Kd.R_elder' (by (with_reducible repeat (first | apply Kd.R_alloc | apply Kd.R_drewN | apply Kd.R_drew)); exact HO331.out) (Kd.Q_base ho0) hb); have n1_ := Aside0.mk (Kd.Q_lower (Kd.Q_new' ho0 (Kd.R_lt (by (with_reducible repeat (first | apply Kd.R_alloc | apply Kd.R_drewN | apply Kd.R_drew)); exact HO331.out))) (below_size (by repeat (first | (with_reducible first | exact HB.out | apply below_alloc | apply pw_below_drewN | apply below_drew1) | exact HB.out)))); have n2_ := Aside0.mk (Kd.C_below (by repeat (first | (with_reducible exact HR335.out) | (with_reducible refine Kd.C_alloc ?_ _) | (with_reducible refine Kd.C_drewN ?_ _) | (with_reducible refine Kd.C_drew ?_) | exact HR335.out)) hb); have n3_ := Aside0.mk (below_step (by repeat (first | (with_reducible first | exact HB.out | apply below_alloc | apply pw_below_drewN | apply below_drew1) | exact HB.out)) hb); clear HO331; clear HR335; clear HB; have HO331 := n0_; have HO340 := n1_; have HR335 := n2_; have HB := n3_; clear n0_ n1_ n2_ n3_; (try clear hb); (try clear hb2); (try clear hk); (try clear hi); (try clear ho0)))
              go_ret
              exact ⟨by first | rfl | (simp [errW_none, errW_some] <;> rfl) | (simp [*, errW_none, errW_some] <;> rfl), by repeat (first | (with_reducible first | exact HB.out | apply below_alloc | apply pw_below_drewN | apply below_drew1) | exact HB.out)⟩
            ·rw [if_neg c44] at H
             exact absurd H (by simp)
           ·rw [if_neg c43] at H
            exact absurd H (by simp)
  ·replace c6 := Bool.eq_false_iff.mpr c6
   subst c6
   have H1 : (some false) = some r := by rw [if_neg (show ¬ (false = true) by decide)] at H; exact H
   clear H
   have H := H1
   clear H1
   obtain rfl := Option.some.inj H
   go_enter Try.func6, Try.ntmps6
   go_wp2_with (first | ((with_reducible refine gate_callee (f := 14) rfl ?_); refine goesL_ (some 19) rfl rfl Try.func14 (by kernel_rfl) rfl #[] rfl (by (try simp only [List.map_toArray, List.map_cons, List.map_nil]); first | done | rfl | (simp only [List.length_drop, List.length_take]; rfl)) ?_; (with_reducible refine (signalmanlaw01_awake.calls k  false _ A5.out).mono ?_); rintro e w62 ⟨rfl, hb⟩; refine ⟨_, rfl, ?_⟩; have n0_ := Aside0.mk (below_step (by repeat (first | (with_reducible first | exact HB.out | apply below_alloc | apply pw_below_drewN | apply below_drew1) | exact HB.out)) hb); clear HB; have HB := n0_; clear n0_; (try clear hb); (try clear hb2); (try clear hk); (try clear hi)))
   go_ret
   exact ⟨by first | rfl | (simp [errW_none, errW_some] <;> rfl) | (simp [*, errW_none, errW_some] <;> rfl), by repeat (first | (with_reducible first | exact HB.out | apply below_alloc | apply pw_below_drewN | apply below_drew1) | exact HB.out)⟩

/-- THE ONE PURE STATEMENT of signalmanlaw01_NumShort: yours. -/
def signalmanlaw01_NumShort.Pure : Prop := ∀ (a0 : Int) (a1 : Int) (a2 : ByteArray) (a3 : Int), (Lit.int .i64 a0).wf = true → (Lit.int .u64 a1).wf = true → a2.size ≤ 140737488351232 → (Lit.int .i64 a3).wf = true → ∃ k, signalmanlaw01_NumShort.f k a0 a1 a2 a3 = some true
theorem signalmanlaw01_NumShort.walk (P : signalmanlaw01_NumShort.Pure) (a0 : Int) (a1 : Int) (a2 : ByteArray) (a3 : Int) (w : World) (w0 : (Lit.int .i64 a0).wf = true) (w1 : (Lit.int .u64 a1).wf = true) (w2 : a2.size ≤ 140737488351232) (w3 : (Lit.int .i64 a3).wf = true) :
    Calls Try.prog 6 #[.int .i64 a0, .int .u64 a1, .string a2, .int .i64 a3] w fun e w' => e = .returned (.bool true) ∧ Below w.heap.size w w' := by
  obtain ⟨k, h⟩ := P a0 a1 a2 a3 w0 w1 w2 w3
  refine (signalmanlaw01_NumShort.calls k a0 a1 a2 a3 true w h).mono ?_
  rintro e w' ⟨rfl, hd⟩
  exact ⟨rfl, hd⟩

end Go.Proofs.Ytagmefjpnmjcjab.Nu
