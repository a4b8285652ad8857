/- The document's plan of probes: New and Tick, by hand. -/
import Derived.Test.YtagmefjpnmjcjaaPrDoc
namespace Go.Proofs.Ytagmefjpnmjcjaa.Pr
open Go.RowKit Go.Proofs.YtagmefjpnmjcjaaW.PrintWords Go.Proofs.YtagmefjpnmjcjaaW.PrintLast Go.Proofs.YtagmefjpnmjcjaaW.PrintMore
open Go.Proofs.Ytagmefjpnmjcjaa.Wa (Near Near.refl Near.drewN Near.set_ Near.keep Near.bel2 info3w Near.of_below Near.then_below Near.grown Near.size_ Near.drew1 Near.far Same_same C_one R_empty)
attribute [local go_sem] max2_int min2_int max_two min_two
set_option linter.unusedVariables false
set_option linter.unusedSimpArgs false

theorem pass1_llen {now la : Int} {D : List Int} : ∀ n, (pass1 now la D n).lates.length ≤ n
  | 0 => by simp [pass1]
  | n + 1 => by have := pass1_llen (now := now) (la := la) (D := D) n; rw [pass1]; simp only; split <;> simp <;> omega
theorem pass2_alen {now ev : Int} {D : List Int} {ls : Int} : ∀ n, (pass2 now ev D ls n).asks.length ≤ n ∧ ls ≤ (pass2 now ev D ls n).ls ∧ (pass2 now ev D ls n).ls ≤ ls + n
  | 0 => by simp [pass2]
  | n + 1 => by
    have := pass2_alen (now := now) (ev := ev) (D := D) (ls := ls) n
    rw [pass2]; split
    · simp; omega
    · omega
theorem has_b0 (q : Blk) : q.has q.b0 := by unfold Blk.has; simp
theorem has_b1 (q : Blk) : q.has q.b1 := by unfold Blk.has; simp
theorem has_b2 (q : Blk) : q.has q.b2 := by unfold Blk.has; simp
theorem has_g (q : Blk) : q.has q.g := by unfold Blk.has; simp
theorem ht3 : ∀ t, t ∈ 3 :: (Kd.int IntKind.i64).E → t ≠ 22 ∧ t ≠ 70 := by decide
theorem ht115 : ∀ t, t ∈ 115 :: kA.E → t ≠ 22 ∧ t ≠ 70 := by decide
attribute [local irreducible] IsP IsD Near NearD Blk.has

set_option maxHeartbeats 8000000 in
set_option maxRecDepth 100000 in
theorem DTick_calls (q : Blk) (n : Nat) (E : List Int) (ev la ls now : Int) (w : World) (hI : IsD w q n E ev la ls) (hn0 : 0 ≤ now) (hn : now ≤ 1000000000000) (hev : 0 ≤ ev ∧ ev ≤ 1000) (hla : 0 ≤ la ∧ la ≤ 1000) (hls : 0 ≤ ls ∧ ls ≤ 1000000000000) (has : ∀ i < 6, 0 ≤ nd E (i * 3 + 2) ∧ nd E (i * 3 + 2) ≤ now) :
    Calls Try.prog 30 #[.pointer (some ⟨q.g, 0, none⟩), .int .u64 now] w fun e w' => ∃ va vl, e = .returned (.tuple #[va, vl]) ∧
      Kd.R kA 115 w' w.heap.size (fun _ => True) va (pass2 now ev (pass1 now la E n).D ls n).asks ∧ Kd.R (Kd.int .i64) 3 w' w.heap.size (fun _ => True) vl (pass1 now la E n).lates ∧
      IsD w' q n (pass2 now ev (pass1 now la E n).D ls n).D ev la (pass2 now ev (pass1 now la E n).D ls n).ls ∧ NearD w w' q := by
  have HD0 := Aside0.mk hI
  have HEL := Aside0.mk hI.len
  have hn6 := hI.n6
  have HQL := Aside0.mk hI.lt
  have HNOW := Aside0.mk (show 0 ≤ now ∧ now ≤ 1000000000000 from ⟨hn0, hn⟩)
  have HEV := Aside0.mk hev
  have HLA := Aside0.mk hla
  have HLS := Aside0.mk hls
  have HAS := Aside0.mk has
  clear hI hn0 hn hev hla hls has
  go_enter Try.func30, Try.ntmps30
  go_wp2
  go_loopg [6, 7] (n + 1) (fun kq v6 v7 w' => ∃ (i : Nat), v7 = .int .i64 (i : Int) ∧ Aside0 (kq + i = n + 1) ∧ Aside0 (i ≤ n) ∧ Aside0 (Kd.R (Kd.int .i64) 3 w' w.heap.size (fun _ => True) v6 (pass1 now la E i).lates) ∧ Aside0 (IsD w' q n (pass1 now la E i).D ev la ls) ∧ Aside0 (NearD w w' q))
  case atStart => exact ⟨0, rfl, ⟨by omega⟩, ⟨by omega⟩, ⟨R_empty _ _ (Nat.le_refl _)⟩, ⟨HD0.out.below (below_alloc (Below.refl _ _) _)⟩, ⟨(NearD.refl _ _).below (below_alloc (Below.refl _ _) _)⟩⟩
  case round =>
    obtain ⟨i, rfl, HK, HLI, HL, HD, HN⟩ := hrel
    by_cases ci : i < n
    · obtain ⟨gk1, rfl⟩ : ∃ gk', gk = gk' + 1 := ⟨gk - 1, by have := HK.out; omega⟩
      have c1 : decide ((i : Int) < (n : Int)) = true := decide_eq_true (by omega)
      have c1n : decide (i < n) = true := decide_eq_true ci
      have p1 : 0 ≤ (i : Int) := by omega
      have p2 : (i : Int) < (n : Int) := by omega
      have hwi : wrap64 ((i : Int) + 1) = ((i + 1 : Nat) : Int) := by unfold wrap64; omega
      have hlt := pass1_late (now := now) (la := la) HEL.out i (by omega)
      have hall : (pass1 now la E i).lates.length ≤ 6 := by have := pass1_llen (now := now) (la := la) (D := E) i; omega
      have HLL := Aside0.mk hall
      have hs1 : pass1 now la E (i + 1) = ⟨lateOne now la (pass1 now la E i).D i, if isLate now la (pass1 now la E i).D i then (pass1 now la E i).lates ++ [(i : Int)] else (pass1 now la E i).lates⟩ := rfl
      have hask : nd (pass1 now la E i).D (i * 3 + 2) = nd E (i * 3 + 2) := pass1_nd HEL.out i (by omega) _ (fun k hk => by omega)
      obtain ⟨s, hs⟩ : ∃ s, pass1 now la E i = s := ⟨_, rfl⟩
      rw [hs] at HLL hs1 hask HL HD
      clear hs hall hlt
      have hil : isLate now la s.D i = ((nd s.D (i * 3 + 1) != 0) && decide (la ≤ now - nd s.D (i * 3 + 2))) := rfl
      obtain ⟨o, ho⟩ : ∃ o, nd s.D (i * 3 + 1) = o := ⟨_, rfl⟩
      obtain ⟨a, haa⟩ : ∃ a, nd s.D (i * 3 + 2) = a := ⟨_, rfl⟩
      have hab : 0 ≤ a ∧ a ≤ now := by rw [← haa, hask]; exact HAS.out i (by omega)
      rw [ho, haa] at hil
      have HO := Aside0.mk ho
      have HAA := Aside0.mk haa
      have hwa : IntKind.u64.wrap (a + la) = a + la := by have := HLA.out; have := HNOW.out; rw [IntKind.wrap_u64]; omega
      have hz0 := HD.out.c0
      clear ho haa hask
      by_cases co : o = 0
      · have b0 : (o != 0) = false := by simp [co]
        have hlf : isLate now la s.D i = false := by rw [hil, b0]; rfl
        have HS1 := Aside0.mk (show pass1 now la E (i + 1) = ⟨s.D, s.lates⟩ by rw [hs1]; unfold lateOne; rw [hlf]; rfl)
        clear co hil hlf hs1 hab
        go_upto_region 5 with (fail)
        clear hz0
        have HD_ := Aside0.mk (HD.out.drew)
        have HN_ := Aside0.mk (HN.out.drew)
        have HL_ := Aside0.mk (Kd.R_drew HL.out)
        clear HD HN HL
        have HD := HD_
        have HN := HN_
        have HL := HL_
        clear HD_ HN_ HL_
        refine start_ (n := 24) (S := fun w' => w'.cell? ⟨q.g, 1, none⟩ = some (.slice (some ⟨q.b1, 0, none⟩) n q.c1) ∧ w'.cell? ⟨q.b1, i, none⟩ = some (.int .u64 o) ∧ w'.cell? ⟨q.g, 2, none⟩ = some (.slice (some ⟨q.b2, 0, none⟩) n q.c2) ∧ w'.cell? ⟨q.b2, i, none⟩ = some (.int .u64 a) ∧ w'.cell? ⟨q.g, 4, none⟩ = some (.int .u64 la)) (ds := []) #[false, false, false, false, false, false, false, false, false, false, false, false, false, false, false, false, false, false, false, false, false, false, false, false] (by kernel_rfl) rfl rfl ⟨HD.out.c1, (HD.out.out ci).trans (by rw [HO.out]), HD.out.c2, (HD.out.asked ci).trans (by rw [HAA.out]), HD.out.c4⟩ (fun hHeld => ?_)
        generalize World.drew wr = w2 at HD HN HL hHeld ⊢
        refine pure_ (i := 0) (N := some 20) (v := ?_) (a' := ?_) #[true, false, false, false, false, false, false, false, false, false, false, false, false, false, false, false, false, false, false, false, false, false, false, false] rfl rfl (by kernel_rfl) (fun _ _ _ h => h) (Or.inl ⟨by rfl, ?_⟩) ?_ ?_
        rotate_left
        · intro w'
          go_simp
          with_reducible rfl
        rotate_left
        · simp only [Act.put, List.setIfInBounds_toArray, List.set_cons_zero, List.set_cons_succ, i64_w, i32_w]
          rfl
        refine pure_ (i := 1) (N := some 21) (v := ?_) (a' := ?_) #[true, true, false, false, false, false, false, false, false, false, false, false, false, false, false, false, false, false, false, false, false, false, false, false] rfl rfl (by kernel_rfl) (fun _ _ _ h => h) (Or.inl ⟨by rfl, ?_⟩) ?_ ?_
        rotate_left
        · intro w'
          go_simp
          with_reducible rfl
        rotate_left
        · simp only [Act.put, List.setIfInBounds_toArray, List.set_cons_zero, List.set_cons_succ, i64_w, i32_w]
          rfl
        refine pure_ (i := 2) (N := some 22) (v := ?_) (a' := ?_) #[true, true, true, false, false, false, false, false, false, false, false, false, false, false, false, false, false, false, false, false, false, false, false, false] rfl rfl (by kernel_rfl) (fun _ _ _ h => h) (Or.inl ⟨by rfl, ?_⟩) ?_ ?_
        rotate_left
        · intro w'
          go_simp
          with_reducible rfl
        rotate_left
        · simp only [Act.put, List.setIfInBounds_toArray, List.set_cons_zero, List.set_cons_succ, i64_w, i32_w]
          rfl
        refine pure_ (i := 4) (N := some 24) (v := ?_) (a' := ?_) #[true, true, true, false, true, false, false, false, false, false, false, false, false, false, false, false, false, false, false, false, false, false, false, false] rfl rfl (by kernel_rfl) (fun _ _ _ h => h) (Or.inl ⟨by rfl, ?_⟩) ?_ ?_
        rotate_left
        · intro w'
          go_simp
          with_reducible rfl
        rotate_left
        · simp only [Act.put, List.setIfInBounds_toArray, List.set_cons_zero, List.set_cons_succ, i64_w, i32_w]
          rfl
        refine take_ (i := 3) (N := some 23) (v := ?_) (a' := ?_) #[true, true, true, true, true, false, false, false, false, false, false, false, false, false, false, false, false, false, false, false, false, false, false, false] rfl rfl (by kernel_rfl) (fun _ _ _ h => h) (Or.inl ⟨by rfl, ?_⟩) hHeld ?_ ?_
        rotate_left
        · rintro w' ⟨s0, s1, s2, s3, s4⟩
          go_simp
          with_reducible rfl
        rotate_left
        · simp only [Act.put, List.setIfInBounds_toArray, List.set_cons_zero, List.set_cons_succ, i64_w, i32_w]
          rfl
        refine pure_ (i := 5) (N := some 25) (v := ?_) (a' := ?_) #[true, true, true, true, true, true, false, false, false, false, false, false, false, false, false, false, false, false, false, false, false, false, false, false] rfl rfl (by kernel_rfl) (fun _ _ _ h => h) (Or.inl ⟨by rfl, ?_⟩) ?_ ?_
        rotate_left
        · intro w'
          go_simp
          with_reducible rfl
        rotate_left
        · simp only [Act.put, List.setIfInBounds_toArray, List.set_cons_zero, List.set_cons_succ, i64_w, i32_w]
          rfl
        refine take_ (i := 6) (N := some 26) (v := ?_) (a' := ?_) #[true, true, true, true, true, true, true, false, false, false, false, false, false, false, false, false, false, false, false, false, false, false, false, false] rfl rfl (by kernel_rfl) (fun _ _ _ h => h) (Or.inl ⟨by rfl, ?_⟩) hHeld ?_ ?_
        rotate_left
        · rintro w' ⟨s0, s1, s2, s3, s4⟩
          go_simp
          with_reducible rfl
        rotate_left
        · simp only [Act.put, List.setIfInBounds_toArray, List.set_cons_zero, List.set_cons_succ, i64_w, i32_w]
          rfl
        refine pure_ (i := 7) (N := some 27) (v := ?_) (a' := ?_) #[true, true, true, true, true, true, true, true, false, false, false, false, false, false, false, false, false, false, false, false, false, false, false, false] rfl rfl (by kernel_rfl) (fun _ _ _ h => h) (Or.inl ⟨by rfl, ?_⟩) ?_ ?_
        rotate_left
        · intro w'
          go_simp
          with_reducible rfl
        rotate_left
        · simp only [Act.put, List.setIfInBounds_toArray, List.set_cons_zero, List.set_cons_succ, i64_w, i32_w]
          rfl
        refine pure_ (i := 8) (N := some 28) (v := ?_) (a' := ?_) #[true, true, true, true, true, true, true, true, true, false, false, false, false, false, false, false, false, false, false, false, false, false, false, false] rfl rfl (by kernel_rfl) (fun _ _ _ h => h) (Or.inl ⟨by rfl, ?_⟩) ?_ ?_
        rotate_left
        · intro w'
          go_simp
          with_reducible rfl
        rotate_left
        · simp only [Act.put, List.setIfInBounds_toArray, List.set_cons_zero, List.set_cons_succ, i64_w, i32_w]
          rfl
        refine pure_ (i := 9) (N := some 29) (v := undef) (a' := ?_) #[true, true, true, true, true, true, true, true, true, true, false, false, false, false, false, false, false, false, false, false, false, false, false, false] rfl rfl (by kernel_rfl) (fun _ _ _ h => h) (Or.inr ⟨by rfl, rfl⟩) ?_ ?_
        rotate_left
        · simp only [Act.put, List.setIfInBounds_toArray, List.set_cons_zero, List.set_cons_succ, i64_w, i32_w]
          rfl
        refine pure_ (i := 10) (N := some 30) (v := undef) (a' := ?_) #[true, true, true, true, true, true, true, true, true, true, true, false, false, false, false, false, false, false, false, false, false, false, false, false] rfl rfl (by kernel_rfl) (fun _ _ _ h => h) (Or.inr ⟨by rfl, rfl⟩) ?_ ?_
        rotate_left
        · simp only [Act.put, List.setIfInBounds_toArray, List.set_cons_zero, List.set_cons_succ, i64_w, i32_w]
          rfl
        refine pure_ (i := 11) (N := some 31) (v := undef) (a' := ?_) #[true, true, true, true, true, true, true, true, true, true, true, true, false, false, false, false, false, false, false, false, false, false, false, false] rfl rfl (by kernel_rfl) (fun _ _ _ h => h) (Or.inr ⟨by rfl, rfl⟩) ?_ ?_
        rotate_left
        · simp only [Act.put, List.setIfInBounds_toArray, List.set_cons_zero, List.set_cons_succ, i64_w, i32_w]
          rfl
        refine pure_ (i := 12) (N := some 32) (v := undef) (a' := ?_) #[true, true, true, true, true, true, true, true, true, true, true, true, true, false, false, false, false, false, false, false, false, false, false, false] rfl rfl (by kernel_rfl) (fun _ _ _ h => h) (Or.inr ⟨by rfl, rfl⟩) ?_ ?_
        rotate_left
        · simp only [Act.put, List.setIfInBounds_toArray, List.set_cons_zero, List.set_cons_succ, i64_w, i32_w]
          rfl
        refine pure_ (i := 13) (N := some 33) (v := undef) (a' := ?_) #[true, true, true, true, true, true, true, true, true, true, true, true, true, true, false, false, false, false, false, false, false, false, false, false] rfl rfl (by kernel_rfl) (fun _ _ _ h => h) (Or.inr ⟨by rfl, rfl⟩) ?_ ?_
        rotate_left
        · simp only [Act.put, List.setIfInBounds_toArray, List.set_cons_zero, List.set_cons_succ, i64_w, i32_w]
          rfl
        refine pure_ (i := 14) (N := some 34) (v := undef) (a' := ?_) #[true, true, true, true, true, true, true, true, true, true, true, true, true, true, true, false, false, false, false, false, false, false, false, false] rfl rfl (by kernel_rfl) (fun _ _ _ h => h) (Or.inr ⟨by rfl, rfl⟩) ?_ ?_
        rotate_left
        · simp only [Act.put, List.setIfInBounds_toArray, List.set_cons_zero, List.set_cons_succ, i64_w, i32_w]
          rfl
        refine pure_ (i := 15) (N := some 35) (v := undef) (a' := ?_) #[true, true, true, true, true, true, true, true, true, true, true, true, true, true, true, true, false, false, false, false, false, false, false, false] rfl rfl (by kernel_rfl) (fun _ _ _ h => h) (Or.inr ⟨by rfl, rfl⟩) ?_ ?_
        rotate_left
        · simp only [Act.put, List.setIfInBounds_toArray, List.set_cons_zero, List.set_cons_succ, i64_w, i32_w]
          rfl
        refine pure_ (i := 16) (N := some 36) (v := undef) (a' := ?_) #[true, true, true, true, true, true, true, true, true, true, true, true, true, true, true, true, true, false, false, false, false, false, false, false] rfl rfl (by kernel_rfl) (fun _ _ _ h => h) (Or.inr ⟨by rfl, rfl⟩) ?_ ?_
        rotate_left
        · simp only [Act.put, List.setIfInBounds_toArray, List.set_cons_zero, List.set_cons_succ, i64_w, i32_w]
          rfl
        refine pure_ (i := 17) (N := some 37) (v := undef) (a' := ?_) #[true, true, true, true, true, true, true, true, true, true, true, true, true, true, true, true, true, true, false, false, false, false, false, false] rfl rfl (by kernel_rfl) (fun _ _ _ h => h) (Or.inr ⟨by rfl, rfl⟩) ?_ ?_
        rotate_left
        · simp only [Act.put, List.setIfInBounds_toArray, List.set_cons_zero, List.set_cons_succ, i64_w, i32_w]
          rfl
        refine pure_ (i := 18) (N := some 38) (v := undef) (a' := ?_) #[true, true, true, true, true, true, true, true, true, true, true, true, true, true, true, true, true, true, true, false, false, false, false, false] rfl rfl (by kernel_rfl) (fun _ _ _ h => h) (Or.inr ⟨by rfl, rfl⟩) ?_ ?_
        rotate_left
        · simp only [Act.put, List.setIfInBounds_toArray, List.set_cons_zero, List.set_cons_succ, i64_w, i32_w]
          rfl
        refine pure_ (i := 19) (N := some 39) (v := undef) (a' := ?_) #[true, true, true, true, true, true, true, true, true, true, true, true, true, true, true, true, true, true, true, true, false, false, false, false] rfl rfl (by kernel_rfl) (fun _ _ _ h => h) (Or.inr ⟨by rfl, rfl⟩) ?_ ?_
        rotate_left
        · simp only [Act.put, List.setIfInBounds_toArray, List.set_cons_zero, List.set_cons_succ, i64_w, i32_w]
          rfl
        refine pure_ (i := 20) (N := some 40) (v := undef) (a' := ?_) #[true, true, true, true, true, true, true, true, true, true, true, true, true, true, true, true, true, true, true, true, true, false, false, false] rfl rfl (by kernel_rfl) (fun _ _ _ h => h) (Or.inr ⟨by rfl, rfl⟩) ?_ ?_
        rotate_left
        · simp only [Act.put, List.setIfInBounds_toArray, List.set_cons_zero, List.set_cons_succ, i64_w, i32_w]
          rfl
        refine pure_ (i := 21) (N := some 41) (v := undef) (a' := ?_) #[true, true, true, true, true, true, true, true, true, true, true, true, true, true, true, true, true, true, true, true, true, true, false, false] rfl rfl (by kernel_rfl) (fun _ _ _ h => h) (Or.inr ⟨by rfl, rfl⟩) ?_ ?_
        rotate_left
        · simp only [Act.put, List.setIfInBounds_toArray, List.set_cons_zero, List.set_cons_succ, i64_w, i32_w]
          rfl
        refine pure_ (i := 22) (N := some 42) (v := undef) (a' := ?_) #[true, true, true, true, true, true, true, true, true, true, true, true, true, true, true, true, true, true, true, true, true, true, true, false] rfl rfl (by kernel_rfl) (fun _ _ _ h => h) (Or.inr ⟨by rfl, rfl⟩) ?_ ?_
        rotate_left
        · simp only [Act.put, List.setIfInBounds_toArray, List.set_cons_zero, List.set_cons_succ, i64_w, i32_w]
          rfl
        refine pure_ (i := 23) (N := some 43) (v := ?_) (a' := ?_) #[true, true, true, true, true, true, true, true, true, true, true, true, true, true, true, true, true, true, true, true, true, true, true, true] rfl rfl (by kernel_rfl) (fun _ _ _ h => h) (Or.inl ⟨by rfl, ?_⟩) ?_ ?_
        rotate_left
        · intro w'
          go_simp
          with_reducible rfl
        rotate_left
        · simp only [Act.put, List.setIfInBounds_toArray, List.set_cons_zero, List.set_cons_succ, i64_w, i32_w]
          rfl
        refine done_ (by kernel_rfl) ?_

        go_wp2
        go_roundg gk1
        case measure => omega
        case rel => exact ⟨i + 1, congrArg (Value.int .i64) (by omega), ⟨by have := HK.out; omega⟩, ⟨by omega⟩, ⟨by rw [HS1.out]; exact HL.out⟩, ⟨by rw [HS1.out]; exact HD.out⟩, HN⟩
      · have b0 : (o != 0) = true := by simp [co]
        by_cases cl : a + la ≤ now
        · have b1 : decide (a + la ≤ now) = true := decide_eq_true cl
          have hlf : isLate now la s.D i = true := by rw [hil, b0]; simp; omega
          have HS1 := Aside0.mk (show pass1 now la E (i + 1) = ⟨s.D.set (i * 3 + 1) 0, s.lates ++ [(i : Int)]⟩ by rw [hs1]; unfold lateOne; rw [hlf]; rfl)
          clear co cl hil hlf hs1 hab
          go_upto_region 5 with (fail)
          clear hz0
          have HD_ := Aside0.mk (HD.out.drew)
          have HN_ := Aside0.mk (HN.out.drew)
          have HL_ := Aside0.mk (Kd.R_drew HL.out)
          clear HD HN HL
          have HD := HD_
          have HN := HN_
          have HL := HL_
          clear HD_ HN_ HL_
          refine start_ (n := 24) (S := fun w' => w'.cell? ⟨q.g, 1, none⟩ = some (.slice (some ⟨q.b1, 0, none⟩) n q.c1) ∧ w'.cell? ⟨q.b1, i, none⟩ = some (.int .u64 o) ∧ w'.cell? ⟨q.g, 2, none⟩ = some (.slice (some ⟨q.b2, 0, none⟩) n q.c2) ∧ w'.cell? ⟨q.b2, i, none⟩ = some (.int .u64 a) ∧ w'.cell? ⟨q.g, 4, none⟩ = some (.int .u64 la)) (ds := []) #[false, false, false, false, false, false, false, false, false, false, false, false, false, false, false, false, false, false, false, false, false, false, false, false] (by kernel_rfl) rfl rfl ⟨HD.out.c1, (HD.out.out ci).trans (by rw [HO.out]), HD.out.c2, (HD.out.asked ci).trans (by rw [HAA.out]), HD.out.c4⟩ (fun hHeld => ?_)
          generalize World.drew wr = w2 at HD HN HL hHeld ⊢
          refine pure_ (i := 0) (N := some 20) (v := ?_) (a' := ?_) #[true, false, false, false, false, false, false, false, false, false, false, false, false, false, false, false, false, false, false, false, false, false, false, false] rfl rfl (by kernel_rfl) (fun _ _ _ h => h) (Or.inl ⟨by rfl, ?_⟩) ?_ ?_
          rotate_left
          · intro w'
            go_simp
            with_reducible rfl
          rotate_left
          · simp only [Act.put, List.setIfInBounds_toArray, List.set_cons_zero, List.set_cons_succ, i64_w, i32_w]
            rfl
          refine pure_ (i := 1) (N := some 21) (v := ?_) (a' := ?_) #[true, true, false, false, false, false, false, false, false, false, false, false, false, false, false, false, false, false, false, false, false, false, false, false] rfl rfl (by kernel_rfl) (fun _ _ _ h => h) (Or.inl ⟨by rfl, ?_⟩) ?_ ?_
          rotate_left
          · intro w'
            go_simp
            with_reducible rfl
          rotate_left
          · simp only [Act.put, List.setIfInBounds_toArray, List.set_cons_zero, List.set_cons_succ, i64_w, i32_w]
            rfl
          refine pure_ (i := 2) (N := some 22) (v := ?_) (a' := ?_) #[true, true, true, false, false, false, false, false, false, false, false, false, false, false, false, false, false, false, false, false, false, false, false, false] rfl rfl (by kernel_rfl) (fun _ _ _ h => h) (Or.inl ⟨by rfl, ?_⟩) ?_ ?_
          rotate_left
          · intro w'
            go_simp
            with_reducible rfl
          rotate_left
          · simp only [Act.put, List.setIfInBounds_toArray, List.set_cons_zero, List.set_cons_succ, i64_w, i32_w]
            rfl
          refine pure_ (i := 4) (N := some 24) (v := ?_) (a' := ?_) #[true, true, true, false, true, false, false, false, false, false, false, false, false, false, false, false, false, false, false, false, false, false, false, false] rfl rfl (by kernel_rfl) (fun _ _ _ h => h) (Or.inl ⟨by rfl, ?_⟩) ?_ ?_
          rotate_left
          · intro w'
            go_simp
            with_reducible rfl
          rotate_left
          · simp only [Act.put, List.setIfInBounds_toArray, List.set_cons_zero, List.set_cons_succ, i64_w, i32_w]
            rfl
          refine take_ (i := 3) (N := some 23) (v := ?_) (a' := ?_) #[true, true, true, true, true, false, false, false, false, false, false, false, false, false, false, false, false, false, false, false, false, false, false, false] rfl rfl (by kernel_rfl) (fun _ _ _ h => h) (Or.inl ⟨by rfl, ?_⟩) hHeld ?_ ?_
          rotate_left
          · rintro w' ⟨s0, s1, s2, s3, s4⟩
            go_simp
            with_reducible rfl
          rotate_left
          · simp only [Act.put, List.setIfInBounds_toArray, List.set_cons_zero, List.set_cons_succ, i64_w, i32_w]
            rfl
          refine pure_ (i := 5) (N := some 25) (v := ?_) (a' := ?_) #[true, true, true, true, true, true, false, false, false, false, false, false, false, false, false, false, false, false, false, false, false, false, false, false] rfl rfl (by kernel_rfl) (fun _ _ _ h => h) (Or.inl ⟨by rfl, ?_⟩) ?_ ?_
          rotate_left
          · intro w'
            go_simp
            with_reducible rfl
          rotate_left
          · simp only [Act.put, List.setIfInBounds_toArray, List.set_cons_zero, List.set_cons_succ, i64_w, i32_w]
            rfl
          refine take_ (i := 6) (N := some 26) (v := ?_) (a' := ?_) #[true, true, true, true, true, true, true, false, false, false, false, false, false, false, false, false, false, false, false, false, false, false, false, false] rfl rfl (by kernel_rfl) (fun _ _ _ h => h) (Or.inl ⟨by rfl, ?_⟩) hHeld ?_ ?_
          rotate_left
          · rintro w' ⟨s0, s1, s2, s3, s4⟩
            go_simp
            with_reducible rfl
          rotate_left
          · simp only [Act.put, List.setIfInBounds_toArray, List.set_cons_zero, List.set_cons_succ, i64_w, i32_w]
            rfl
          refine pure_ (i := 7) (N := some 27) (v := ?_) (a' := ?_) #[true, true, true, true, true, true, true, true, false, false, false, false, false, false, false, false, false, false, false, false, false, false, false, false] rfl rfl (by kernel_rfl) (fun _ _ _ h => h) (Or.inl ⟨by rfl, ?_⟩) ?_ ?_
          rotate_left
          · intro w'
            go_simp
            with_reducible rfl
          rotate_left
          · simp only [Act.put, List.setIfInBounds_toArray, List.set_cons_zero, List.set_cons_succ, i64_w, i32_w]
            rfl
          refine pure_ (i := 8) (N := some 28) (v := ?_) (a' := ?_) #[true, true, true, true, true, true, true, true, true, false, false, false, false, false, false, false, false, false, false, false, false, false, false, false] rfl rfl (by kernel_rfl) (fun _ _ _ h => h) (Or.inl ⟨by rfl, ?_⟩) ?_ ?_
          rotate_left
          · intro w'
            go_simp
            with_reducible rfl
          rotate_left
          · simp only [Act.put, List.setIfInBounds_toArray, List.set_cons_zero, List.set_cons_succ, i64_w, i32_w]
            rfl
          refine pure_ (i := 9) (N := some 29) (v := ?_) (a' := ?_) #[true, true, true, true, true, true, true, true, true, true, false, false, false, false, false, false, false, false, false, false, false, false, false, false] rfl rfl (by kernel_rfl) (fun _ _ _ h => h) (Or.inl ⟨by rfl, ?_⟩) ?_ ?_
          rotate_left
          · intro w'
            go_simp
            with_reducible rfl
          rotate_left
          · simp only [Act.put, List.setIfInBounds_toArray, List.set_cons_zero, List.set_cons_succ, i64_w, i32_w]
            rfl
          refine pure_ (i := 10) (N := some 30) (v := ?_) (a' := ?_) #[true, true, true, true, true, true, true, true, true, true, true, false, false, false, false, false, false, false, false, false, false, false, false, false] rfl rfl (by kernel_rfl) (fun _ _ _ h => h) (Or.inl ⟨by rfl, ?_⟩) ?_ ?_
          rotate_left
          · intro w'
            go_simp
            with_reducible rfl
          rotate_left
          · simp only [Act.put, List.setIfInBounds_toArray, List.set_cons_zero, List.set_cons_succ, i64_w, i32_w]
            rfl
          refine pure_ (i := 11) (N := some 31) (v := ?_) (a' := ?_) #[true, true, true, true, true, true, true, true, true, true, true, true, false, false, false, false, false, false, false, false, false, false, false, false] rfl rfl (by kernel_rfl) (fun _ _ _ h => h) (Or.inl ⟨by rfl, ?_⟩) ?_ ?_
          rotate_left
          · intro w'
            go_simp
            with_reducible rfl
          rotate_left
          · simp only [Act.put, List.setIfInBounds_toArray, List.set_cons_zero, List.set_cons_succ, i64_w, i32_w]
            rfl
          refine pure_ (i := 13) (N := some 33) (v := ?_) (a' := ?_) #[true, true, true, true, true, true, true, true, true, true, true, true, false, true, false, false, false, false, false, false, false, false, false, false] rfl rfl (by kernel_rfl) (fun _ _ _ h => h) (Or.inl ⟨by rfl, ?_⟩) ?_ ?_
          rotate_left
          · intro w'
            go_simp
            with_reducible rfl
          rotate_left
          · simp only [Act.put, List.setIfInBounds_toArray, List.set_cons_zero, List.set_cons_succ, i64_w, i32_w]
            rfl
          refine pure_ (i := 16) (N := some 36) (v := ?_) (a' := ?_) #[true, true, true, true, true, true, true, true, true, true, true, true, false, true, false, false, true, false, false, false, false, false, false, false] rfl rfl (by kernel_rfl) (fun _ _ _ h => h) (Or.inl ⟨by rfl, ?_⟩) ?_ ?_
          rotate_left
          · intro w'
            go_simp
            with_reducible rfl
          rotate_left
          · simp only [Act.put, List.setIfInBounds_toArray, List.set_cons_zero, List.set_cons_succ, i64_w, i32_w]
            rfl
          refine pure_ (i := 17) (N := some 37) (v := ?_) (a' := ?_) #[true, true, true, true, true, true, true, true, true, true, true, true, false, true, false, false, true, true, false, false, false, false, false, false] rfl rfl (by kernel_rfl) (fun _ _ _ h => h) (Or.inl ⟨by rfl, ?_⟩) ?_ ?_
          rotate_left
          · intro w'
            go_simp
            with_reducible rfl
          rotate_left
          · simp only [Act.put, List.setIfInBounds_toArray, List.set_cons_zero, List.set_cons_succ, i64_w, i32_w]
            rfl
          refine pure_ (i := 18) (N := some 38) (v := ?_) (a' := ?_) #[true, true, true, true, true, true, true, true, true, true, true, true, false, true, false, false, true, true, true, false, false, false, false, false] rfl rfl (by kernel_rfl) (fun _ _ _ h => h) (Or.inl ⟨by rfl, ?_⟩) ?_ ?_
          rotate_left
          · intro w'
            go_simp
            with_reducible rfl
          rotate_left
          · simp only [Act.put, List.setIfInBounds_toArray, List.set_cons_zero, List.set_cons_succ, i64_w, i32_w]
            rfl
          refine pure_ (i := 21) (N := some 41) (v := ?_) (a' := ?_) #[true, true, true, true, true, true, true, true, true, true, true, true, false, true, false, false, true, true, true, false, false, true, false, false] rfl rfl (by kernel_rfl) (fun _ _ _ h => h) (Or.inl ⟨by rfl, ?_⟩) ?_ ?_
          rotate_left
          · intro w'
            go_simp
            with_reducible rfl
          rotate_left
          · simp only [Act.put, List.setIfInBounds_toArray, List.set_cons_zero, List.set_cons_succ, i64_w, i32_w]
            rfl
          refine take_ (i := 12) (N := some 32) (v := ?_) (a' := ?_) #[true, true, true, true, true, true, true, true, true, true, true, true, true, true, false, false, true, true, true, false, false, true, false, false] rfl rfl (by kernel_rfl) (fun _ _ _ h => h) (Or.inl ⟨by rfl, ?_⟩) hHeld ?_ ?_
          rotate_left
          · rintro w' ⟨s0, s1, s2, s3, s4⟩
            go_simp
            with_reducible rfl
          rotate_left
          · simp only [Act.put, List.setIfInBounds_toArray, List.set_cons_zero, List.set_cons_succ, i64_w, i32_w]
            rfl
          refine pure_ (i := 14) (N := some 34) (v := ?_) (a' := ?_) #[true, true, true, true, true, true, true, true, true, true, true, true, true, true, true, false, true, true, true, false, false, true, false, false] rfl rfl (by kernel_rfl) (fun _ _ _ h => h) (Or.inl ⟨by rfl, ?_⟩) ?_ ?_
          rotate_left
          · intro w'
            go_simp
            with_reducible rfl
          rotate_left
          · simp only [Act.put, List.setIfInBounds_toArray, List.set_cons_zero, List.set_cons_succ, i64_w, i32_w]
            rfl
          refine take_ (i := 15) (N := some 35) (v := ?_) (a' := ?_) #[true, true, true, true, true, true, true, true, true, true, true, true, true, true, true, true, true, true, true, false, false, true, false, false] rfl rfl (by kernel_rfl) (fun _ _ _ h => h) (Or.inl ⟨by rfl, ?_⟩) hHeld ?_ ?_
          rotate_left
          · rintro w' ⟨s0, s1, s2, s3, s4⟩
            go_simp
            with_reducible rfl
          rotate_left
          · simp only [Act.put, List.setIfInBounds_toArray, List.set_cons_zero, List.set_cons_succ, i64_w, i32_w]
            rfl
          refine take_ (i := 19) (N := some 39) (v := ?_) (a' := ?_) #[true, true, true, true, true, true, true, true, true, true, true, true, true, true, true, true, true, true, true, true, false, true, false, false] rfl rfl (by kernel_rfl) (fun _ _ _ h => h) (Or.inl ⟨by rfl, ?_⟩) hHeld ?_ ?_
          rotate_left
          · rintro w' ⟨s0, s1, s2, s3, s4⟩
            go_simp
            with_reducible rfl
          rotate_left
          · simp only [Act.put, List.setIfInBounds_toArray, List.set_cons_zero, List.set_cons_succ, i64_w, i32_w]
            rfl
          refine pure_ (i := 20) (N := some 40) (v := ?_) (a' := ?_) #[true, true, true, true, true, true, true, true, true, true, true, true, true, true, true, true, true, true, true, true, true, true, false, false] rfl rfl (by kernel_rfl) (fun _ _ _ h => h) (Or.inl ⟨by rfl, ?_⟩) ?_ ?_
          rotate_left
          · intro w'
            go_simp
            with_reducible rfl
          rotate_left
          · simp only [Act.put, List.setIfInBounds_toArray, List.set_cons_zero, List.set_cons_succ, i64_w, i32_w]
            rfl
          refine pure_ (i := 22) (N := some 42) (v := ?_) (a' := ?_) #[true, true, true, true, true, true, true, true, true, true, true, true, true, true, true, true, true, true, true, true, true, true, true, false] rfl rfl (by kernel_rfl) (fun _ _ _ h => h) (Or.inl ⟨by rfl, ?_⟩) ?_ ?_
          rotate_left
          · intro w'
            go_simp
            with_reducible rfl
          rotate_left
          · simp only [Act.put, List.setIfInBounds_toArray, List.set_cons_zero, List.set_cons_succ, i64_w, i32_w]
            rfl
          refine pure_ (i := 23) (N := some 43) (v := ?_) (a' := ?_) #[true, true, true, true, true, true, true, true, true, true, true, true, true, true, true, true, true, true, true, true, true, true, true, true] rfl rfl (by kernel_rfl) (fun _ _ _ h => h) (Or.inl ⟨by rfl, ?_⟩) ?_ ?_
          rotate_left
          · intro w'
            go_simp
            with_reducible rfl
          rotate_left
          · simp only [Act.put, List.setIfInBounds_toArray, List.set_cons_zero, List.set_cons_succ, i64_w, i32_w]
            rfl
          refine done_ (by kernel_rfl) ?_

          have hz1 := HD.out.c1
          have hy1 := HD.out.out ci
          have hf1 := HD.out.f1 i
          go_upto_region 7 with (fail)
          (try simp only [Act.put, List.setIfInBounds_toArray, List.set_cons_zero, List.set_cons_succ])
          generalize hst : World.setCell w2 ⟨q.b1, i, none⟩ (.int .u64 0) = w3
          have HL_ := Aside0.mk (hst ▸ R_setD HL.out HD.out ht3 (has_b1 q) _ _)
          have HN_ := Aside0.mk (hst ▸ HN.out.set_ (has_b1 q) _ _)
          have HD_ := Aside0.mk (hst ▸ HD.out.setOut ci 0)
          clear HL HN HD
          have HL := HL_
          have HN := HN_
          have HD := HD_
          clear HL_ HN_ HD_
          clear hst hz1 hy1 hf1
          go_wp2_with (first | ((with_reducible refine gate_builtin (b := .append) (xs := #[.tmp 50, .tmp 52]) rfl ?_); at_builtin; refine Kd.R_append (Kd.int .i64) (w0 := w3) w.heap.size rfl (.tmp 50) (.tmp 52) 58 3 (.int .i64 0) 8 rfl Try.underlying58 info3w rfl (by decide) (by omega) _ s.lates (i : Int) [.int .i64 (i : Int)] (fun _ => True) (fun _ => False) rfl rfl ?aP (fun _ hk => hk.elim) ?aF ?aO ?aB ?aS ?aL ?_; (case aP => exact rfl); (case aF => exact (fun _ _ => trivial)); (case aO => exact HL.out); (case aB => exact Below.refl _ _); (case aS => exact HN.out.size_); (case aL => have := HLL.out; omega); intro v1 w4 ho hb hg hat; have HT := Aside0.mk (HD.out.row_ne (Kd.R_typed HL.out) (by decide) (by decide)); have HBS := Aside0.mk (Kd.R_base HL.out); have HN_ := Aside0.mk (HN.out.grown hg (fun k hk => HBS.out k hk) HQL.out); have HD_ := Aside0.mk (HD.out.grown hg (fun k hk => HT.out k hk)); have HL_ := Aside0.mk (ho); clear HN HD HL; have HN := HN_; have HD := HD_; have HL := HL_; clear HN_ HD_ HL_; clear ho hb hg hat HT HBS))
          go_roundg gk1
          case measure => omega
          case rel => exact ⟨i + 1, congrArg (Value.int .i64) (by omega), ⟨by have := HK.out; omega⟩, ⟨by omega⟩, ⟨by rw [HS1.out]; exact HL.out⟩, ⟨by rw [HS1.out]; exact HD.out⟩, HN⟩
        · have b1 : decide (a + la ≤ now) = false := decide_eq_false cl
          have hlf : isLate now la s.D i = false := by rw [hil, b0]; simp; omega
          have HS1 := Aside0.mk (show pass1 now la E (i + 1) = ⟨s.D, s.lates⟩ by rw [hs1]; unfold lateOne; rw [hlf]; rfl)
          clear co cl hil hlf hs1 hab
          go_upto_region 5 with (fail)
          clear hz0
          have HD_ := Aside0.mk (HD.out.drew)
          have HN_ := Aside0.mk (HN.out.drew)
          have HL_ := Aside0.mk (Kd.R_drew HL.out)
          clear HD HN HL
          have HD := HD_
          have HN := HN_
          have HL := HL_
          clear HD_ HN_ HL_
          refine start_ (n := 24) (S := fun w' => w'.cell? ⟨q.g, 1, none⟩ = some (.slice (some ⟨q.b1, 0, none⟩) n q.c1) ∧ w'.cell? ⟨q.b1, i, none⟩ = some (.int .u64 o) ∧ w'.cell? ⟨q.g, 2, none⟩ = some (.slice (some ⟨q.b2, 0, none⟩) n q.c2) ∧ w'.cell? ⟨q.b2, i, none⟩ = some (.int .u64 a) ∧ w'.cell? ⟨q.g, 4, none⟩ = some (.int .u64 la)) (ds := []) #[false, false, false, false, false, false, false, false, false, false, false, false, false, false, false, false, false, false, false, false, false, false, false, false] (by kernel_rfl) rfl rfl ⟨HD.out.c1, (HD.out.out ci).trans (by rw [HO.out]), HD.out.c2, (HD.out.asked ci).trans (by rw [HAA.out]), HD.out.c4⟩ (fun hHeld => ?_)
          generalize World.drew wr = w2 at HD HN HL hHeld ⊢
          refine pure_ (i := 0) (N := some 20) (v := ?_) (a' := ?_) #[true, false, false, false, false, false, false, false, false, false, false, false, false, false, false, false, false, false, false, false, false, false, false, false] rfl rfl (by kernel_rfl) (fun _ _ _ h => h) (Or.inl ⟨by rfl, ?_⟩) ?_ ?_
          rotate_left
          · intro w'
            go_simp
            with_reducible rfl
          rotate_left
          · simp only [Act.put, List.setIfInBounds_toArray, List.set_cons_zero, List.set_cons_succ, i64_w, i32_w]
            rfl
          refine pure_ (i := 1) (N := some 21) (v := ?_) (a' := ?_) #[true, true, false, false, false, false, false, false, false, false, false, false, false, false, false, false, false, false, false, false, false, false, false, false] rfl rfl (by kernel_rfl) (fun _ _ _ h => h) (Or.inl ⟨by rfl, ?_⟩) ?_ ?_
          rotate_left
          · intro w'
            go_simp
            with_reducible rfl
          rotate_left
          · simp only [Act.put, List.setIfInBounds_toArray, List.set_cons_zero, List.set_cons_succ, i64_w, i32_w]
            rfl
          refine pure_ (i := 2) (N := some 22) (v := ?_) (a' := ?_) #[true, true, true, false, false, false, false, false, false, false, false, false, false, false, false, false, false, false, false, false, false, false, false, false] rfl rfl (by kernel_rfl) (fun _ _ _ h => h) (Or.inl ⟨by rfl, ?_⟩) ?_ ?_
          rotate_left
          · intro w'
            go_simp
            with_reducible rfl
          rotate_left
          · simp only [Act.put, List.setIfInBounds_toArray, List.set_cons_zero, List.set_cons_succ, i64_w, i32_w]
            rfl
          refine pure_ (i := 4) (N := some 24) (v := ?_) (a' := ?_) #[true, true, true, false, true, false, false, false, false, false, false, false, false, false, false, false, false, false, false, false, false, false, false, false] rfl rfl (by kernel_rfl) (fun _ _ _ h => h) (Or.inl ⟨by rfl, ?_⟩) ?_ ?_
          rotate_left
          · intro w'
            go_simp
            with_reducible rfl
          rotate_left
          · simp only [Act.put, List.setIfInBounds_toArray, List.set_cons_zero, List.set_cons_succ, i64_w, i32_w]
            rfl
          refine take_ (i := 3) (N := some 23) (v := ?_) (a' := ?_) #[true, true, true, true, true, false, false, false, false, false, false, false, false, false, false, false, false, false, false, false, false, false, false, false] rfl rfl (by kernel_rfl) (fun _ _ _ h => h) (Or.inl ⟨by rfl, ?_⟩) hHeld ?_ ?_
          rotate_left
          · rintro w' ⟨s0, s1, s2, s3, s4⟩
            go_simp
            with_reducible rfl
          rotate_left
          · simp only [Act.put, List.setIfInBounds_toArray, List.set_cons_zero, List.set_cons_succ, i64_w, i32_w]
            rfl
          refine pure_ (i := 5) (N := some 25) (v := ?_) (a' := ?_) #[true, true, true, true, true, true, false, false, false, false, false, false, false, false, false, false, false, false, false, false, false, false, false, false] rfl rfl (by kernel_rfl) (fun _ _ _ h => h) (Or.inl ⟨by rfl, ?_⟩) ?_ ?_
          rotate_left
          · intro w'
            go_simp
            with_reducible rfl
          rotate_left
          · simp only [Act.put, List.setIfInBounds_toArray, List.set_cons_zero, List.set_cons_succ, i64_w, i32_w]
            rfl
          refine take_ (i := 6) (N := some 26) (v := ?_) (a' := ?_) #[true, true, true, true, true, true, true, false, false, false, false, false, false, false, false, false, false, false, false, false, false, false, false, false] rfl rfl (by kernel_rfl) (fun _ _ _ h => h) (Or.inl ⟨by rfl, ?_⟩) hHeld ?_ ?_
          rotate_left
          · rintro w' ⟨s0, s1, s2, s3, s4⟩
            go_simp
            with_reducible rfl
          rotate_left
          · simp only [Act.put, List.setIfInBounds_toArray, List.set_cons_zero, List.set_cons_succ, i64_w, i32_w]
            rfl
          refine pure_ (i := 7) (N := some 27) (v := ?_) (a' := ?_) #[true, true, true, true, true, true, true, true, false, false, false, false, false, false, false, false, false, false, false, false, false, false, false, false] rfl rfl (by kernel_rfl) (fun _ _ _ h => h) (Or.inl ⟨by rfl, ?_⟩) ?_ ?_
          rotate_left
          · intro w'
            go_simp
            with_reducible rfl
          rotate_left
          · simp only [Act.put, List.setIfInBounds_toArray, List.set_cons_zero, List.set_cons_succ, i64_w, i32_w]
            rfl
          refine pure_ (i := 8) (N := some 28) (v := ?_) (a' := ?_) #[true, true, true, true, true, true, true, true, true, false, false, false, false, false, false, false, false, false, false, false, false, false, false, false] rfl rfl (by kernel_rfl) (fun _ _ _ h => h) (Or.inl ⟨by rfl, ?_⟩) ?_ ?_
          rotate_left
          · intro w'
            go_simp
            with_reducible rfl
          rotate_left
          · simp only [Act.put, List.setIfInBounds_toArray, List.set_cons_zero, List.set_cons_succ, i64_w, i32_w]
            rfl
          refine pure_ (i := 9) (N := some 29) (v := ?_) (a' := ?_) #[true, true, true, true, true, true, true, true, true, true, false, false, false, false, false, false, false, false, false, false, false, false, false, false] rfl rfl (by kernel_rfl) (fun _ _ _ h => h) (Or.inl ⟨by rfl, ?_⟩) ?_ ?_
          rotate_left
          · intro w'
            go_simp
            with_reducible rfl
          rotate_left
          · simp only [Act.put, List.setIfInBounds_toArray, List.set_cons_zero, List.set_cons_succ, i64_w, i32_w]
            rfl
          refine pure_ (i := 10) (N := some 30) (v := ?_) (a' := ?_) #[true, true, true, true, true, true, true, true, true, true, true, false, false, false, false, false, false, false, false, false, false, false, false, false] rfl rfl (by kernel_rfl) (fun _ _ _ h => h) (Or.inl ⟨by rfl, ?_⟩) ?_ ?_
          rotate_left
          · intro w'
            go_simp
            with_reducible rfl
          rotate_left
          · simp only [Act.put, List.setIfInBounds_toArray, List.set_cons_zero, List.set_cons_succ, i64_w, i32_w]
            rfl
          refine pure_ (i := 11) (N := some 31) (v := ?_) (a' := ?_) #[true, true, true, true, true, true, true, true, true, true, true, true, false, false, false, false, false, false, false, false, false, false, false, false] rfl rfl (by kernel_rfl) (fun _ _ _ h => h) (Or.inl ⟨by rfl, ?_⟩) ?_ ?_
          rotate_left
          · intro w'
            go_simp
            with_reducible rfl
          rotate_left
          · simp only [Act.put, List.setIfInBounds_toArray, List.set_cons_zero, List.set_cons_succ, i64_w, i32_w]
            rfl
          refine pure_ (i := 13) (N := some 33) (v := ?_) (a' := ?_) #[true, true, true, true, true, true, true, true, true, true, true, true, false, true, false, false, false, false, false, false, false, false, false, false] rfl rfl (by kernel_rfl) (fun _ _ _ h => h) (Or.inl ⟨by rfl, ?_⟩) ?_ ?_
          rotate_left
          · intro w'
            go_simp
            with_reducible rfl
          rotate_left
          · simp only [Act.put, List.setIfInBounds_toArray, List.set_cons_zero, List.set_cons_succ, i64_w, i32_w]
            rfl
          refine pure_ (i := 16) (N := some 36) (v := ?_) (a' := ?_) #[true, true, true, true, true, true, true, true, true, true, true, true, false, true, false, false, true, false, false, false, false, false, false, false] rfl rfl (by kernel_rfl) (fun _ _ _ h => h) (Or.inl ⟨by rfl, ?_⟩) ?_ ?_
          rotate_left
          · intro w'
            go_simp
            with_reducible rfl
          rotate_left
          · simp only [Act.put, List.setIfInBounds_toArray, List.set_cons_zero, List.set_cons_succ, i64_w, i32_w]
            rfl
          refine pure_ (i := 17) (N := some 37) (v := ?_) (a' := ?_) #[true, true, true, true, true, true, true, true, true, true, true, true, false, true, false, false, true, true, false, false, false, false, false, false] rfl rfl (by kernel_rfl) (fun _ _ _ h => h) (Or.inl ⟨by rfl, ?_⟩) ?_ ?_
          rotate_left
          · intro w'
            go_simp
            with_reducible rfl
          rotate_left
          · simp only [Act.put, List.setIfInBounds_toArray, List.set_cons_zero, List.set_cons_succ, i64_w, i32_w]
            rfl
          refine pure_ (i := 18) (N := some 38) (v := ?_) (a' := ?_) #[true, true, true, true, true, true, true, true, true, true, true, true, false, true, false, false, true, true, true, false, false, false, false, false] rfl rfl (by kernel_rfl) (fun _ _ _ h => h) (Or.inl ⟨by rfl, ?_⟩) ?_ ?_
          rotate_left
          · intro w'
            go_simp
            with_reducible rfl
          rotate_left
          · simp only [Act.put, List.setIfInBounds_toArray, List.set_cons_zero, List.set_cons_succ, i64_w, i32_w]
            rfl
          refine pure_ (i := 21) (N := some 41) (v := ?_) (a' := ?_) #[true, true, true, true, true, true, true, true, true, true, true, true, false, true, false, false, true, true, true, false, false, true, false, false] rfl rfl (by kernel_rfl) (fun _ _ _ h => h) (Or.inl ⟨by rfl, ?_⟩) ?_ ?_
          rotate_left
          · intro w'
            go_simp
            with_reducible rfl
          rotate_left
          · simp only [Act.put, List.setIfInBounds_toArray, List.set_cons_zero, List.set_cons_succ, i64_w, i32_w]
            rfl
          refine take_ (i := 12) (N := some 32) (v := ?_) (a' := ?_) #[true, true, true, true, true, true, true, true, true, true, true, true, true, true, false, false, true, true, true, false, false, true, false, false] rfl rfl (by kernel_rfl) (fun _ _ _ h => h) (Or.inl ⟨by rfl, ?_⟩) hHeld ?_ ?_
          rotate_left
          · rintro w' ⟨s0, s1, s2, s3, s4⟩
            go_simp
            with_reducible rfl
          rotate_left
          · simp only [Act.put, List.setIfInBounds_toArray, List.set_cons_zero, List.set_cons_succ, i64_w, i32_w]
            rfl
          refine pure_ (i := 14) (N := some 34) (v := ?_) (a' := ?_) #[true, true, true, true, true, true, true, true, true, true, true, true, true, true, true, false, true, true, true, false, false, true, false, false] rfl rfl (by kernel_rfl) (fun _ _ _ h => h) (Or.inl ⟨by rfl, ?_⟩) ?_ ?_
          rotate_left
          · intro w'
            go_simp
            with_reducible rfl
          rotate_left
          · simp only [Act.put, List.setIfInBounds_toArray, List.set_cons_zero, List.set_cons_succ, i64_w, i32_w]
            rfl
          refine take_ (i := 15) (N := some 35) (v := ?_) (a' := ?_) #[true, true, true, true, true, true, true, true, true, true, true, true, true, true, true, true, true, true, true, false, false, true, false, false] rfl rfl (by kernel_rfl) (fun _ _ _ h => h) (Or.inl ⟨by rfl, ?_⟩) hHeld ?_ ?_
          rotate_left
          · rintro w' ⟨s0, s1, s2, s3, s4⟩
            go_simp
            with_reducible rfl
          rotate_left
          · simp only [Act.put, List.setIfInBounds_toArray, List.set_cons_zero, List.set_cons_succ, i64_w, i32_w]
            rfl
          refine take_ (i := 19) (N := some 39) (v := ?_) (a' := ?_) #[true, true, true, true, true, true, true, true, true, true, true, true, true, true, true, true, true, true, true, true, false, true, false, false] rfl rfl (by kernel_rfl) (fun _ _ _ h => h) (Or.inl ⟨by rfl, ?_⟩) hHeld ?_ ?_
          rotate_left
          · rintro w' ⟨s0, s1, s2, s3, s4⟩
            go_simp
            with_reducible rfl
          rotate_left
          · simp only [Act.put, List.setIfInBounds_toArray, List.set_cons_zero, List.set_cons_succ, i64_w, i32_w]
            rfl
          refine pure_ (i := 20) (N := some 40) (v := ?_) (a' := ?_) #[true, true, true, true, true, true, true, true, true, true, true, true, true, true, true, true, true, true, true, true, true, true, false, false] rfl rfl (by kernel_rfl) (fun _ _ _ h => h) (Or.inl ⟨by rfl, ?_⟩) ?_ ?_
          rotate_left
          · intro w'
            go_simp
            with_reducible rfl
          rotate_left
          · simp only [Act.put, List.setIfInBounds_toArray, List.set_cons_zero, List.set_cons_succ, i64_w, i32_w]
            rfl
          refine pure_ (i := 22) (N := some 42) (v := ?_) (a' := ?_) #[true, true, true, true, true, true, true, true, true, true, true, true, true, true, true, true, true, true, true, true, true, true, true, false] rfl rfl (by kernel_rfl) (fun _ _ _ h => h) (Or.inl ⟨by rfl, ?_⟩) ?_ ?_
          rotate_left
          · intro w'
            go_simp
            with_reducible rfl
          rotate_left
          · simp only [Act.put, List.setIfInBounds_toArray, List.set_cons_zero, List.set_cons_succ, i64_w, i32_w]
            rfl
          refine pure_ (i := 23) (N := some 43) (v := ?_) (a' := ?_) #[true, true, true, true, true, true, true, true, true, true, true, true, true, true, true, true, true, true, true, true, true, true, true, true] rfl rfl (by kernel_rfl) (fun _ _ _ h => h) (Or.inl ⟨by rfl, ?_⟩) ?_ ?_
          rotate_left
          · intro w'
            go_simp
            with_reducible rfl
          rotate_left
          · simp only [Act.put, List.setIfInBounds_toArray, List.set_cons_zero, List.set_cons_succ, i64_w, i32_w]
            rfl
          refine done_ (by kernel_rfl) ?_

          go_wp2
          go_roundg gk1
          case measure => omega
          case rel => exact ⟨i + 1, congrArg (Value.int .i64) (by omega), ⟨by have := HK.out; omega⟩, ⟨by omega⟩, ⟨by rw [HS1.out]; exact HL.out⟩, ⟨by rw [HS1.out]; exact HD.out⟩, HN⟩
    · have c1 : decide ((i : Int) < (n : Int)) = false := decide_eq_false (by omega)
      have c1n : decide (i < n) = false := decide_eq_false ci
      have hin : i = n := by have := HLI.out; omega
      have hz0 := HD.out.c0
      subst hin
      obtain ⟨E1, hE1⟩ : ∃ E1, (pass1 now la E i).D = E1 := ⟨_, rfl⟩
      rw [hE1] at HD
      have HEE := Aside0.mk hE1
      have HE1 := Aside0.mk (show E1.length = 18 by rw [← hE1, pass1_len]; exact HEL.out)
      clear hE1 ci
      go_wp2
      clear hz0
      go_loopg [8, 9] (i + 1) (fun kq v8 v9 w' => ∃ (j : Nat), v9 = .int .i64 (j : Int) ∧ Aside0 (kq + j = i + 1) ∧ Aside0 (j ≤ i) ∧ Aside0 (Kd.R kA 115 w' w.heap.size (fun _ => True) v8 (pass2 now ev E1 ls j).asks) ∧ Aside0 (Kd.R (Kd.int .i64) 3 w' w.heap.size (fun _ => True) u6 (pass1 now la E i).lates) ∧ Aside0 (IsD w' q i (pass2 now ev E1 ls j).D ev la (pass2 now ev E1 ls j).ls) ∧ Aside0 (NearD w w' q))
      case atStart => exact ⟨0, rfl, ⟨by omega⟩, ⟨by omega⟩, ⟨R_empty115 _ _ HN.out.size_⟩, ⟨Kd.R_alloc HL.out _⟩, ⟨HD.out.below (below_alloc (Below.refl _ _) _)⟩, ⟨HN.out.below (below_alloc (Below.refl _ _) _)⟩⟩
      case round =>
        clear HL HD HN
        obtain ⟨j, rfl, HKJ, HJL, HA, HL, HD, HN⟩ := hrel
        by_cases cj : j < i
        · obtain ⟨gk1, rfl⟩ : ∃ gk', gk = gk' + 1 := ⟨gk - 1, by have := HKJ.out; omega⟩
          have c2 : decide ((j : Int) < (i : Int)) = true := decide_eq_true (by omega)
          have c2n : decide (j < i) = true := decide_eq_true cj
          have p1 : 0 ≤ (j : Int) := by omega
          have p2 : (j : Int) < (i : Int) := by omega
          have hwj : wrap64 ((j : Int) + 1) = ((j + 1 : Nat) : Int) := by unfold wrap64; omega
          have hpa := pass2_alen (now := now) (ev := ev) (D := E1) (ls := ls) j
          have HAL := Aside0.mk (show (pass2 now ev E1 ls j).asks.length ≤ 6 by omega)
          have HLB := Aside0.mk (show 0 ≤ (pass2 now ev E1 ls j).ls ∧ (pass2 now ev E1 ls j).ls ≤ 1000000000006 by have := HLS.out; omega)
          have hs2 : pass2 now ev E1 ls (j + 1) = if aB now (pass2 now ev E1 ls j).D j then ⟨askD now ev (pass2 now ev E1 ls j).ls (pass2 now ev E1 ls j).D j, (pass2 now ev E1 ls j).ls + 1, (pass2 now ev E1 ls j).asks ++ [((j : Int), (pass2 now ev E1 ls j).ls + 1)]⟩ else pass2 now ev E1 ls j := rfl
          obtain ⟨s, hs⟩ : ∃ s, pass2 now ev E1 ls j = s := ⟨_, rfl⟩
          rw [hs] at HAL HLB hs2 HA HD
          clear hs hpa
          have hab : aB now s.D j = (decide (nd s.D (j * 3) ≤ now) && (nd s.D (j * 3 + 1) == 0)) := rfl
          obtain ⟨d, hd⟩ : ∃ d, nd s.D (j * 3) = d := ⟨_, rfl⟩
          obtain ⟨o, ho⟩ : ∃ o, nd s.D (j * 3 + 1) = o := ⟨_, rfl⟩
          rw [hd, ho] at hab
          have hz0 := HD.out.c0
          have hz1 := HD.out.c1
          have hy0 : wr.cell? ⟨q.b0, j, none⟩ = some (.int .u64 d) := by rw [← hd]; exact HD.out.due cj
          have hy1 : wr.cell? ⟨q.b1, j, none⟩ = some (.int .u64 o) := by rw [← ho]; exact HD.out.out cj
          clear hd ho
          by_cases cd : d ≤ now
          · have b0 : decide (d ≤ now) = true := decide_eq_true cd
            by_cases co : o = 0
            · have b1 : (o == 0) = true := beq_iff_eq.mpr co
              have HS2 := Aside0.mk (show pass2 now ev E1 ls (j + 1) = ⟨askD now ev s.ls s.D j, s.ls + 1, s.asks ++ [((j : Int), s.ls + 1)]⟩ by rw [hs2, if_pos (by rw [hab, b0, b1]; rfl)])
              clear cd co hab hs2
              have hz5 := HD.out.c5
              have hf5 := HD.out.f5
              have hw1 : IntKind.u64.wrap (s.ls + 1) = s.ls + 1 := by have := HLB.out; rw [IntKind.wrap_u64]; omega
              have hw2 : IntKind.u64.wrap (now + ev) = now + ev := by have := HNOW.out; have := HEV.out; rw [IntKind.wrap_u64]; omega
              go_upto_region 14 with (fail)
              (try simp only [Act.put, List.setIfInBounds_toArray, List.set_cons_zero, List.set_cons_succ])
              generalize hst : World.setCell wr ⟨q.g, 5, none⟩ (.int .u64 (s.ls + 1)) = w2
              have HL_ := Aside0.mk (hst ▸ R_setD HL.out HD.out ht3 (has_g q) _ _)
              have HA_ := Aside0.mk (hst ▸ R_setD HA.out HD.out ht115 (has_g q) _ _)
              have HN_ := Aside0.mk (hst ▸ HN.out.set_ (has_g q) _ _)
              have HD_ := Aside0.mk (hst ▸ HD.out.setLs (s.ls + 1))
              clear HL HA HN HD
              have HL := HL_
              have HA := HA_
              have HN := HN_
              have HD := HD_
              clear HL_ HA_ HN_ HD_
              clear hst hz0 hz1 hy0 hy1 hz5 hf5
              have HD_ := Aside0.mk (HD.out.drew)
              have HN_ := Aside0.mk (HN.out.drew)
              have HL_ := Aside0.mk (Kd.R_drew HL.out)
              have HA_ := Aside0.mk (Kd.R_drew HA.out)
              clear HD HN HL HA
              have HD := HD_
              have HN := HN_
              have HL := HL_
              have HA := HA_
              clear HD_ HN_ HL_ HA_
              refine start_ (n := 11) (S := fun w' => w'.cell? ⟨q.g, 1, none⟩ = some (.slice (some ⟨q.b1, 0, none⟩) i q.c1) ∧ w'.cell? ⟨q.g, 5, none⟩ = some (.int .u64 (s.ls + 1))) (ds := [10]) #[false, false, false, false, false, false, false, false, false, false, false] (by kernel_rfl) rfl rfl ⟨HD.out.c1, HD.out.c5⟩ (fun hHeld => ?_)
              generalize World.drew w2 = w3 at HD HN HL HA hHeld ⊢
              refine pure_ (i := 0) (N := some 90) (v := ?_) (a' := ?_) #[true, false, false, false, false, false, false, false, false, false, false] rfl rfl (by kernel_rfl) (fun _ _ _ h => h) (Or.inl ⟨by rfl, ?_⟩) ?_ ?_
              rotate_left
              · intro w'
                go_simp
                with_reducible rfl
              rotate_left
              · simp only [Act.put, List.setIfInBounds_toArray, List.set_cons_zero, List.set_cons_succ, i64_w, i32_w]
                rfl
              refine pure_ (i := 1) (N := some 91) (v := ?_) (a' := ?_) #[true, true, false, false, false, false, false, false, false, false, false] rfl rfl (by kernel_rfl) (fun _ _ _ h => h) (Or.inl ⟨by rfl, ?_⟩) ?_ ?_
              rotate_left
              · intro w'
                go_simp
                with_reducible rfl
              rotate_left
              · simp only [Act.put, List.setIfInBounds_toArray, List.set_cons_zero, List.set_cons_succ, i64_w, i32_w]
                rfl
              refine pure_ (i := 2) (N := some 92) (v := ?_) (a' := ?_) #[true, true, true, false, false, false, false, false, false, false, false] rfl rfl (by kernel_rfl) (fun _ _ _ h => h) (Or.inl ⟨by rfl, ?_⟩) ?_ ?_
              rotate_left
              · intro w'
                go_simp
                with_reducible rfl
              rotate_left
              · simp only [Act.put, List.setIfInBounds_toArray, List.set_cons_zero, List.set_cons_succ, i64_w, i32_w]
                rfl
              refine pure_ (i := 4) (N := some 94) (v := ?_) (a' := ?_) #[true, true, true, false, true, false, false, false, false, false, false] rfl rfl (by kernel_rfl) (fun _ _ _ h => h) (Or.inl ⟨by rfl, ?_⟩) ?_ ?_
              rotate_left
              · intro w'
                go_simp
                with_reducible rfl
              rotate_left
              · simp only [Act.put, List.setIfInBounds_toArray, List.set_cons_zero, List.set_cons_succ, i64_w, i32_w]
                rfl
              refine pure_ (i := 5) (N := some 95) (v := ?_) (a' := ?_) #[true, true, true, false, true, true, false, false, false, false, false] rfl rfl (by kernel_rfl) (fun _ _ _ h => h) (Or.inl ⟨by rfl, ?_⟩) ?_ ?_
              rotate_left
              · intro w'
                go_simp
                with_reducible rfl
              rotate_left
              · simp only [Act.put, List.setIfInBounds_toArray, List.set_cons_zero, List.set_cons_succ, i64_w, i32_w]
                rfl
              refine pure_ (i := 6) (N := some 96) (v := ?_) (a' := ?_) #[true, true, true, false, true, true, true, false, false, false, false] rfl rfl (by kernel_rfl) (fun _ _ _ h => h) (Or.inl ⟨by rfl, ?_⟩) ?_ ?_
              rotate_left
              · intro w'
                go_simp
                with_reducible rfl
              rotate_left
              · simp only [Act.put, List.setIfInBounds_toArray, List.set_cons_zero, List.set_cons_succ, i64_w, i32_w]
                rfl
              refine pure_ (i := 7) (N := some 97) (v := ?_) (a' := ?_) #[true, true, true, false, true, true, true, true, false, false, false] rfl rfl (by kernel_rfl) (fun _ _ _ h => h) (Or.inl ⟨by rfl, ?_⟩) ?_ ?_
              rotate_left
              · intro w'
                go_simp
                with_reducible rfl
              rotate_left
              · simp only [Act.put, List.setIfInBounds_toArray, List.set_cons_zero, List.set_cons_succ, i64_w, i32_w]
                rfl
              refine take_ (i := 3) (N := some 93) (v := ?_) (a' := ?_) #[true, true, true, true, true, true, true, true, false, false, false] rfl rfl (by kernel_rfl) (fun _ _ _ h => h) (Or.inl ⟨by rfl, ?_⟩) hHeld ?_ ?_
              rotate_left
              · rintro w' ⟨s0, s1⟩
                go_simp
                with_reducible rfl
              rotate_left
              · simp only [Act.put, List.setIfInBounds_toArray, List.set_cons_zero, List.set_cons_succ, i64_w, i32_w]
                rfl
              refine take_ (i := 8) (N := some 98) (v := ?_) (a' := ?_) #[true, true, true, true, true, true, true, true, true, false, false] rfl rfl (by kernel_rfl) (fun _ _ _ h => h) (Or.inl ⟨by rfl, ?_⟩) hHeld ?_ ?_
              rotate_left
              · rintro w' ⟨s0, s1⟩
                go_simp
                with_reducible rfl
              rotate_left
              · simp only [Act.put, List.setIfInBounds_toArray, List.set_cons_zero, List.set_cons_succ, i64_w, i32_w]
                rfl
              refine pure_ (i := 9) (N := some 99) (v := ?_) (a' := ?_) #[true, true, true, true, true, true, true, true, true, true, false] rfl rfl (by kernel_rfl) (fun _ _ _ h => h) (Or.inl ⟨by rfl, ?_⟩) ?_ ?_
              rotate_left
              · intro w'
                go_simp
                with_reducible rfl
              rotate_left
              · simp only [Act.put, List.setIfInBounds_toArray, List.set_cons_zero, List.set_cons_succ, i64_w, i32_w]
                rfl
              refine last_ (i := 10) (N := none) #[true, true, true, true, true, true, true, true, true, true, true] rfl rfl (by kernel_rfl) (by decide) (fun K hK => ?_)
              have hy1 := HD.out.out cj
              have hf1 := HD.out.f1 j
              refine skip_ (w1 := ?_) (by rfl) rfl ?_ ?_
              rotate_left
              · go_simp
                rfl
              generalize hst : World.setCell w3 ⟨q.b1, j, none⟩ (.int .u64 (s.ls + 1)) = w4 at ⊢
              have HL_ := Aside0.mk (hst ▸ R_setD HL.out HD.out ht3 (has_b1 q) _ _)
              have HA_ := Aside0.mk (hst ▸ R_setD HA.out HD.out ht115 (has_b1 q) _ _)
              have HN_ := Aside0.mk (hst ▸ HN.out.set_ (has_b1 q) _ _)
              have HD_ := Aside0.mk (hst ▸ HD.out.setOut cj (s.ls + 1))
              clear HL HA HN HD
              have HL := HL_
              have HA := HA_
              have HN := HN_
              have HD := HD_
              clear HL_ HA_ HN_ HD_
              clear hst
              refine hK.out _ _ ?_
              clear hK K
              refine done_ (by kernel_rfl) ?_

              have hz2 := HD.out.c2
              have hy2 := HD.out.asked cj
              have hf2 := HD.out.f2 j
              go_upto_region 16 with (fail)
              (try simp only [Act.put, List.setIfInBounds_toArray, List.set_cons_zero, List.set_cons_succ])
              generalize hst : World.setCell w4 ⟨q.b2, j, none⟩ (.int .u64 now) = w5
              have HL_ := Aside0.mk (hst ▸ R_setD HL.out HD.out ht3 (has_b2 q) _ _)
              have HA_ := Aside0.mk (hst ▸ R_setD HA.out HD.out ht115 (has_b2 q) _ _)
              have HN_ := Aside0.mk (hst ▸ HN.out.set_ (has_b2 q) _ _)
              have HD_ := Aside0.mk (hst ▸ HD.out.setAsk cj now)
              clear HL HA HN HD
              have HL := HL_
              have HA := HA_
              have HN := HN_
              have HD := HD_
              clear HL_ HA_ HN_ HD_
              clear hst hz2 hy2 hf2
              have HD_ := Aside0.mk (HD.out.drew)
              have HN_ := Aside0.mk (HN.out.drew)
              have HL_ := Aside0.mk (Kd.R_drew HL.out)
              have HA_ := Aside0.mk (Kd.R_drew HA.out)
              clear HD HN HL HA
              have HD := HD_
              have HN := HN_
              have HL := HL_
              have HA := HA_
              clear HD_ HN_ HL_ HA_
              refine start_ (n := 13) (S := fun w' => w'.cell? ⟨q.g, 0, none⟩ = some (.slice (some ⟨q.b0, 0, none⟩) i q.c0) ∧ w'.cell? ⟨q.g, 3, none⟩ = some (.int .u64 ev)) (ds := [12]) #[false, false, false, false, false, false, false, false, false, false, false, false, false] (by kernel_rfl) rfl rfl ⟨HD.out.c0, HD.out.c3⟩ (fun hHeld => ?_)
              generalize World.drew w5 = w6 at HD HN HL HA hHeld ⊢
              refine pure_ (i := 0) (N := some 107) (v := ?_) (a' := ?_) #[true, false, false, false, false, false, false, false, false, false, false, false, false] rfl rfl (by kernel_rfl) (fun _ _ _ h => h) (Or.inl ⟨by rfl, ?_⟩) ?_ ?_
              rotate_left
              · intro w'
                go_simp
                with_reducible rfl
              rotate_left
              · simp only [Act.put, List.setIfInBounds_toArray, List.set_cons_zero, List.set_cons_succ, i64_w, i32_w]
                rfl
              refine pure_ (i := 1) (N := some 108) (v := ?_) (a' := ?_) #[true, true, false, false, false, false, false, false, false, false, false, false, false] rfl rfl (by kernel_rfl) (fun _ _ _ h => h) (Or.inl ⟨by rfl, ?_⟩) ?_ ?_
              rotate_left
              · intro w'
                go_simp
                with_reducible rfl
              rotate_left
              · simp only [Act.put, List.setIfInBounds_toArray, List.set_cons_zero, List.set_cons_succ, i64_w, i32_w]
                rfl
              refine pure_ (i := 2) (N := some 109) (v := ?_) (a' := ?_) #[true, true, true, false, false, false, false, false, false, false, false, false, false] rfl rfl (by kernel_rfl) (fun _ _ _ h => h) (Or.inl ⟨by rfl, ?_⟩) ?_ ?_
              rotate_left
              · intro w'
                go_simp
                with_reducible rfl
              rotate_left
              · simp only [Act.put, List.setIfInBounds_toArray, List.set_cons_zero, List.set_cons_succ, i64_w, i32_w]
                rfl
              refine pure_ (i := 4) (N := some 111) (v := ?_) (a' := ?_) #[true, true, true, false, true, false, false, false, false, false, false, false, false] rfl rfl (by kernel_rfl) (fun _ _ _ h => h) (Or.inl ⟨by rfl, ?_⟩) ?_ ?_
              rotate_left
              · intro w'
                go_simp
                with_reducible rfl
              rotate_left
              · simp only [Act.put, List.setIfInBounds_toArray, List.set_cons_zero, List.set_cons_succ, i64_w, i32_w]
                rfl
              refine pure_ (i := 5) (N := some 112) (v := ?_) (a' := ?_) #[true, true, true, false, true, true, false, false, false, false, false, false, false] rfl rfl (by kernel_rfl) (fun _ _ _ h => h) (Or.inl ⟨by rfl, ?_⟩) ?_ ?_
              rotate_left
              · intro w'
                go_simp
                with_reducible rfl
              rotate_left
              · simp only [Act.put, List.setIfInBounds_toArray, List.set_cons_zero, List.set_cons_succ, i64_w, i32_w]
                rfl
              refine pure_ (i := 6) (N := some 113) (v := ?_) (a' := ?_) #[true, true, true, false, true, true, true, false, false, false, false, false, false] rfl rfl (by kernel_rfl) (fun _ _ _ h => h) (Or.inl ⟨by rfl, ?_⟩) ?_ ?_
              rotate_left
              · intro w'
                go_simp
                with_reducible rfl
              rotate_left
              · simp only [Act.put, List.setIfInBounds_toArray, List.set_cons_zero, List.set_cons_succ, i64_w, i32_w]
                rfl
              refine pure_ (i := 7) (N := some 114) (v := ?_) (a' := ?_) #[true, true, true, false, true, true, true, true, false, false, false, false, false] rfl rfl (by kernel_rfl) (fun _ _ _ h => h) (Or.inl ⟨by rfl, ?_⟩) ?_ ?_
              rotate_left
              · intro w'
                go_simp
                with_reducible rfl
              rotate_left
              · simp only [Act.put, List.setIfInBounds_toArray, List.set_cons_zero, List.set_cons_succ, i64_w, i32_w]
                rfl
              refine pure_ (i := 8) (N := some 115) (v := ?_) (a' := ?_) #[true, true, true, false, true, true, true, true, true, false, false, false, false] rfl rfl (by kernel_rfl) (fun _ _ _ h => h) (Or.inl ⟨by rfl, ?_⟩) ?_ ?_
              rotate_left
              · intro w'
                go_simp
                with_reducible rfl
              rotate_left
              · simp only [Act.put, List.setIfInBounds_toArray, List.set_cons_zero, List.set_cons_succ, i64_w, i32_w]
                rfl
              refine take_ (i := 3) (N := some 110) (v := ?_) (a' := ?_) #[true, true, true, true, true, true, true, true, true, false, false, false, false] rfl rfl (by kernel_rfl) (fun _ _ _ h => h) (Or.inl ⟨by rfl, ?_⟩) hHeld ?_ ?_
              rotate_left
              · rintro w' ⟨s0, s1⟩
                go_simp
                with_reducible rfl
              rotate_left
              · simp only [Act.put, List.setIfInBounds_toArray, List.set_cons_zero, List.set_cons_succ, i64_w, i32_w]
                rfl
              refine take_ (i := 9) (N := some 116) (v := ?_) (a' := ?_) #[true, true, true, true, true, true, true, true, true, true, false, false, false] rfl rfl (by kernel_rfl) (fun _ _ _ h => h) (Or.inl ⟨by rfl, ?_⟩) hHeld ?_ ?_
              rotate_left
              · rintro w' ⟨s0, s1⟩
                go_simp
                with_reducible rfl
              rotate_left
              · simp only [Act.put, List.setIfInBounds_toArray, List.set_cons_zero, List.set_cons_succ, i64_w, i32_w]
                rfl
              refine pure_ (i := 10) (N := some 117) (v := ?_) (a' := ?_) #[true, true, true, true, true, true, true, true, true, true, true, false, false] rfl rfl (by kernel_rfl) (fun _ _ _ h => h) (Or.inl ⟨by rfl, ?_⟩) ?_ ?_
              rotate_left
              · intro w'
                go_simp
                with_reducible rfl
              rotate_left
              · simp only [Act.put, List.setIfInBounds_toArray, List.set_cons_zero, List.set_cons_succ, i64_w, i32_w]
                rfl
              refine pure_ (i := 11) (N := some 118) (v := ?_) (a' := ?_) #[true, true, true, true, true, true, true, true, true, true, true, true, false] rfl rfl (by kernel_rfl) (fun _ _ _ h => h) (Or.inl ⟨by rfl, ?_⟩) ?_ ?_
              rotate_left
              · intro w'
                go_simp
                with_reducible rfl
              rotate_left
              · simp only [Act.put, List.setIfInBounds_toArray, List.set_cons_zero, List.set_cons_succ, i64_w, i32_w]
                rfl
              refine last_ (i := 12) (N := none) #[true, true, true, true, true, true, true, true, true, true, true, true, true] rfl rfl (by kernel_rfl) (by decide) (fun K hK => ?_)
              have hy0 := HD.out.due cj
              have hf0 := HD.out.f0 j
              refine skip_ (w1 := ?_) (by rfl) rfl ?_ ?_
              rotate_left
              · go_simp
                rfl
              generalize hst : World.setCell w6 ⟨q.b0, j, none⟩ (.int .u64 (now + ev)) = w7 at ⊢
              have HL_ := Aside0.mk (hst ▸ R_setD HL.out HD.out ht3 (has_b0 q) _ _)
              have HA_ := Aside0.mk (hst ▸ R_setD HA.out HD.out ht115 (has_b0 q) _ _)
              have HN_ := Aside0.mk (hst ▸ HN.out.set_ (has_b0 q) _ _)
              have HD_ := Aside0.mk (hst ▸ HD.out.setDue cj (now + ev))
              clear HL HA HN HD
              have HL := HL_
              have HA := HA_
              have HN := HN_
              have HD := HD_
              clear HL_ HA_ HN_ HD_
              clear hst
              refine hK.out _ _ ?_
              clear hK K
              refine done_ (by kernel_rfl) ?_

              have hz5 := HD.out.c5
              go_wp2_with (first | ((with_reducible refine gate_builtin (b := .append) (xs := #[.tmp 119, .tmp 126]) rfl ?_); at_builtin; refine Kd.R_append kA (w0 := w7) w.heap.size rfl (.tmp 119) (.tmp 126) 61 115 (.agg #[.int .i64 0, .int .u64 0]) 16 rfl Try.underlying61 info115 rfl (by decide) (by omega) _ s.asks ((j : Int), s.ls + 1) [.int .i64 (j : Int), .int .u64 (s.ls + 1)] (fun _ => True) (fun _ => False) rfl rfl ?aP (fun _ hk => hk.elim) ?aF ?aO ?aB ?aS ?aL ?_; (case aP => exact ⟨[_], [_], rfl, rfl, rfl⟩); (case aF => exact (fun _ _ => trivial)); (case aO => exact HA.out); (case aB => exact Below.refl _ _); (case aS => exact HN.out.size_); (case aL => have := HAL.out; omega); intro v1 w8 ho hb hg hat; have HT0 := Aside0.mk (Kd.R_typed HA.out); have HT := Aside0.mk (HD.out.row_ne HT0.out (by decide) (by decide)); have HBS := Aside0.mk (Kd.R_base HA.out); have HN_ := Aside0.mk (HN.out.grown hg (fun k hk => HBS.out k hk) HQL.out); have HD_ := Aside0.mk (HD.out.grown hg (fun k hk => HT.out k hk)); have HL_ := Aside0.mk (Kd.R_over' HL.out HT0.out (by decide) hg); have HA_ := Aside0.mk (ho); clear HN HD HL HA; have HN := HN_; have HD := HD_; have HL := HL_; have HA := HA_; clear HN_ HD_ HL_ HA_; clear ho hb hg hat HT HBS HT0))
              go_roundg gk1
              case measure => omega
              case rel => exact ⟨j + 1, congrArg (Value.int .i64) (by omega), ⟨by have := HKJ.out; omega⟩, ⟨by omega⟩, ⟨by rw [HS2.out]; exact HA.out⟩, HL, ⟨by rw [HS2.out]; exact HD.out⟩, HN⟩
            · have b1 : (o == 0) = false := beq_eq_false_iff_ne.mpr co
              have HS2 := Aside0.mk (show pass2 now ev E1 ls (j + 1) = s by rw [hs2, if_neg (by rw [hab, b0, b1]; decide)])
              clear cd co hab hs2
              go_wp2
              go_roundg gk1
              case measure => omega
              case rel => exact ⟨j + 1, congrArg (Value.int .i64) (by omega), ⟨by have := HKJ.out; omega⟩, ⟨by omega⟩, ⟨by rw [HS2.out]; exact HA.out⟩, HL, ⟨by rw [HS2.out]; exact HD.out⟩, HN⟩
          · have b0 : decide (d ≤ now) = false := decide_eq_false cd
            have HS2 := Aside0.mk (show pass2 now ev E1 ls (j + 1) = s by rw [hs2, if_neg (by rw [hab, b0]; simp)])
            clear cd hab hs2
            go_wp2
            go_roundg gk1
            case measure => omega
            case rel => exact ⟨j + 1, congrArg (Value.int .i64) (by omega), ⟨by have := HKJ.out; omega⟩, ⟨by omega⟩, ⟨by rw [HS2.out]; exact HA.out⟩, HL, ⟨by rw [HS2.out]; exact HD.out⟩, HN⟩
        · have c2 : decide ((j : Int) < (i : Int)) = false := decide_eq_false (by omega)
          have c2n : decide (j < i) = false := decide_eq_false cj
          have hz0 := HD.out.c0
          have hji : j = i := by have := HJL.out; omega
          subst hji
          go_wp2
          go_ret2
          exact ⟨_, _, rfl, by rw [HEE.out]; exact HA.out, HL.out, by rw [HEE.out]; exact HD.out, HN.out⟩
end Go.Proofs.Ytagmefjpnmjcjaa.Pr
