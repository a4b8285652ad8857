/- The methods of a connection that go by sync/atomic, by hand: each does to the connection's six cells what its plain function says, and leaves all other memory. -/
import Derived.Test.YtagmefjpnmjcjaaCox1
import Derived.Laws.LoneSync
namespace Go.Proofs.Ytagmefjpnmjcjaa.Co
open Go.RowKit Go.Proofs.YtagmefjpnmjcjaaW.PrintWords Go.Proofs.YtagmefjpnmjcjaaW.PrintLast Go.Proofs.YtagmefjpnmjcjaaW.PrintMore
attribute [local go_sem] max2_int min2_int max_two min_two
set_option linter.unusedVariables false
set_option linter.unusedSimpArgs false

theorem load_calls (g o : Nat) (v : Int) (w : World) (hc : w.cell? ⟨g, o, none⟩ = some (.int .i64 v)) :
    Calls Try.prog 78 #[.pointer (some ⟨g, o, none⟩)] w fun e w' => e = .returned (.int .i64 v) ∧ w = w' := by
  have hl := run_call_load (P := Try.prog) Try.func84 (by kernel_rfl) (by kernel_rfl) (by kernel_rfl) .i64 (by kernel_rfl) hc
  go_enter Try.func78, Try.ntmps78
  go_wp2
  go_ret
  exact ⟨rfl, rfl⟩
theorem store_calls (g o : Nat) (v x : Int) (w : World) (hc : w.cell? ⟨g, o, none⟩ = some (.int .i64 v)) (hz : w.frozen? ⟨g, o, none⟩ = false) :
    Calls Try.prog 82 #[.pointer (some ⟨g, o, none⟩), .int .i64 x] w fun e w' => e = .returned (.tuple #[]) ∧ w.setCell ⟨g, o, none⟩ (.int .i64 x) = w' := by
  have hl := run_call_store (P := Try.prog) Try.func87 (by kernel_rfl) (by kernel_rfl) (by kernel_rfl) (by kernel_rfl) (k := .i64) (y := x) hc hz
  go_enter Try.func82, Try.ntmps82
  go_wp2
  first | go_end0 | refine bodyPost_ret (results_none rfl _ _ _) rfl ?_
  exact ⟨rfl, rfl⟩
theorem add_calls (g o : Nat) (v x : Int) (w : World) (hc : w.cell? ⟨g, o, none⟩ = some (.int .i64 v)) (hz : w.frozen? ⟨g, o, none⟩ = false) :
    Calls Try.prog 81 #[.pointer (some ⟨g, o, none⟩), .int .i64 x] w fun e w' => e = .returned (.int .i64 (wrap64 (v + x))) ∧ w.setCell ⟨g, o, none⟩ (.int .i64 (wrap64 (v + x))) = w' := by
  have hs : (Op.intArith .add .i64 v x).run Try.prog w = .ok (.int .i64 (wrap64 (v + x))) w := by
    simp [Op.intArith, go_sem, wrap64, IntKind.wrap_i64]
  have hl := run_call_add (P := Try.prog) Try.func86 (by kernel_rfl) (by kernel_rfl) (by kernel_rfl) .i64 (by kernel_rfl) hc hz hs
  clear hs
  go_enter Try.func81, Try.ntmps81
  go_wp2
  go_ret
  exact ⟨rfl, rfl⟩
theorem cas_hit (g o : Nat) (y : Int) (w : World) (hc : w.cell? ⟨g, o, none⟩ = some (.int .i64 0)) (hz : w.frozen? ⟨g, o, none⟩ = false) :
    Calls Try.prog 80 #[.pointer (some ⟨g, o, none⟩), .int .i64 0, .int .i64 y] w fun e w' => e = .returned (.bool true) ∧ w.setCell ⟨g, o, none⟩ (.int .i64 y) = w' := by
  have hl := run_call_cas_hit (P := Try.prog) Try.func85 (by kernel_rfl) (by kernel_rfl) (by kernel_rfl) .i64 (by kernel_rfl) (y := y) hc hz
  go_enter Try.func80, Try.ntmps80
  go_wp2
  go_ret
  exact ⟨rfl, rfl⟩
theorem cas_miss (g o : Nat) (v y : Int) (w : World) (hc : w.cell? ⟨g, o, none⟩ = some (.int .i64 v)) (hz : w.frozen? ⟨g, o, none⟩ = false) (hv : ¬ v = 0) :
    Calls Try.prog 80 #[.pointer (some ⟨g, o, none⟩), .int .i64 0, .int .i64 y] w fun e w' => e = .returned (.bool false) ∧ w = w' := by
  have hl := run_call_cas_miss (P := Try.prog) Try.func85 (by kernel_rfl) (by kernel_rfl) (by kernel_rfl) .i64 (by kernel_rfl) (o := 0) (y := y) hc hz hv
  clear hv
  go_enter Try.func80, Try.ntmps80
  go_wp2
  go_ret
  exact ⟨rfl, rfl⟩

/-- Which state it is in: by who has it, and whether it drains. -/
def stOf (o : Int) (d : Bool) : Int := if o = -1 then 4 else if o = 0 then 1 else if d = true then 3 else 2
def conn_Conn_State.f (s0_0 : Int) (s0_1 : Int) (s0_2 : Int) (s0_3 : Int) (s0_4 : Bool) (s0_5 : Bool) : Option (Int × Int × Int × Int × Int × Bool × Bool) := some (stOf s0_2 s0_5, s0_0, s0_1, s0_2, s0_3, s0_4, s0_5)
/-- State leaves the world as it is. -/
theorem state_same (g : Nat) (s0_0 s0_1 s0_2 s0_3 : Int) (s0_4 s0_5 : Bool) (w0 w : World) (hI : IsS137 w0 w g s0_0 s0_1 s0_2 s0_3 s0_4 s0_5) :
    Calls Try.prog 55 #[.pointer (some ⟨g, 0, none⟩)] w fun e w' => e = .returned (.int .i64 (stOf s0_2 s0_5)) ∧ w = w' := by
  obtain ⟨HG, hg⟩ := hI
  have h2 := cellS137_2 HG
  have h5 := cellS137_5 HG
  clear HG hg
  have hp : ∀ x, (x = stOf s0_2 s0_5) → Aside0 (x = stOf s0_2 s0_5) := fun x h => Aside0.mk h
  by_cases c1 : s0_2 = -1
  · have hq := hp 4 (by unfold stOf; rw [if_pos c1])
    clear hp
    subst c1
    go_enter Try.func55, Try.ntmps55
    go_wp2_with (first | (go_at_call 78; refine (load_calls g 2 _ _ h2).mono ?_; rintro e w' ⟨rfl, rfl⟩))
    go_ret
    exact ⟨congrArg (fun x => Ending.returned (.int .i64 x)) hq.out, rfl⟩
  · have b1 : (s0_2 == -1) = false := beq_eq_false_iff_ne.mpr c1
    by_cases c2 : s0_2 = 0
    · have hq := hp 1 (by unfold stOf; rw [if_neg c1, if_pos c2])
      clear hp c1
      subst c2
      go_enter Try.func55, Try.ntmps55
      go_wp2_with (first | (go_at_call 78; refine (load_calls g 2 _ _ h2).mono ?_; rintro e w' ⟨rfl, rfl⟩))
      go_ret
      exact ⟨congrArg (fun x => Ending.returned (.int .i64 x)) hq.out, rfl⟩
    · have b2 : (s0_2 == 0) = false := beq_eq_false_iff_ne.mpr c2
      cases s0_5 with
      | true =>
        have hq := hp 3 (by unfold stOf; rw [if_neg c1, if_neg c2, if_pos rfl])
        clear hp c1 c2
        go_enter Try.func55, Try.ntmps55
        go_wp2_with (first | (go_at_call 78; refine (load_calls g 2 _ _ h2).mono ?_; rintro e w' ⟨rfl, rfl⟩))
        go_ret
        exact ⟨congrArg (fun x => Ending.returned (.int .i64 x)) hq.out, rfl⟩
      | false =>
        have hq := hp 2 (by unfold stOf; rw [if_neg c1, if_neg c2, if_neg (by simp)])
        clear hp c1 c2
        go_enter Try.func55, Try.ntmps55
        go_wp2_with (first | (go_at_call 78; refine (load_calls g 2 _ _ h2).mono ?_; rintro e w' ⟨rfl, rfl⟩))
        go_ret
        exact ⟨congrArg (fun x => Ending.returned (.int .i64 x)) hq.out, rfl⟩
theorem conn_Conn_State.calls (g : Nat) (s0_0 : Int) (s0_1 : Int) (s0_2 : Int) (s0_3 : Int) (s0_4 : Bool) (s0_5 : Bool) (r1 : Int) (r2 : Int) (r3 : Int) (r4 : Int) (r5 : Int) (r6 : Bool) (r7 : Bool) (w0 w : World) (hI : IsS137 w0 w g s0_0 s0_1 s0_2 s0_3 s0_4 s0_5) (hB : Below w0.heap.size w0 w) (h : conn_Conn_State.f s0_0 s0_1 s0_2 s0_3 s0_4 s0_5 = some (r1, r2, r3, r4, r5, r6, r7)) :
    Calls Try.prog 55 #[.pointer (some ⟨g, 0, none⟩)] w fun e w' => e = .returned (.int .i64 r1) ∧ IsS137 w0 w' g r2 r3 r4 r5 r6 r7 ∧ Below w0.heap.size w0 w' ∧ KeepBut w w' g none := by
  simp only [conn_Conn_State.f, Option.some.injEq, Prod.mk.injEq] at h
  obtain ⟨rfl, rfl, rfl, rfl, rfl, rfl, rfl⟩ := h
  refine (state_same g _ _ _ _ _ _ w0 w hI).mono ?_
  rintro e w' ⟨rfl, rfl⟩
  exact ⟨rfl, hI, hB, KeepBut.refl _ _ _⟩

def conn_Conn_Owner.f (s0_0 : Int) (s0_1 : Int) (s0_2 : Int) (s0_3 : Int) (s0_4 : Bool) (s0_5 : Bool) : Option (Int × Int × Int × Int × Int × Bool × Bool) := some (mx s0_2 0, s0_0, s0_1, s0_2, s0_3, s0_4, s0_5)
theorem conn_Conn_Owner.calls (g : Nat) (s0_0 : Int) (s0_1 : Int) (s0_2 : Int) (s0_3 : Int) (s0_4 : Bool) (s0_5 : Bool) (r1 : Int) (r2 : Int) (r3 : Int) (r4 : Int) (r5 : Int) (r6 : Bool) (r7 : Bool) (w0 w : World) (hI : IsS137 w0 w g s0_0 s0_1 s0_2 s0_3 s0_4 s0_5) (hB : Below w0.heap.size w0 w) (h : conn_Conn_Owner.f s0_0 s0_1 s0_2 s0_3 s0_4 s0_5 = some (r1, r2, r3, r4, r5, r6, r7)) :
    Calls Try.prog 56 #[.pointer (some ⟨g, 0, none⟩)] w fun e w' => e = .returned (.int .i64 r1) ∧ IsS137 w0 w' g r2 r3 r4 r5 r6 r7 ∧ Below w0.heap.size w0 w' ∧ KeepBut w w' g none := by
  simp only [conn_Conn_Owner.f, Option.some.injEq, Prod.mk.injEq] at h
  obtain ⟨rfl, rfl, rfl, rfl, rfl, rfl, rfl⟩ := h
  have HI := Aside0.mk hI
  obtain ⟨HG, hg⟩ := hI
  have h2 := cellS137_2 HG
  clear HG hg
  have HB := Aside0.mk hB
  clear hB
  by_cases c : s0_2 < 0
  · have hq := Aside0.mk (show (0 : Int) = mx s0_2 0 from by unfold mx; rw [if_pos c])
    go_enter Try.func56, Try.ntmps56
    go_wp2_with (first | (go_at_call 78; refine (load_calls g 2 _ _ h2).mono ?_; rintro e w' ⟨rfl, rfl⟩))
    go_ret
    exact ⟨congrArg (fun x => Ending.returned (.int .i64 x)) hq.out, HI.out, HB.out, KeepBut.refl _ _ _⟩
  · have hq := Aside0.mk (show s0_2 = mx s0_2 0 from by unfold mx; rw [if_neg c])
    go_enter Try.func56, Try.ntmps56
    go_wp2_with (first | (go_at_call 78; refine (load_calls g 2 _ _ h2).mono ?_; rintro e w' ⟨rfl, rfl⟩))
    go_ret
    exact ⟨congrArg (fun x => Ending.returned (.int .i64 x)) hq.out, HI.out, HB.out, KeepBut.refl _ _ _⟩

def conn_Conn_Sent.f (s0_0 : Int) (s0_1 : Int) (s0_2 : Int) (s0_3 : Int) (s0_4 : Bool) (s0_5 : Bool) : Option (Int × Int × Int × Int × Int × Bool × Bool) := some (s0_3, s0_0, s0_1, s0_2, s0_3, s0_4, s0_5)
theorem conn_Conn_Sent.calls (g : Nat) (s0_0 : Int) (s0_1 : Int) (s0_2 : Int) (s0_3 : Int) (s0_4 : Bool) (s0_5 : Bool) (r1 : Int) (r2 : Int) (r3 : Int) (r4 : Int) (r5 : Int) (r6 : Bool) (r7 : Bool) (w0 w : World) (hI : IsS137 w0 w g s0_0 s0_1 s0_2 s0_3 s0_4 s0_5) (hB : Below w0.heap.size w0 w) (h : conn_Conn_Sent.f s0_0 s0_1 s0_2 s0_3 s0_4 s0_5 = some (r1, r2, r3, r4, r5, r6, r7)) :
    Calls Try.prog 58 #[.pointer (some ⟨g, 0, none⟩)] w fun e w' => e = .returned (.int .i64 r1) ∧ IsS137 w0 w' g r2 r3 r4 r5 r6 r7 ∧ Below w0.heap.size w0 w' ∧ KeepBut w w' g none := by
  simp only [conn_Conn_Sent.f, Option.some.injEq, Prod.mk.injEq] at h
  obtain ⟨rfl, rfl, rfl, rfl, rfl, rfl, rfl⟩ := h
  have HI := Aside0.mk hI
  obtain ⟨HG, hg⟩ := hI
  have h3 := cellS137_3 HG
  clear HG hg
  have HB := Aside0.mk hB
  clear hB
  go_enter Try.func58, Try.ntmps58
  go_wp2_with (first | (go_at_call 78; refine (load_calls g 3 _ _ h3).mono ?_; rintro e w' ⟨rfl, rfl⟩))
  go_ret
  exact ⟨rfl, HI.out, HB.out, KeepBut.refl _ _ _⟩

def conn_Conn_close.f (s0_0 : Int) (s0_1 : Int) (s0_2 : Int) (s0_3 : Int) (s0_4 : Bool) (s0_5 : Bool) : Option (Int × Int × Int × Int × Int × Bool × Bool) := some (s0_1, s0_0, 0, -1, s0_3, s0_4, s0_5)
theorem conn_Conn_close.calls (g : Nat) (s0_0 : Int) (s0_1 : Int) (s0_2 : Int) (s0_3 : Int) (s0_4 : Bool) (s0_5 : Bool) (r1 : Int) (r2 : Int) (r3 : Int) (r4 : Int) (r5 : Int) (r6 : Bool) (r7 : Bool) (w0 w : World) (hI : IsS137 w0 w g s0_0 s0_1 s0_2 s0_3 s0_4 s0_5) (hB : Below w0.heap.size w0 w) (h : conn_Conn_close.f s0_0 s0_1 s0_2 s0_3 s0_4 s0_5 = some (r1, r2, r3, r4, r5, r6, r7)) :
    Calls Try.prog 79 #[.pointer (some ⟨g, 0, none⟩)] w fun e w' => e = .returned (.int .u64 r1) ∧ IsS137 w0 w' g r2 r3 r4 r5 r6 r7 ∧ Below w0.heap.size w0 w' ∧ KeepBut w w' g none := by
  simp only [conn_Conn_close.f, Option.some.injEq, Prod.mk.injEq] at h
  obtain ⟨rfl, rfl, rfl, rfl, rfl, rfl, rfl⟩ := h
  have hS := (hI.set_1 0).set_2 (-1)
  have HI := Aside0.mk hI
  have HS := Aside0.mk hS
  have H2 := Aside0.mk (cellS137_2 (hI.set_1 0).1)
  have F2 := Aside0.mk (blk_frozen (hI.set_1 0).1 2)
  have HBS := Aside0.mk (below_set (j := 2) (v := .int .i64 (-1)) (below_set (j := 1) (v := .int .u64 0) hB hI.2) hI.2)
  have HKS := Aside0.mk (((KeepBut.refl w g none).set_ 1 (.int .u64 0)).set_ 2 (.int .i64 (-1)))
  clear hS
  obtain ⟨HG, hg⟩ := hI
  have h1 := cellS137_1 HG
  have f1 := blk_frozen HG 1
  clear HG hg hB
  go_enter Try.func79, Try.ntmps79
  go_wp2_with (first | (go_at_call 82; refine (store_calls g 2 _ _ _ H2.out F2.out).mono ?_; rintro e w' ⟨rfl, rfl⟩))
  go_ret
  exact ⟨rfl, HS.out, HBS.out, HKS.out⟩

def conn_Conn_Lend.f (s0_0 : Int) (s0_1 : Int) (s0_2 : Int) (s0_3 : Int) (s0_4 : Bool) (s0_5 : Bool) (a1 : Int) : Option (Bool × Int × Int × Int × Int × Bool × Bool) :=
  if a1 > 0 then (if s0_2 = 0 then some (true, s0_0, s0_1, a1, s0_3, s0_4, s0_5) else some (false, s0_0, s0_1, s0_2, s0_3, s0_4, s0_5)) else some (false, s0_0, s0_1, s0_2, s0_3, s0_4, s0_5)
theorem conn_Conn_Lend.calls (g : Nat) (s0_0 : Int) (s0_1 : Int) (s0_2 : Int) (s0_3 : Int) (s0_4 : Bool) (s0_5 : Bool) (a1 : Int) (r1 : Bool) (r2 : Int) (r3 : Int) (r4 : Int) (r5 : Int) (r6 : Bool) (r7 : Bool) (w0 w : World) (hI : IsS137 w0 w g s0_0 s0_1 s0_2 s0_3 s0_4 s0_5) (hB : Below w0.heap.size w0 w) (h : conn_Conn_Lend.f s0_0 s0_1 s0_2 s0_3 s0_4 s0_5 a1 = some (r1, r2, r3, r4, r5, r6, r7)) :
    Calls Try.prog 66 #[.pointer (some ⟨g, 0, none⟩), .int .i64 a1] w fun e w' => e = .returned (.bool r1) ∧ IsS137 w0 w' g r2 r3 r4 r5 r6 r7 ∧ Below w0.heap.size w0 w' ∧ KeepBut w w' g none := by
  unfold conn_Conn_Lend.f at h
  by_cases c1 : a1 > 0
  · have b1 : decide (0 < a1) = true := decide_eq_true c1
    rw [if_pos c1] at h
    clear c1
    by_cases c2 : s0_2 = 0
    · rw [if_pos c2] at h
      simp only [Option.some.injEq, Prod.mk.injEq] at h
      obtain ⟨rfl, rfl, rfl, rfl, rfl, rfl, rfl⟩ := h
      subst c2
      have HS := Aside0.mk (hI.set_2 a1)
      have HBS := Aside0.mk (below_set (j := 2) (v := .int .i64 a1) hB hI.2)
      have HKS := Aside0.mk ((KeepBut.refl w g none).set_ 2 (.int .i64 a1))
      obtain ⟨HG, hg⟩ := hI
      have h2 := cellS137_2 HG
      have f2 := blk_frozen HG 2
      clear HG hg hB
      go_enter Try.func66, Try.ntmps66
      go_wp2_with (first | (go_at_call 80; refine (cas_hit g 2 _ _ h2 f2).mono ?_; rintro e w' ⟨rfl, rfl⟩))
      go_ret
      exact ⟨rfl, HS.out, HBS.out, HKS.out⟩
    · rw [if_neg c2] at h
      simp only [Option.some.injEq, Prod.mk.injEq] at h
      obtain ⟨rfl, rfl, rfl, rfl, rfl, rfl, rfl⟩ := h
      have HS := Aside0.mk hI
      have HBS := Aside0.mk hB
      obtain ⟨HG, hg⟩ := hI
      have h2 := cellS137_2 HG
      have f2 := blk_frozen HG 2
      have C2 := Aside0.mk c2
      clear HG hg hB c2
      go_enter Try.func66, Try.ntmps66
      go_wp2_with (first | (go_at_call 80; refine (cas_miss g 2 _ _ _ h2 f2 C2.out).mono ?_; rintro e w' ⟨rfl, rfl⟩))
      go_ret
      exact ⟨rfl, HS.out, HBS.out, KeepBut.refl _ _ _⟩
  · have b1 : decide (0 < a1) = false := decide_eq_false c1
    rw [if_neg c1] at h
    clear c1
    simp only [Option.some.injEq, Prod.mk.injEq] at h
    obtain ⟨rfl, rfl, rfl, rfl, rfl, rfl, rfl⟩ := h
    have HS := Aside0.mk hI
    have HBS := Aside0.mk hB
    clear hI hB
    go_enter Try.func66, Try.ntmps66
    go_wp2
    go_ret
    exact ⟨rfl, HS.out, HBS.out, KeepBut.refl _ _ _⟩

def conn_Conn_Send.f (s0_0 : Int) (s0_1 : Int) (s0_2 : Int) (s0_3 : Int) (s0_4 : Bool) (s0_5 : Bool) (a1 : Int) : Option (Int × Int × Int × Int × Int × Bool × Bool) :=
  if a1 = 0 then some (1, s0_0, s0_1, s0_2, s0_3, s0_4, s0_5) else (if stOf s0_2 s0_5 = 2 then (if s0_1 = 0 then some (0, s0_0, a1, s0_2, wrap64 (s0_3 + 1), s0_4, s0_5) else some (7, s0_0, s0_1, s0_2, s0_3, s0_4, s0_5)) else some (7, s0_0, s0_1, s0_2, s0_3, s0_4, s0_5))
theorem conn_Conn_Send.calls (g : Nat) (s0_0 : Int) (s0_1 : Int) (s0_2 : Int) (s0_3 : Int) (s0_4 : Bool) (s0_5 : Bool) (a1 : Int) (r1 : Int) (r2 : Int) (r3 : Int) (r4 : Int) (r5 : Int) (r6 : Bool) (r7 : Bool) (w0 w : World) (hI : IsS137 w0 w g s0_0 s0_1 s0_2 s0_3 s0_4 s0_5) (hB : Below w0.heap.size w0 w) (h : conn_Conn_Send.f s0_0 s0_1 s0_2 s0_3 s0_4 s0_5 a1 = some (r1, r2, r3, r4, r5, r6, r7)) :
    Calls Try.prog 67 #[.pointer (some ⟨g, 0, none⟩), .int .u64 a1] w fun e w' => e = .returned (.int .i64 r1) ∧ IsS137 w0 w' g r2 r3 r4 r5 r6 r7 ∧ Below w0.heap.size w0 w' ∧ KeepBut w w' g none := by
  unfold conn_Conn_Send.f at h
  have HI := Aside0.mk hI
  have HB := Aside0.mk hB
  have ST := Aside0.mk (state_same g _ _ _ _ _ _ w0 w hI)
  have HS := Aside0.mk ((hI.set_1 a1).set_3 (wrap64 (s0_3 + 1)))
  have H3 := Aside0.mk (cellS137_3 (hI.set_1 a1).1)
  have F3 := Aside0.mk (blk_frozen (hI.set_1 a1).1 3)
  have HBS := Aside0.mk (below_set (j := 3) (v := .int .i64 (wrap64 (s0_3 + 1))) (below_set (j := 1) (v := .int .u64 a1) hB hI.2) hI.2)
  have HKS := Aside0.mk (((KeepBut.refl w g none).set_ 1 (.int .u64 a1)).set_ 3 (.int .i64 (wrap64 (s0_3 + 1))))
  obtain ⟨HG, hg⟩ := hI
  have h1 := cellS137_1 HG
  have f1 := blk_frozen HG 1
  clear HG hg hB
  by_cases c0 : a1 = 0
  · rw [if_pos c0] at h
    simp only [Option.some.injEq, Prod.mk.injEq] at h
    obtain ⟨rfl, rfl, rfl, rfl, rfl, rfl, rfl⟩ := h
    have b0 : (a1 == 0) = true := beq_iff_eq.mpr c0
    clear c0
    go_enter Try.func67, Try.ntmps67
    go_wp2
    go_ret
    exact ⟨rfl, HI.out, HB.out, KeepBut.refl _ _ _⟩
  · rw [if_neg c0] at h
    have b0 : (a1 == 0) = false := beq_eq_false_iff_ne.mpr c0
    clear c0
    by_cases c1 : stOf s0_2 s0_5 = 2
    · rw [if_pos c1] at h
      have b1 : (stOf s0_2 s0_5 == 2) = true := beq_iff_eq.mpr c1
      have b1' : (stOf s0_2 s0_5 != 2) = false := bne_eq_false_iff_eq.mpr c1
      clear c1
      by_cases c2 : s0_1 = 0
      · rw [if_pos c2] at h
        simp only [Option.some.injEq, Prod.mk.injEq] at h
        obtain ⟨rfl, rfl, rfl, rfl, rfl, rfl, rfl⟩ := h
        have b2 : (s0_1 == 0) = true := beq_iff_eq.mpr c2
        have b2' : (s0_1 != 0) = false := bne_eq_false_iff_eq.mpr c2
        clear c2
        go_enter Try.func67, Try.ntmps67
        go_wp2_with (first | (go_at_call 55; refine (ST.out).mono ?_; rintro e w' ⟨rfl, rfl⟩) | (go_at_call 81; refine (add_calls g 3 _ _ _ H3.out F3.out).mono ?_; rintro e w' ⟨rfl, rfl⟩))
        go_ret
        exact ⟨rfl, HS.out, HBS.out, HKS.out⟩
      · rw [if_neg c2] at h
        simp only [Option.some.injEq, Prod.mk.injEq] at h
        obtain ⟨rfl, rfl, rfl, rfl, rfl, rfl, rfl⟩ := h
        have b2 : (s0_1 == 0) = false := beq_eq_false_iff_ne.mpr c2
        have b2' : (s0_1 != 0) = true := bne_iff_ne.mpr c2
        clear c2
        go_enter Try.func67, Try.ntmps67
        go_wp2_with (first | (go_at_call 55; refine (ST.out).mono ?_; rintro e w' ⟨rfl, rfl⟩))
        go_ret
        exact ⟨rfl, HI.out, HB.out, KeepBut.refl _ _ _⟩
    · rw [if_neg c1] at h
      simp only [Option.some.injEq, Prod.mk.injEq] at h
      obtain ⟨rfl, rfl, rfl, rfl, rfl, rfl, rfl⟩ := h
      have b1 : (stOf s0_2 s0_5 == 2) = false := beq_eq_false_iff_ne.mpr c1
      have b1' : (stOf s0_2 s0_5 != 2) = true := bne_iff_ne.mpr c1
      clear c1
      go_enter Try.func67, Try.ntmps67
      go_wp2_with (first | (go_at_call 55; refine (ST.out).mono ?_; rintro e w' ⟨rfl, rfl⟩))
      go_ret
      exact ⟨rfl, HI.out, HB.out, KeepBut.refl _ _ _⟩

def conn_Conn_Release.f (s0_0 : Int) (s0_1 : Int) (s0_2 : Int) (s0_3 : Int) (s0_4 : Bool) (s0_5 : Bool) : Option (Bool × Int × Int × Int × Int × Bool × Bool) :=
  if stOf s0_2 s0_5 = 2 then (if s0_1 = 0 then (if s0_4 = true then some (true, s0_0, 0, -1, s0_3, s0_4, s0_5) else some (true, s0_0, s0_1, 0, s0_3, s0_4, s0_5)) else some (false, s0_0, s0_1, s0_2, s0_3, s0_4, s0_5)) else some (false, s0_0, s0_1, s0_2, s0_3, s0_4, s0_5)
theorem conn_Conn_Release.calls (g : Nat) (s0_0 : Int) (s0_1 : Int) (s0_2 : Int) (s0_3 : Int) (s0_4 : Bool) (s0_5 : Bool) (r1 : Bool) (r2 : Int) (r3 : Int) (r4 : Int) (r5 : Int) (r6 : Bool) (r7 : Bool) (w0 w : World) (hI : IsS137 w0 w g s0_0 s0_1 s0_2 s0_3 s0_4 s0_5) (hB : Below w0.heap.size w0 w) (h : conn_Conn_Release.f s0_0 s0_1 s0_2 s0_3 s0_4 s0_5 = some (r1, r2, r3, r4, r5, r6, r7)) :
    Calls Try.prog 69 #[.pointer (some ⟨g, 0, none⟩)] w fun e w' => e = .returned (.bool r1) ∧ IsS137 w0 w' g r2 r3 r4 r5 r6 r7 ∧ Below w0.heap.size w0 w' ∧ KeepBut w w' g none := by
  unfold conn_Conn_Release.f at h
  have HI := Aside0.mk hI
  have HB := Aside0.mk hB
  have ST := Aside0.mk (state_same g _ _ _ _ _ _ w0 w hI)
  have CL := Aside0.mk (conn_Conn_close.calls g s0_0 s0_1 s0_2 s0_3 s0_4 s0_5 _ _ _ _ _ _ _ w0 w hI hB rfl)
  have HS := Aside0.mk (hI.set_2 0)
  have HBS := Aside0.mk (below_set (j := 2) (v := .int .i64 0) hB hI.2)
  have HKS := Aside0.mk ((KeepBut.refl w g none).set_ 2 (.int .i64 0))
  obtain ⟨HG, hg⟩ := hI
  have h1 := cellS137_1 HG
  have h2 := cellS137_2 HG
  have f2 := blk_frozen HG 2
  have h4 := cellS137_4 HG
  clear HG hg hB
  by_cases c1 : stOf s0_2 s0_5 = 2
  · rw [if_pos c1] at h
    have b1 : (stOf s0_2 s0_5 == 2) = true := beq_iff_eq.mpr c1
    have b1' : (stOf s0_2 s0_5 != 2) = false := bne_eq_false_iff_eq.mpr c1
    clear c1
    by_cases c2 : s0_1 = 0
    · rw [if_pos c2] at h
      have b2 : (s0_1 == 0) = true := beq_iff_eq.mpr c2
      have b2' : (s0_1 != 0) = false := bne_eq_false_iff_eq.mpr c2
      clear c2
      cases s0_4 with
      | true =>
        rw [if_pos rfl] at h
        simp only [Option.some.injEq, Prod.mk.injEq] at h
        obtain ⟨rfl, rfl, rfl, rfl, rfl, rfl, rfl⟩ := h
        go_enter Try.func69, Try.ntmps69
        go_wp2_with (first | (go_at_call 55; refine (ST.out).mono ?_; rintro e w' ⟨rfl, rfl⟩) | (go_at_call 79; refine (CL.out).mono ?_; rintro e w' ⟨rfl, hi, hb, hk⟩; have HI2 := Aside0.mk hi; have HB2 := Aside0.mk hb; have HK2 := Aside0.mk hk; clear hi hb hk))
        go_ret
        exact ⟨rfl, HI2.out, HB2.out, HK2.out⟩
      | false =>
        rw [if_neg (by simp)] at h
        simp only [Option.some.injEq, Prod.mk.injEq] at h
        obtain ⟨rfl, rfl, rfl, rfl, rfl, rfl, rfl⟩ := h
        go_enter Try.func69, Try.ntmps69
        go_wp2_with (first | (go_at_call 55; refine (ST.out).mono ?_; rintro e w' ⟨rfl, rfl⟩) | (go_at_call 82; refine (store_calls g 2 _ _ _ h2 f2).mono ?_; rintro e w' ⟨rfl, rfl⟩))
        go_ret
        exact ⟨rfl, HS.out, HBS.out, HKS.out⟩
    · rw [if_neg c2] at h
      simp only [Option.some.injEq, Prod.mk.injEq] at h
      obtain ⟨rfl, rfl, rfl, rfl, rfl, rfl, rfl⟩ := h
      have b2 : (s0_1 == 0) = false := beq_eq_false_iff_ne.mpr c2
      have b2' : (s0_1 != 0) = true := bne_iff_ne.mpr c2
      clear c2
      go_enter Try.func69, Try.ntmps69
      go_wp2_with (first | (go_at_call 55; refine (ST.out).mono ?_; rintro e w' ⟨rfl, rfl⟩))
      go_ret
      exact ⟨rfl, HI.out, HB.out, KeepBut.refl _ _ _⟩
  · rw [if_neg c1] at h
    simp only [Option.some.injEq, Prod.mk.injEq] at h
    obtain ⟨rfl, rfl, rfl, rfl, rfl, rfl, rfl⟩ := h
    have b1 : (stOf s0_2 s0_5 == 2) = false := beq_eq_false_iff_ne.mpr c1
    have b1' : (stOf s0_2 s0_5 != 2) = true := bne_iff_ne.mpr c1
    clear c1
    go_enter Try.func69, Try.ntmps69
    go_wp2_with (first | (go_at_call 55; refine (ST.out).mono ?_; rintro e w' ⟨rfl, rfl⟩))
    go_ret
    exact ⟨rfl, HI.out, HB.out, KeepBut.refl _ _ _⟩
end Go.Proofs.Ytagmefjpnmjcjaa.Co
