/- awake of package signalmanlaw08, and WaitsDropped, walked by hand. -/
import Derived.Test.YtagmefjpnmjcjaaWaHand
import Derived.Test.YtagmefjpnmjcjaaWax1
namespace Go.Proofs.Ytagmefjpnmjcjaa.Wa
open Go.RowKit Go.Proofs.YtagmefjpnmjcjaaW.PrintWords Go.Proofs.YtagmefjpnmjcjaaW.PrintLast Go.Proofs.YtagmefjpnmjcjaaW.PrintMore
attribute [local go_sem] max2_int min2_int max_two min_two
set_option linter.unusedVariables false
set_option linter.unusedSimpArgs false

theorem IsW.below {w w' : World} {g : Nat} {L : List Int} {mo : Int} (h : IsW w g L mo) (hb : Below w.heap.size w w') : IsW w' g L mo := by
  obtain ⟨ids, fr, HG, h2⟩ := h
  exact ⟨ids, fr, (hb.block g (blk_lt HG)).trans HG, h2⟩
theorem IsW.drewN {w : World} {g : Nat} {L : List Int} {mo : Int} (h : IsW w g L mo) (m : Nat) : IsW (w.drewN m) g L mo := h.below (pw_below_drewN (Below.refl _ _) m)
theorem IsW.alloc {w : World} {g : Nat} {L : List Int} {mo : Int} (h : IsW w g L mo) (o : Obj) : IsW (w.alloc o) g L mo := h.below (below_alloc (Below.refl _ _) o)
theorem IsW.near {w w' : World} {g g2 : Nat} {L : List Int} {mo : Int} (h : IsW w g L mo) (hn : Near w w' g2) (hne : g ≠ g2) : IsW w' g L mo := by
  obtain ⟨ids, fr, HG, h2⟩ := h
  exact ⟨ids, fr, KeepBut.blk hn.1 HG hne (by simp), h2⟩
theorem IsW.lt {w : World} {g : Nat} {L : List Int} {mo : Int} (h : IsW w g L mo) : g < w.heap.size := by
  obtain ⟨ids, fr, HG, h2⟩ := h
  exact blk_lt HG

theorem Put_at (g : Nat) (L : List Int) (mo id r : Int) (L2 : List Int) (w : World) (h1 : putE L mo id = r) (h2 : putL L mo id = L2) (hI : IsW w g L mo) :
    Calls Try.prog 41 #[.pointer (some ⟨g, 0, none⟩), .int .i64 id] w fun e w' => e = .returned (.int .i64 r) ∧ IsW w' g L2 mo ∧ Near w w' g := by
  subst h1 h2; exact Put_calls g mo id L w hI
theorem Take_at (g : Nat) (L : List Int) (mo x : Int) (b : Bool) (L2 : List Int) (w : World) (h1 : L.headD 0 = x) (h2 : (!L.isEmpty) = b) (h3 : L.tail = L2) (hI : IsW w g L mo) :
    Calls Try.prog 43 #[.pointer (some ⟨g, 0, none⟩)] w fun e w' => e = .returned (.tuple #[.int .i64 x, .bool b]) ∧ IsW w' g L2 mo ∧ Near w w' g := by
  subst h1 h2 h3; exact Take_calls g mo L w hI
theorem Drop_at (g : Nat) (L : List Int) (mo id : Int) (b : Bool) (L2 : List Int) (w : World) (h1 : decide (id ∈ L) = b) (h2 : L.erase id = L2) (hI : IsW w g L mo) :
    Calls Try.prog 45 #[.pointer (some ⟨g, 0, none⟩), .int .i64 id] w fun e w' => e = .returned (.bool b) ∧ IsW w' g L2 mo ∧ Near w w' g := by
  subst h1 h2; exact Drop_calls g mo id L w hI
theorem At_at (g : Nat) (L : List Int) (mo id x : Int) (w : World) (h : posOf L id = x) (hI : IsW w g L mo) :
    Calls Try.prog 48 #[.pointer (some ⟨g, 0, none⟩), .int .i64 id] w fun e w' => e = .returned (.int .i64 x) ∧ IsW w' g L mo ∧ Near w w' g := by
  obtain ⟨ids, fr, HG, hr, h2⟩ := hI
  refine (At_calls g ids fr mo id L w HG hr).mono ?_
  rintro e w' ⟨rfl, n, rfl⟩
  exact ⟨by rw [h], ⟨ids, fr, blk_drewN HG n, hr, h2⟩, (Near.refl w g).drewN n⟩
theorem Near.bel {w w' w0 : World} {g : Nat} (h : Near w w' g) (hg : w0.heap.size ≤ g) (hB : Below w0.heap.size w0 w) : Below w0.heap.size w0 w' := h.2 w0 hg hB
theorem C_one (w : World) (x : Int) : Kd.C (Kd.int .i64) (w.alloc (.cells #[.int .i64 x] 3)) (some ⟨w.heap.size, 0, none⟩) 1 [x] := by
  refine ⟨rfl, by omega, fun _ => ⟨_, rfl, fun j p hp => ?_⟩⟩
  cases j with
  | zero =>
    simp at hp
    subst hp
    refine ⟨[.int .i64 x], rfl, rfl, fun i u hu => ?_⟩
    cases i with
    | zero =>
      simp at hu
      subst hu
      exact (blk_cell (by simpa using heap_alloc_new w _) 0).trans rfl
    | succ i => simp at hu
  | succ j => simp at hp
theorem pe1 : putE [] 2 5 = 0 := by decide
theorem pl1 : putL [] 2 5 = [5] := by decide
theorem pe2 : putE [5] 2 7 = 0 := by decide
theorem pl2 : putL [5] 2 7 = [5, 7] := by decide
theorem pe3 : putE [5, 7] 2 9 = 5 := by decide
theorem pl3 : putL [5, 7] 2 9 = [5, 7] := by decide
theorem pe4 : putE [5, 7] 2 5 = 7 := by decide
theorem pl4 : putL [5, 7] 2 5 = [5, 7] := by decide
theorem po1 : posOf [7] 7 = 0 := by decide
theorem po2 : posOf [7] 5 = -1 := by decide
theorem dr1 : decide ((7 : Int) ∈ [7]) = true := by decide
theorem dr2 : ([7] : List Int).erase 7 = [] := by decide
theorem dr3 : decide ((7 : Int) ∈ ([] : List Int)) = false := by decide
theorem dr4 : ([] : List Int).erase 7 = [] := by decide
attribute [local irreducible] IsW Near putE putL posOf

set_option maxHeartbeats 8000000 in
set_option maxRecDepth 100000 in
theorem awake_calls (w : World) : Calls Try.prog 38 #[] w fun e w' => e = .returned (.bool true) ∧ Below w.heap.size w w' := by
  have HB := Aside0.mk (Below.refl w.heap.size w)
  go_enter Try.func38, Try.ntmps38
  go_upto_region 6 with (first | (go_at_call 39; refine (New_ok 2 _ (by decide) (by decide)).mono ?_; rintro e w' ⟨g, rfl, hI, hg, hb⟩; have HI := Aside0.mk hI; have HG := Aside0.mk hg; have HB' := Aside0.mk (below_step HB.out hb); clear hI hg hb HB; have HB := HB'; clear HB') | (go_at_call 41; with_reducible refine (Put_at g [] 2 5 0 [5] _ pe1 pl1 HI.out).mono ?_; rintro e w' ⟨rfl, hI, hn⟩; have HI' := Aside0.mk hI; have HB' := Aside0.mk (hn.bel HG.out HB.out); clear hI hn HI HB; have HI := HI'; have HB := HB'; clear HI' HB') | (go_at_call 41; with_reducible refine (Put_at g [5] 2 7 0 [5, 7] _ pe2 pl2 HI.out).mono ?_; rintro e w' ⟨rfl, hI, hn⟩; have HI' := Aside0.mk hI; have HB' := Aside0.mk (hn.bel HG.out HB.out); clear hI hn HI HB; have HI := HI'; have HB := HB'; clear HI' HB') | (go_at_call 41; with_reducible refine (Put_at g [5, 7] 2 9 5 [5, 7] _ pe3 pl3 HI.out).mono ?_; rintro e w' ⟨rfl, hI, hn⟩; have HI' := Aside0.mk hI; have HB' := Aside0.mk (hn.bel HG.out HB.out); clear hI hn HI HB; have HI := HI'; have HB := HB'; clear HI' HB') | (go_at_call 41; with_reducible refine (Put_at g [5, 7] 2 5 7 [5, 7] _ pe4 pl4 HI.out).mono ?_; rintro e w' ⟨rfl, hI, hn⟩; have HI' := Aside0.mk hI; have HB' := Aside0.mk (hn.bel HG.out HB.out); clear hI hn HI HB; have HI := HI'; have HB := HB'; clear HI' HB') | (go_at_call 43; with_reducible refine (Take_at g [5, 7] 2 5 true [7] _ rfl rfl rfl HI.out).mono ?_; rintro e w' ⟨rfl, hI, hn⟩; have HI' := Aside0.mk hI; have HB' := Aside0.mk (hn.bel HG.out HB.out); clear hI hn HI HB; have HI := HI'; have HB := HB'; clear HI' HB') | (go_at_call 48; with_reducible refine (At_at g [7] 2 7 0 _ po1 HI.out).mono ?_; rintro e w' ⟨rfl, hI, hn⟩; have HI' := Aside0.mk hI; have HB' := Aside0.mk (hn.bel HG.out HB.out); clear hI hn HI HB; have HI := HI'; have HB := HB'; clear HI' HB') | (go_at_call 48; with_reducible refine (At_at g [7] 2 5 (-1) _ po2 HI.out).mono ?_; rintro e w' ⟨rfl, hI, hn⟩; have HI' := Aside0.mk hI; have HB' := Aside0.mk (hn.bel HG.out HB.out); clear hI hn HI HB; have HI := HI'; have HB := HB'; clear HI' HB') | (go_at_call 45; with_reducible refine (Drop_at g [7] 2 7 true [] _ dr1 dr2 HI.out).mono ?_; rintro e w' ⟨rfl, hI, hn⟩; have HI' := Aside0.mk hI; have HB' := Aside0.mk (hn.bel HG.out HB.out); clear hI hn HI HB; have HI := HI'; have HB := HB'; clear HI' HB') | (go_at_call 45; with_reducible refine (Drop_at g [] 2 7 false [] _ dr3 dr4 HI.out).mono ?_; rintro e w' ⟨rfl, hI, hn⟩; have HI' := Aside0.mk hI; have HB' := Aside0.mk (hn.bel HG.out HB.out); clear hI hn HI HB; have HI := HI'; have HB := HB'; clear HI' HB'))
  go_wp2_with (first | (go_at_call 48; with_reducible refine (At_at g [7] 2 7 0 _ po1 HI.out).mono ?_; rintro e w' ⟨rfl, hI, hn⟩; have HI' := Aside0.mk hI; have HB' := Aside0.mk (hn.bel HG.out HB.out); clear hI hn HI HB; have HI := HI'; have HB := HB'; clear HI' HB') | (go_at_call 48; with_reducible refine (At_at g [7] 2 5 (-1) _ po2 HI.out).mono ?_; rintro e w' ⟨rfl, hI, hn⟩; have HI' := Aside0.mk hI; have HB' := Aside0.mk (hn.bel HG.out HB.out); clear hI hn HI HB; have HI := HI'; have HB := HB'; clear HI' HB') | (go_at_call 47; with_reducible refine (All_calls g _ _ _ HI.out).mono ?_; rintro e w' ⟨v, rfl, ho, hb⟩; obtain ⟨A0, c0, rfl⟩ := Kd.R_slice ho; have HI' := Aside0.mk (HI.out.below hb); have HB' := Aside0.mk (below_step HB.out hb); have HO := Aside0.mk ho; clear ho hb HI HB; have HI := HI'; have HB := HB'; clear HI' HB'))
  refine (signalmanref08_Same.calls 3 A0 c0 [7] _ 1 [7] true _ (Kd.C_alloc (Kd.R_reads' HO.out).2.2 _) (Kd.R_reads' HO.out).2.1 (C_one _ 7) (Nat.le_refl _) (by simp [signalmanref08_Same.f, signalmanref08_Same.l0, rd, wrap64])).mono ?_
  rintro e w1 ⟨rfl, m2, rfl⟩
  have HI' := Aside0.mk ((HI.out.alloc (.cells #[.int .i64 7] 3)).drewN m2)
  have HB' := Aside0.mk (pw_below_drewN (below_alloc HB.out (.cells #[.int .i64 7] 3)) m2)
  clear HI HB
  have HI := HI'
  have HB := HB'
  clear HI' HB'
  go_wp2_with (first | (go_at_call 45; with_reducible refine (Drop_at g [7] 2 7 true [] _ dr1 dr2 HI.out).mono ?_; rintro e w' ⟨rfl, hI, hn⟩; have HI' := Aside0.mk hI; have HB' := Aside0.mk (hn.bel HG.out HB.out); clear hI hn HI HB; have HI := HI'; have HB := HB'; clear HI' HB') | (go_at_call 45; with_reducible refine (Drop_at g [] 2 7 false [] _ dr3 dr4 HI.out).mono ?_; rintro e w' ⟨rfl, hI, hn⟩; have HI' := Aside0.mk hI; have HB' := Aside0.mk (hn.bel HG.out HB.out); clear hI hn HI HB; have HI := HI'; have HB := HB'; clear HI' HB'))
  go_ret
  exact ⟨rfl, HB.out⟩
end Go.Proofs.Ytagmefjpnmjcjaa.Wa
