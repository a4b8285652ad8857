/- WaitsDropped, walked by hand. -/
import Derived.Test.YtagmefjpnmjcjaaWaDrop
namespace Go.Proofs.Ytagmefjpnmjcjaa.Wa
open Go.RowKit Go.Proofs.YtagmefjpnmjcjaaW.PrintWords Go.Proofs.YtagmefjpnmjcjaaW.PrintLast Go.Proofs.YtagmefjpnmjcjaaW.PrintMore
attribute [local go_sem] max2_int min2_int max_two min_two
set_option linter.unusedVariables false
set_option linter.unusedSimpArgs false

theorem IsW.len {w : World} {g : Nat} {L : List Int} {mo : Int} (h : IsW w g L mo) : L.length ≤ 12 := by
  obtain ⟨ids, fr, HG, h2, h3, h4⟩ := h
  omega
theorem putL_nodup {L : List Int} {x : Int} (h : L.Nodup) (hl : L.length < 12) : (putL L 12 x).Nodup ∧ (putL L 12 x).length ≤ L.length + 1 := by
  unfold putL
  by_cases c : x ∈ L
  · rw [if_pos c]; exact ⟨h, by omega⟩
  · rw [if_neg c, if_neg (by omega)]
    exact ⟨by rw [List.nodup_append]; exact ⟨h, by simp, by intro a ha b hb; simp at hb; subst hb; intro e; subst e; exact c ha⟩, by simp⟩
theorem putL_filter {L : List Int} {x id : Int} (hl : L.length < 12) (hx : x ≠ id) : putL (L.filter (· != id)) 12 x = (putL L 12 x).filter (· != id) := by
  have hlf : (L.filter (· != id)).length < 12 := Nat.lt_of_le_of_lt (List.length_filter_le _ _) hl
  have m : x ∈ L.filter (· != id) ↔ x ∈ L := by simp [hx]
  unfold putL
  by_cases c : x ∈ L
  · rw [if_pos (m.2 c), if_pos c]
  · rw [if_neg (fun h => c (m.1 h)), if_neg (by omega), if_neg c, if_neg (by omega)]
    simp [hx]
theorem putL_same {L : List Int} {id : Int} (hl : L.length < 12) : (putL L 12 id).filter (· != id) = L.filter (· != id) := by
  unfold putL
  by_cases c : id ∈ L
  · rw [if_pos c]
  · rw [if_neg c, if_neg (by omega)]
    simp
theorem Near.bel2 {w w' w0 : World} {g : Nat} (h : Near w w' g) (hg : w0.heap.size ≤ g) (hB : Below w0.heap.size w0 w) : Below w0.heap.size w0 w' := h.2 w0 hg hB
theorem same_l0_refl (l : List Int) (hl : l.length ≤ 1000000) : ∀ (k i : Nat), i ≤ l.length → l.length < k + i → signalmanref08_Same.l0 k l l (i : Int) = some true
  | 0, i, h1, h2 => absurd h2 (by omega)
  | k + 1, i, h1, h2 => by
    unfold signalmanref08_Same.l0
    by_cases c : i < l.length
    · have hw : wrap64 ((i : Int) + 1) = ((i + 1 : Nat) : Int) := by unfold wrap64; omega
      rw [if_pos (by omega), if_pos (by omega), if_pos (by omega), if_pos rfl, hw]
      exact same_l0_refl l hl k (i + 1) (by omega) (by omega)
    · rw [if_neg (by omega)]
theorem same_refl (l : List Int) (hl : l.length ≤ 1000000) : signalmanref08_Same.f (l.length + 1) l l = some true := by
  unfold signalmanref08_Same.f
  rw [if_pos rfl]
  exact same_l0_refl l hl _ 0 (by omega) (by omega)
theorem Same_same (A0 : Option Addr) (c0 : Nat) (l0 : List Int) (A1 : Option Addr) (c1 : Nat) (l1 : List Int) (w : World) (he : l0 = l1) (hl : l1.length ≤ 1000000) (hr0 : Kd.C (Kd.int .i64) w A0 l0.length l0) (hc0 : l0.length ≤ c0) (hr1 : Kd.C (Kd.int .i64) w A1 l1.length l1) (hc1 : l1.length ≤ c1) :
    Calls Try.prog 33 #[.slice A0 l0.length c0, .slice A1 l1.length c1] w fun e w' => e = .returned (.bool true) ∧ Drawn0 w w' := by
  subst he
  exact signalmanref08_Same.calls _ A0 c0 l0 A1 c1 l0 true w hr0 hc0 hr1 hc1 (same_refl l0 hl)
theorem posOf_ge (L : List Int) (id : Int) : decide (0 ≤ posOf L id) = decide (id ∈ L) := by
  apply decide_eq_decide.2
  unfold posOf
  by_cases h : L.idxOf id < L.length
  · rw [if_pos h]; exact ⟨fun _ => List.idxOf_lt_length_iff.1 h, fun _ => by omega⟩
  · rw [if_neg h]; exact ⟨fun h2 => by omega, fun h2 => absurd (List.idxOf_lt_length_iff.2 h2) h⟩
attribute [local irreducible] IsW Near putE putL posOf
set_option maxHeartbeats 8000000 in
set_option maxRecDepth 100000 in
theorem Dropped_calls (A0 : Option Addr) (c0 : Nat) (l : List Int) (id : Int) (w : World) (hr : Kd.C (Kd.int .i64) w A0 l.length l) (hc : l.length ≤ c0) :
    Calls Try.prog 11 #[.slice A0 l.length c0, .int .i64 id] w fun e w' => e = .returned (.bool true) ∧ Below w.heap.size w w' := by
  have HB := Aside0.mk (Below.refl w.heap.size w)
  have HR := Aside0.mk hr
  clear hr hc
  by_cases c : l.length ≤ 12
  · have b1 : decide (12 < (l.length : Int)) = false := decide_eq_false (by omega)
    go_enter Try.func11, Try.ntmps11
    go_wp2_with (first | (go_at_call 38; refine (awake_calls _).mono ?_; rintro e w' ⟨rfl, hb⟩; have HB' := Aside0.mk (below_step HB.out hb); clear hb HB; have HB := HB'; clear HB'))
    go_wp2_with (first | (go_at_call 39; have HI0 := HI; clear HI0; refine (New_ok 12 _ (by decide) (by decide)).mono ?_; rintro e w' ⟨g2, rfl, hI, hg, hb⟩; have HN := Aside0.mk (show g ≠ g2 from fun e_ => by have := HI.out.lt; omega); have HI' := Aside0.mk (HI.out.below hb); have HI2 := Aside0.mk hI; have HG2 := Aside0.mk (Nat.le_trans HB.out.size hg); have HB' := Aside0.mk (below_step HB.out hb); clear hI hg hb HB HI; have HB := HB'; have HI := HI'; clear HB' HI') | (go_at_call 39; refine (New_ok 12 _ (by decide) (by decide)).mono ?_; rintro e w' ⟨g, rfl, hI, hg, hb⟩; have HI := Aside0.mk hI; have HG := Aside0.mk (Nat.le_trans HB.out.size hg); have HB' := Aside0.mk (below_step HB.out hb); clear hI hg hb HB; have HB := HB'; clear HB'))
    go_loopg [33] (l.length + 1) (fun kq v33 w' => ∃ (i : Nat) (La : List Int), v33 = .int .i64 (i : Int) ∧ Aside0 (kq + i = l.length + 1) ∧ Aside0 (i ≤ l.length) ∧ Aside0 (La.Nodup ∧ La.length ≤ i) ∧ Aside0 (IsW w' g La 12) ∧ Aside0 (IsW w' g2 (La.filter (· != id)) 12) ∧ Aside0 (Below w.heap.size w w'))
    case atStart => exact ⟨0, [], rfl, ⟨by omega⟩, ⟨by omega⟩, ⟨by simp, by simp⟩, HI, HI2, HB⟩
    case round =>
      clear HI HI2 HB
      obtain ⟨i, La, rfl, HK, HL, HD, HI, HI2, HB⟩ := hrel
      obtain ⟨gk, rfl⟩ : ∃ gk', gk = gk' + 1 := ⟨gk - 1, by have := HK.out; have := HL.out; omega⟩
      by_cases ci : i < l.length
      · have cb : decide ((i : Int) < (l.length : Int)) = true := decide_eq_true (by omega)
        have p101 : 0 ≤ (i : Int) := by omega
        have q101 : (i : Int) < (l.length : Int) := by omega
        obtain ⟨ad101, e101, hx101_0⟩ := Kd.at_int HR.out i p101 q101
        cases e101
        replace hx101_0 := (HB.out.cell (World.block_lt_of_cell? w _ hx101_0)).trans hx101_0
        obtain ⟨x, hxv⟩ : ∃ x, rd l i = x := ⟨_, rfl⟩
        rw [hxv] at hx101_0
        simp only [Int.toNat_natCast] at hx101_0
        have HND := Aside0.mk (putL_nodup (x := x) HD.out.1 (by have := HD.out.2; omega))
        have HLL := Aside0.mk (show La.length < 12 by have := HD.out.2; omega)
        by_cases ce : x = id
        · have c2 : (x != id) = false := by simp [ce]
          have HF := Aside0.mk (putL_same (id := id) HLL.out)
          rw [ce] at HND
          go_wp2_with (first | (go_at_call 41; with_reducible refine (Put_calls g _ _ _ _ HI.out).mono ?_; rintro e w' ⟨rfl, hI, hn⟩; have HJ' := Aside0.mk (HI2.out.near hn (Ne.symm HN.out)); have HI' := Aside0.mk hI; have HB' := Aside0.mk (hn.bel2 HG.out HB.out); clear hI hn HI HB HI2; have HI := HI'; have HB := HB'; have HI2 := HJ'; clear HI' HB' HJ') | (go_at_call 41; with_reducible refine (Put_calls g2 _ _ _ _ HI2.out).mono ?_; rintro e w' ⟨rfl, hI, hn⟩; have HJ' := Aside0.mk (HI.out.near hn HN.out); have HI' := Aside0.mk hI; have HB' := Aside0.mk (hn.bel2 HG2.out HB.out); clear hI hn HI HB HI2; have HI2 := HI'; have HB := HB'; have HI := HJ'; clear HI' HB' HJ'))
          go_roundg gk
          case measure => omega
          case rel => exact ⟨i + 1, putL La 12 id, congrArg (Value.int .i64) (by omega), ⟨by have := HK.out; omega⟩, ⟨by omega⟩, ⟨HND.out.1, by have := HND.out.2; have := HD.out.2; omega⟩, HI, ⟨by have := HI2.out; first | exact this | (rw [HF.out]; exact this) | (rw [← HF.out]; exact this)⟩, HB⟩
        · have c2 : (x != id) = true := by simp [ce]
          have HF := Aside0.mk (putL_filter HLL.out ce)
          go_wp2_with (first | (go_at_call 41; with_reducible refine (Put_calls g _ _ _ _ HI.out).mono ?_; rintro e w' ⟨rfl, hI, hn⟩; have HJ' := Aside0.mk (HI2.out.near hn (Ne.symm HN.out)); have HI' := Aside0.mk hI; have HB' := Aside0.mk (hn.bel2 HG.out HB.out); clear hI hn HI HB HI2; have HI := HI'; have HB := HB'; have HI2 := HJ'; clear HI' HB' HJ') | (go_at_call 41; with_reducible refine (Put_calls g2 _ _ _ _ HI2.out).mono ?_; rintro e w' ⟨rfl, hI, hn⟩; have HJ' := Aside0.mk (HI.out.near hn HN.out); have HI' := Aside0.mk hI; have HB' := Aside0.mk (hn.bel2 HG2.out HB.out); clear hI hn HI HB HI2; have HI2 := HI'; have HB := HB'; have HI := HJ'; clear HI' HB' HJ'))
          go_roundg gk
          case measure => omega
          case rel => exact ⟨i + 1, putL La 12 x, congrArg (Value.int .i64) (by omega), ⟨by have := HK.out; omega⟩, ⟨by omega⟩, ⟨HND.out.1, by have := HND.out.2; have := HD.out.2; omega⟩, HI, ⟨by have := HI2.out; first | exact this | (rw [HF.out]; exact this) | (rw [← HF.out]; exact this)⟩, HB⟩
      · have cb : decide ((i : Int) < (l.length : Int)) = false := decide_eq_false (by omega)
        have HE := Aside0.mk (HD.out.1.erase_eq_filter id)
        have HX := Aside0.mk (show posOf (La.filter (· != id)) id = -1 from posOf_none.2 (by simp))
        obtain ⟨b, hb⟩ : ∃ b, decide (id ∈ La) = b := ⟨_, rfl⟩
        have hp := (posOf_ge La id).trans hb
        have HBB := Aside0.mk hb
        obtain ⟨p, hpp⟩ : ∃ p, posOf La id = p := ⟨_, rfl⟩
        have HPP := Aside0.mk hpp
        rw [hpp] at hp
        have HLN := Aside0.mk (show (La.filter (· != id)).length ≤ 1000000 by have := HI2.out.len; omega)
        clear hb hpp
        have hee : (b == b) = true := by cases b <;> rfl
        go_wp2_with (first | (go_at_call 48; with_reducible refine (At_at g La 12 id p _ HPP.out HI.out).mono ?_; rintro e w' ⟨rfl, hI, hn⟩; have HJ' := Aside0.mk (HI2.out.near hn (Ne.symm HN.out)); have HI' := Aside0.mk hI; have HB' := Aside0.mk (hn.bel2 HG.out HB.out); clear hI hn HI HB HI2; have HI := HI'; have HB := HB'; have HI2 := HJ'; clear HI' HB' HJ') | (go_at_call 45; with_reducible refine (Drop_at g La 12 id b (La.filter (· != id)) _ HBB.out HE.out HI.out).mono ?_; rintro e w' ⟨rfl, hI, hn⟩; have HJ' := Aside0.mk (HI2.out.near hn (Ne.symm HN.out)); have HI' := Aside0.mk hI; have HB' := Aside0.mk (hn.bel2 HG.out HB.out); clear hI hn HI HB HI2; have HI := HI'; have HB := HB'; have HI2 := HJ'; clear HI' HB' HJ') | (go_at_call 48; with_reducible refine (At_at g (La.filter (· != id)) 12 id (-1) _ HX.out HI.out).mono ?_; rintro e w' ⟨rfl, hI, hn⟩; have HI' := Aside0.mk hI; have HB' := Aside0.mk (hn.bel2 HG.out HB.out); clear hI hn HI HB; have HI := HI'; have HB := HB'; clear HI' HB') | (go_at_call 47; with_reducible refine (All_calls g _ _ _ HI.out).mono ?_; rintro e w' ⟨v, rfl, ho, hb⟩; obtain ⟨A0, c0, rfl⟩ := Kd.R_slice ho; have HI' := Aside0.mk (HI.out.below hb); have HJ' := Aside0.mk (HI2.out.below hb); have HB' := Aside0.mk (below_step HB.out hb); have HO := Aside0.mk ho; clear ho hb HI HB HI2; have HI := HI'; have HI2 := HJ'; have HB := HB'; clear HI' HB' HJ') | (go_at_call 47; with_reducible refine (All_calls g2 _ _ _ HI2.out).mono ?_; rintro e w' ⟨v2, rfl, ho2, hb⟩; obtain ⟨A2, c2, rfl⟩ := Kd.R_slice ho2; have HI' := Aside0.mk (HI.out.below hb); have HJ' := Aside0.mk (HI2.out.below hb); have HB' := Aside0.mk (below_step HB.out hb); have HO' := Aside0.mk (Kd.R_below HO.out hb); have HO2 := Aside0.mk ho2; clear ho2 hb HI HB HI2 HO; have HO := HO'; have HI := HI'; have HI2 := HJ'; have HB := HB'; clear HI' HB' HJ' HO') | (go_at_call 33; with_reducible refine (Same_same A0 c0 _ A2 c2 _ _ rfl HLN.out (Kd.R_reads' HO.out).2.2 (Kd.R_reads' HO.out).2.1 (Kd.R_reads' HO2.out).2.2 (Kd.R_reads' HO2.out).2.1).mono ?_; rintro e w1 ⟨rfl, m2, rfl⟩; have HI' := Aside0.mk (HI.out.drewN m2); have HB' := Aside0.mk (pw_below_drewN HB.out m2); clear HI HB; have HI := HI'; have HB := HB'; clear HI' HB'))
        go_ret
        exact ⟨rfl, HB.out⟩
  · have b1 : decide (12 < (l.length : Int)) = true := decide_eq_true (by omega)
    go_enter Try.func11, Try.ntmps11
    go_wp2_with (first | (go_at_call 38; refine (awake_calls _).mono ?_; rintro e w' ⟨rfl, hb⟩; have HB' := Aside0.mk (below_step HB.out hb); clear hb HB; have HB := HB'; clear HB'))
    go_ret
    exact ⟨rfl, HB.out⟩
end Go.Proofs.Ytagmefjpnmjcjaa.Wa
