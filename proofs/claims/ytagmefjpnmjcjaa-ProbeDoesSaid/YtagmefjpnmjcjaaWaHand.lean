/- The row of who waits (the ring of package waits), by hand: what each method does to the row's cells, told of the list of who waits. -/
import Derived.Test.YtagmefjpnmjcjaaProg
import Derived.Below
import Derived.Deep.Draws
import Derived.Deep.AppendLies
import Derived.Maps.AppendAt
import Derived.OwnWalk
import Derived.Laws.BytesArg
import Derived.Laws.MakeOwn
import Derived.Laws.OwnMore
import Derived.Deep.OwnRows
import Derived.Tactics
import Derived.Lib.ConvBytes
import Derived.Laws.Slices
import Derived.WalkKit
import Derived.KernelRfl
import Derived.RowKit3
import Derived.Deep.LoopGhost
import Derived.Deep.QuietTactic
import Derived.BigQuiet
import Derived.WideLaws
import Derived.Deep.DeepCutAuto
import Derived.Deep.CutBlock
import Derived.Deep.RegionHeld3
import Derived.Laws.Rows
import Derived.Lib.AppendStr
import Derived.ArgAppend
import Derived.Laws.IdiomCopy
import Derived.OrdersHeld
import Derived.Laws.BitsLemmas
import Derived.RowKit
import Derived.Test.YtagmefjpnmjcjaaWWords
import Derived.Test.YtagmefjpnmjcjaaWLast
import Derived.Test.YtagmefjpnmjcjaaWTab
import Derived.Test.YtagmefjpnmjcjaaWFour
import Derived.Test.YtagmefjpnmjcjaaWQPut
import Derived.Test.YtagmefjpnmjcjaaWApart
import Derived.Test.YtagmefjpnmjcjaaWArr
import Derived.Test.YtagmefjpnmjcjaaWZeros
import Derived.Test.YtagmefjpnmjcjaaWFoot
import Derived.Test.YtagmefjpnmjcjaaWKept
import Derived.Test.YtagmefjpnmjcjaaWShare
import Derived.Test.YtagmefjpnmjcjaaWN
import Derived.Test.YtagmefjpnmjcjaaWFootNe
import Derived.Test.YtagmefjpnmjcjaaWAt
import Derived.Test.YtagmefjpnmjcjaaWEqStruct
import Derived.Test.YtagmefjpnmjcjaaWRepsOne
import Derived.Test.YtagmefjpnmjcjaaWInv
import Derived.Test.YtagmefjpnmjcjaaWInvWords
import Derived.Test.YtagmefjpnmjcjaaWGuard
import Derived.Test.YtagmefjpnmjcjaaWNEv
import Derived.Test.YtagmefjpnmjcjaaWMore
namespace Go.Proofs.Ytagmefjpnmjcjaa.Wa
open Go.RowKit Go.Proofs.YtagmefjpnmjcjaaW.PrintWords Go.Proofs.YtagmefjpnmjcjaaW.PrintLast Go.Proofs.YtagmefjpnmjcjaaW.PrintMore
attribute [local go_sem] max2_int min2_int max_two min_two
set_option linter.unusedVariables false
set_option linter.unusedSimpArgs false

/-- The row's cells: twelve places, where it begins, how many wait, how many may. -/
def cellsOf (ids : List Int) (fr mn mo : Int) : Array Value := ((ids ++ [fr, mn, mo]).map (Value.int .i64)).toArray
theorem cell_id {ids : List Int} (hl : ids.length = 12) {j : Nat} (hj : j < 12) (fr mn mo : Int) : (cellsOf ids fr mn mo)[j]? = some (.int .i64 (ids[j]'(by omega))) := by
  unfold cellsOf
  rw [List.getElem?_toArray, List.getElem?_map, List.getElem?_append_left (by omega), List.getElem?_eq_getElem (by omega)]
  rfl
theorem cell_fr {ids : List Int} (hl : ids.length = 12) (fr mn mo : Int) : (cellsOf ids fr mn mo)[12]? = some (.int .i64 fr) := by
  unfold cellsOf
  rw [List.getElem?_toArray, List.getElem?_map, List.getElem?_append_right (by omega), hl]
  rfl
theorem cell_mn {ids : List Int} (hl : ids.length = 12) (fr mn mo : Int) : (cellsOf ids fr mn mo)[13]? = some (.int .i64 mn) := by
  unfold cellsOf
  rw [List.getElem?_toArray, List.getElem?_map, List.getElem?_append_right (by omega), hl]
  rfl
theorem cell_mo {ids : List Int} (hl : ids.length = 12) (fr mn mo : Int) : (cellsOf ids fr mn mo)[14]? = some (.int .i64 mo) := by
  unfold cellsOf
  rw [List.getElem?_toArray, List.getElem?_map, List.getElem?_append_right (by omega), hl]
  rfl
theorem set_id {ids : List Int} (hl : ids.length = 12) {j : Nat} (hj : j < 12) (fr mn mo x : Int) : (cellsOf ids fr mn mo).setIfInBounds j (.int .i64 x) = cellsOf (ids.set j x) fr mn mo := by
  unfold cellsOf
  rw [List.setIfInBounds_toArray, ← List.map_set, List.set_append_left _ _ (by omega)]
theorem set_fr {ids : List Int} (hl : ids.length = 12) (fr mn mo x : Int) : (cellsOf ids fr mn mo).setIfInBounds 12 (.int .i64 x) = cellsOf ids x mn mo := by
  unfold cellsOf
  rw [List.setIfInBounds_toArray, ← List.map_set, List.set_append_right _ _ (by omega), hl]
  rfl
theorem set_mn {ids : List Int} (hl : ids.length = 12) (fr mn mo x : Int) : (cellsOf ids fr mn mo).setIfInBounds 13 (.int .i64 x) = cellsOf ids fr x mo := by
  unfold cellsOf
  rw [List.setIfInBounds_toArray, ← List.map_set, List.set_append_right _ _ (by omega), hl]
  rfl

set_option maxHeartbeats 8000000 in
set_option maxRecDepth 100000 in
/-- The address of one's place. -/
theorem at_calls (g : Nat) (ids : List Int) (fr mn mo i : Int) (w : World) (HG : w.heap[g]? = some (.cells (cellsOf ids fr mn mo) 127 (0, 0))) (hl : ids.length = 12) (h0 : 0 ≤ fr) (h1 : fr < 12) (i0 : 0 ≤ i) (i1 : i ≤ 12) :
    Calls Try.prog 65 #[.pointer (some ⟨g, 0, none⟩), .int .i64 i] w fun e w' => e = .returned (.pointer (some ⟨g, ((fr + i) % 12).toNat, none⟩)) ∧ Drawn0 w w' := by
  have hc := (blk_cell HG 12).trans (cell_fr hl fr mn mo)
  have hs : IntKind.i64.wrap (fr + i) = fr + i := by rw [IntKind.wrap_i64]; omega
  have hm : (fr + i).tmod 12 = (fr + i) % 12 := Int.tmod_eq_emod_of_nonneg (by omega)
  have hb0 : 0 ≤ (fr + i) % 12 := by omega
  have hb1 : (fr + i) % 12 < 12 := by omega
  clear HG
  go_enter Try.func65, Try.ntmps65
  go_wp2
  go_quiet (fail)
  go_wp2
  go_ret
  exact ⟨rfl, _, rfl⟩

/-- The ring's places from fr on hold L. -/
def Ring (ids : List Int) (fr : Int) (L : List Int) : Prop := ids.length = 12 ∧ 0 ≤ fr ∧ fr < 12 ∧ L.length ≤ 12 ∧ ∀ (i : Nat) (h : i < L.length), ids[((fr + i) % 12).toNat]? = some L[i]
theorem Ring.cell {ids : List Int} {fr : Int} {L : List Int} (h : Ring ids fr L) {w : World} {g : Nat} {mn mo : Int} (HG : w.heap[g]? = some (.cells (cellsOf ids fr mn mo) 127 (0, 0))) (i : Nat) (hi : i < L.length) :
    w.cell? ⟨g, ((fr + i) % 12).toNat, none⟩ = some (.int .i64 L[i]) := by
  obtain ⟨h1, h2, h3, h4, h5⟩ := h
  have := h5 i hi
  rw [List.getElem?_eq_some_iff] at this
  obtain ⟨hj, he⟩ := this
  rw [(blk_cell HG _).trans (cell_id h1 (by omega) fr mn mo), he]
/-- How many stand ahead of id; -1: it doesn't wait. -/
def posOf (L : List Int) (id : Int) : Int := if L.idxOf id < L.length then (L.idxOf id : Int) else -1

theorem idxOf_eq {L : List Int} {id : Int} {i : Nat} (hi : i < L.length) (he : L[i] = id) (hn : ∀ j : Nat, j < i → L[j]? ≠ some id) : L.idxOf id = i := by
  have hm : id ∈ L := he ▸ List.getElem_mem hi
  have hlt := List.idxOf_lt_length_iff.2 hm
  have hg := List.getElem_idxOf hlt
  rcases Nat.lt_trichotomy (L.idxOf id) i with h | h | h
  · exact absurd (by rw [List.getElem?_eq_getElem hlt, hg]) (hn _ h)
  · exact h
  · have := List.not_of_lt_findIdx (p := (· == id)) (xs := L) (i := i) (by simpa [List.idxOf] using h)
    simp [he] at this
theorem idxOf_none {L : List Int} {id : Int} (hn : ∀ j : Nat, j < L.length → L[j]? ≠ some id) : ¬ L.idxOf id < L.length := by
  intro h
  exact hn _ h (by rw [List.getElem?_eq_getElem h, List.getElem_idxOf h])

set_option maxHeartbeats 8000000 in
set_option maxRecDepth 100000 in
theorem At_calls (g : Nat) (ids : List Int) (fr mo id : Int) (L : List Int) (w : World) (HG : w.heap[g]? = some (.cells (cellsOf ids fr (L.length : Int) mo) 127 (0, 0))) (hr : Ring ids fr L) :
    Calls Try.prog 48 #[.pointer (some ⟨g, 0, none⟩), .int .i64 id] w fun e w' => e = .returned (.int .i64 (posOf L id)) ∧ Drawn0 w w' := by
  have hcm := (blk_cell HG 13).trans (cell_mn hr.1 fr (L.length : Int) mo)
  have HGA := Aside0.mk HG
  have HR := Aside0.mk hr
  have hln := hr.2.2.2.1
  clear HG hr
  go_enter Try.func48, Try.ntmps48
  go_wp2
  go_loopg [10] (L.length + 1) (fun kq v10 w' => ∃ (i : Nat), v10 = .int .i64 (i : Int) ∧ Aside0 (kq + i = L.length + 1) ∧ Aside0 (∀ j : Nat, j < i → L[j]? ≠ some id) ∧ Drawn0 w w')
  case atStart => exact ⟨0, rfl, ⟨by omega⟩, ⟨fun j hj => by omega⟩, Drawn0.refl _⟩
  case round =>
    obtain ⟨i, rfl, HK, HN, ⟨m, rfl⟩⟩ := hrel
    have hrest : i ≤ L.length → ∃ gk', gk = gk' + 1 := fun h => ⟨gk - 1, by have := HK.out; omega⟩
    by_cases c : i < L.length
    · have c1 : decide ((i : Int) < (L.length : Int)) = true := decide_eq_true (by omega)
      have hx := HR.out.cell HGA.out i c
      have hw : wrap64 ((i : Int) + 1) = ((i + 1 : Nat) : Int) := by unfold wrap64; omega
      by_cases ce : L[i] = id
      · have c2 : (L[i] == id) = true := beq_iff_eq.mpr ce
        have hp : Aside0 ((i : Int) = posOf L id) := ⟨by
          unfold posOf
          rw [idxOf_eq c ce HN.out, if_pos c]⟩
        go_wp2_with (first | (go_at_call 65; refine (at_calls g ids fr _ mo i _ (by first | exact HGA.out | exact blk_drewN HGA.out _) HR.out.1 HR.out.2.1 HR.out.2.2.1 (by omega) (by omega)).mono ?_; rintro e w' ⟨rfl, m2, rfl⟩))
        go_ret
        exact ⟨congrArg (fun x => Ending.returned (.int .i64 x)) hp.out, by repeat (first | exact Drawn0.refl _ | apply Drawn0.step)⟩
      · have c2 : (L[i] == id) = false := beq_eq_false_iff_ne.mpr ce
        go_wp2_with (first | (go_at_call 65; refine (at_calls g ids fr _ mo i _ (by first | exact HGA.out | exact blk_drewN HGA.out _) HR.out.1 HR.out.2.1 HR.out.2.2.1 (by omega) (by omega)).mono ?_; rintro e w' ⟨rfl, m2, rfl⟩))
        obtain ⟨gk, rfl⟩ := hrest (Nat.le_of_lt c)
        go_roundg gk
        case measure => omega
        case rel => exact ⟨i + 1, congrArg (Value.int .i64) (by omega), ⟨by have := HK.out; omega⟩, ⟨fun j hj => by
          rcases Nat.lt_or_ge j i with h | h
          · exact HN.out j h
          · have : j = i := by omega
            subst this
            rw [List.getElem?_eq_getElem c]
            intro h2
            exact ce (Option.some.inj h2)⟩, by repeat (first | exact Drawn0.refl _ | apply Drawn0.step)⟩
    · have c1 : decide ((i : Int) < (L.length : Int)) = false := decide_eq_false (by omega)
      have hp : Aside0 ((-1 : Int) = posOf L id) := ⟨by
        unfold posOf
        rw [if_neg (idxOf_none fun j hj => HN.out j (by omega))]⟩
      go_wp2
      go_ret
      exact ⟨congrArg (fun x => Ending.returned (.int .i64 x)) hp.out, by repeat (first | exact Drawn0.refl _ | apply Drawn0.step)⟩

theorem posOf_none {L : List Int} {id : Int} : posOf L id = -1 ↔ id ∉ L := by
  unfold posOf
  by_cases h : L.idxOf id < L.length
  · rw [if_pos h]
    exact ⟨fun h2 => by omega, fun h2 => absurd (List.idxOf_lt_length_iff.1 h) h2⟩
  · rw [if_neg h]
    exact ⟨fun _ h2 => h (List.idxOf_lt_length_iff.2 h2), fun _ => rfl⟩
/-- A row at block g: who waits, how many may. -/
def IsW (W : World) (g : Nat) (L : List Int) (mo : Int) : Prop := ∃ ids fr, W.heap[g]? = some (.cells (cellsOf ids fr (L.length : Int) mo) 127 (0, 0)) ∧ Ring ids fr L ∧ (L.length : Int) ≤ mo ∧ mo ≤ 12
theorem Ring.put {ids : List Int} {fr : Int} {L : List Int} (h : Ring ids fr L) (hn : L.length < 12) (id : Int) : Ring (ids.set ((fr + (L.length : Int)) % 12).toNat id) fr (L ++ [id]) := by
  obtain ⟨h1, h2, h3, h4, h5⟩ := h
  refine ⟨by simpa using h1, h2, h3, by simp; omega, fun i hi => ?_⟩
  rw [List.length_append, List.length_singleton] at hi
  by_cases c : i < L.length
  · rw [List.getElem_append_left c, List.getElem?_set_ne (by omega)]
    exact h5 i c
  · have : i = L.length := by omega
    subst this
    rw [List.getElem?_set_self (by omega)]
    simp
def putE (L : List Int) (mo id : Int) : Int := if id ∈ L then 7 else if (L.length : Int) = mo then 5 else 0
def putL (L : List Int) (mo id : Int) : List Int := if id ∈ L then L else if (L.length : Int) = mo then L else L ++ [id]

/-- All blocks but g stay, and what lies below is as before. -/
def Near (w w' : World) (g : Nat) : Prop := KeepBut w w' g none ∧ ∀ w0 : World, w0.heap.size ≤ g → Below w0.heap.size w0 w → Below w0.heap.size w0 w'
theorem Near.refl (w : World) (g : Nat) : Near w w g := ⟨KeepBut.refl _ _ _, fun _ _ h => h⟩
theorem Near.drewN {w w1 : World} {g : Nat} (h : Near w w1 g) (m : Nat) : Near w (w1.drewN m) g := ⟨h.1.trans (KeepBut.of_below (pw_below_drewN (Below.refl _ _) m) g none) (.inl rfl), fun w0 hg hB => pw_below_drewN (h.2 w0 hg hB) m⟩
theorem Near.set_ {w w1 : World} {g : Nat} (h : Near w w1 g) (j : Nat) (u : Value) : Near w (w1.setCell ⟨g, j, none⟩ u) g := ⟨h.1.set_ j u, fun w0 hg hB => below_set (h.2 w0 hg hB) hg⟩
theorem keep_drewN {w : World} {g : Nat} (m : Nat) : KeepBut w (w.drewN m) g none := KeepBut.of_below (pw_below_drewN (Below.refl _ _) m) g none
set_option maxHeartbeats 8000000 in
set_option maxRecDepth 100000 in
theorem Put_calls (g : Nat) (mo id : Int) (L : List Int) (w : World) (hI : IsW w g L mo) :
    Calls Try.prog 41 #[.pointer (some ⟨g, 0, none⟩), .int .i64 id] w fun e w' => e = .returned (.int .i64 (putE L mo id)) ∧ IsW w' g (putL L mo id) mo ∧ Near w w' g := by
  obtain ⟨ids, fr, HG, hr, hmo, hm12⟩ := hI
  have hcm := (blk_cell HG 13).trans (cell_mn hr.1 fr (L.length : Int) mo)
  have hco := (blk_cell HG 14).trans (cell_mo hr.1 fr (L.length : Int) mo)
  have hln := hr.2.2.2.1
  have HGA := Aside0.mk HG
  have HR := Aside0.mk hr
  clear HG hr
  by_cases c1 : id ∈ L
  · have hb : (posOf L id == -1) = false := beq_eq_false_iff_ne.mpr fun h => posOf_none.1 h c1
    have he : Aside0 ((7 : Int) = putE L mo id) := ⟨by unfold putE; rw [if_pos c1]⟩
    have hL : Aside0 (L = putL L mo id) := ⟨by unfold putL; rw [if_pos c1]⟩
    go_enter Try.func41, Try.ntmps41
    go_wp2_with (first | (go_at_call 48; refine (At_calls g ids fr mo id L _ HGA.out HR.out).mono ?_; rintro e w' ⟨rfl, m2, rfl⟩))
    go_ret
    exact ⟨congrArg (fun x => Ending.returned (.int .i64 x)) he.out, by rw [← hL.out]; exact ⟨ids, fr, by (with_reducible repeat refine blk_drewN ?_ _); exact HGA.out, HR.out, hmo, hm12⟩, by repeat (first | exact Near.refl _ _ | apply Near.drewN)⟩
  · have hb : (posOf L id == -1) = true := beq_iff_eq.mpr (posOf_none.2 c1)
    have hp := posOf_none.2 c1
    by_cases c2 : (L.length : Int) = mo
    · have hb2 : ((L.length : Int) == mo) = true := beq_iff_eq.mpr c2
      have he : Aside0 ((5 : Int) = putE L mo id) := ⟨by unfold putE; rw [if_neg c1, if_pos c2]⟩
      have hL : Aside0 (L = putL L mo id) := ⟨by unfold putL; rw [if_neg c1, if_pos c2]⟩
      go_enter Try.func41, Try.ntmps41
      go_wp2_with (first | (go_at_call 48; refine (At_calls g ids fr mo id L _ HGA.out HR.out).mono ?_; rintro e w' ⟨rfl, m2, rfl⟩))
      go_quiet (fail)
      go_wp2
      go_ret
      exact ⟨congrArg (fun x => Ending.returned (.int .i64 x)) he.out, by rw [← hL.out]; exact ⟨ids, fr, by (with_reducible repeat refine blk_drewN ?_ _); exact HGA.out, HR.out, hmo, hm12⟩, by repeat (first | exact Near.refl _ _ | apply Near.drewN)⟩
    · have hb2 : ((L.length : Int) == mo) = false := beq_eq_false_iff_ne.mpr c2
      have hlt : L.length < 12 := by omega
      have he : Aside0 ((0 : Int) = putE L mo id) := ⟨by unfold putE; rw [if_neg c1, if_neg c2]⟩
      have hL : Aside0 (L ++ [id] = putL L mo id) := ⟨by unfold putL; rw [if_neg c1, if_neg c2]⟩
      have hj : ((fr + (L.length : Int)) % 12).toNat < 12 := by have := HR.out.2.1; omega
      have hold := (blk_cell HGA.out ((fr + (L.length : Int)) % 12).toNat).trans (cell_id HR.out.1 hj fr (L.length : Int) mo)
      have hfz := blk_frozen HGA.out ((fr + (L.length : Int)) % 12).toNat
      have S1 := Aside0.mk (fun n : Nat => (blk_set (blk_drewN HGA.out n) ((fr + (L.length : Int)) % 12).toNat (.int .i64 id)).trans (by rw [set_id HR.out.1 hj]))
      have hl2 : (ids.set ((fr + (L.length : Int)) % 12).toNat id).length = 12 := by simpa using HR.out.1
      have h13 := fun n => (blk_cell (S1.out n) 13).trans (cell_mn hl2 fr (L.length : Int) mo)
      have f13 := fun n => blk_frozen (S1.out n) 13
      have S2 := Aside0.mk (fun n : Nat => (blk_set (S1.out n) 13 (.int .i64 ((L.length : Int) + 1))).trans (by rw [set_mn hl2]))
      clear hl2
      go_enter Try.func41, Try.ntmps41
      go_wp2_with (first | (go_at_call 48; refine (At_calls g ids fr mo id L _ HGA.out HR.out).mono ?_; rintro e w' ⟨rfl, m2, rfl⟩))
      go_quiet (fail)
      go_wp2_with (first | (go_at_call 65; refine (at_calls g ids fr _ mo _ _ (by repeat (first | exact HGA.out | refine blk_drewN ?_ _)) HR.out.1 HR.out.2.1 HR.out.2.2.1 (by omega) (by omega)).mono ?_; rintro e w' ⟨rfl, m2, rfl⟩))
      go_ret
      refine ⟨congrArg (fun x => Ending.returned (.int .i64 x)) he.out, ?_, (((Near.refl w g).drewN _).set_ _ _).set_ _ _⟩
      rw [← hL.out]
      exact ⟨_, fr, by rw [List.length_append, List.length_singleton]; exact S2.out _, HR.out.put hlt id, by rw [List.length_append, List.length_singleton]; push_cast; omega, hm12⟩

theorem Ring.tail {ids : List Int} {fr : Int} {L : List Int} (h : Ring ids fr L) : Ring ids ((fr + 1) % 12) L.tail := by
  obtain ⟨h1, h2, h3, h4, h5⟩ := h
  refine ⟨h1, by omega, by omega, by simp; omega, fun i hi => ?_⟩
  rw [List.length_tail] at hi
  have := h5 (i + 1) (by omega)
  rw [List.getElem_tail, ← this]
  congr 2
  push_cast
  omega
set_option maxHeartbeats 8000000 in
set_option maxRecDepth 100000 in
theorem Take_calls (g : Nat) (mo : Int) (L : List Int) (w : World) (hI : IsW w g L mo) :
    Calls Try.prog 43 #[.pointer (some ⟨g, 0, none⟩)] w fun e w' => e = .returned (.tuple #[.int .i64 (L.headD 0), .bool (!L.isEmpty)]) ∧ IsW w' g L.tail mo ∧ Near w w' g := by
  obtain ⟨ids, fr, HG, hr, hmo, hm12⟩ := hI
  have hcm := (blk_cell HG 13).trans (cell_mn hr.1 fr (L.length : Int) mo)
  have hcf := (blk_cell HG 12).trans (cell_fr hr.1 fr (L.length : Int) mo)
  have hln := hr.2.2.2.1
  have HGA := Aside0.mk HG
  have HR := Aside0.mk hr
  clear HG hr
  cases L with
  | nil =>
    have hcm : w.cell? ⟨g, 13, none⟩ = some (.int .i64 0) := hcm
    go_enter Try.func43, Try.ntmps43
    go_wp2
    go_ret2
    exact ⟨rfl, ⟨ids, fr, HGA.out, HR.out, hmo, hm12⟩, Near.refl _ _⟩
  | cons x T =>
    have hb : (((x :: T).length : Int) == 0) = false := beq_eq_false_iff_ne.mpr (by simp; omega)
    have hx : w.cell? ⟨g, (fr % 12).toNat, none⟩ = some (.int .i64 x) := by have := HR.out.cell HGA.out 0 (by simp); simpa using this
    have hf0 := HR.out.2.1
    have hf1 := HR.out.2.2.1
    have hs : IntKind.i64.wrap (fr + 1) = fr + 1 := by rw [IntKind.wrap_i64]; omega
    have hm : (fr + 1).tmod 12 = (fr + 1) % 12 := Int.tmod_eq_emod_of_nonneg (by omega)
    have f12 := blk_frozen HGA.out 12
    have S1 := Aside0.mk (fun n : Nat => (blk_set (blk_drewN HGA.out n) 12 (.int .i64 ((fr + 1) % 12))).trans (by rw [set_fr HR.out.1]))
    have h13 := fun n => (blk_cell (S1.out n) 13).trans (cell_mn HR.out.1 _ ((x :: T).length : Int) mo)
    have f13 := fun n => blk_frozen (S1.out n) 13
    have S2 := Aside0.mk (fun n : Nat => (blk_set (S1.out n) 13 (.int .i64 (((x :: T).length : Int) - 1))).trans (by rw [set_mn HR.out.1]))
    go_enter Try.func43, Try.ntmps43
    go_wp2_with (first | (go_at_call 65; refine (at_calls g ids fr _ mo 0 _ (by repeat (first | exact HGA.out | refine blk_drewN ?_ _)) HR.out.1 HR.out.2.1 HR.out.2.2.1 (by omega) (by omega)).mono ?_; rintro e w' ⟨rfl, m2, rfl⟩))
    go_ret2
    refine ⟨rfl, ⟨ids, (fr + 1) % 12, ?_, HR.out.tail, by simp at hmo ⊢; omega, hm12⟩, (((Near.refl w g).drewN _).set_ _ _).set_ _ _⟩
    have := S2.out m2
    simp only [List.tail_cons, List.length_cons] at this hln ⊢
    have e1 : ((T.length + 1 : Nat) : Int) - 1 = (T.length : Int) := by omega
    have e2 : wrap64 (T.length : Int) = (T.length : Int) := by unfold wrap64; omega
    rw [e1] at this
    first | exact this | (rw [e2]; exact this)

set_option maxHeartbeats 8000000 in
set_option maxRecDepth 100000 in
theorem New_bad (a0 : Int) (w : World) (h : ¬ (0 ≤ a0 ∧ a0 ≤ 12)) : Calls Try.prog 39 #[.int .i64 a0] w fun e w' => e = .returned (.tuple #[.pointer none, .int .i64 1]) ∧ w = w' := by
  by_cases c : a0 < 0
  · have b1 : decide (a0 < 0) = true := decide_eq_true c
    clear h c
    go_enter Try.func39, Try.ntmps39
    go_wp2
    go_ret2
    exact ⟨rfl, rfl⟩
  · have b1 : decide (a0 < 0) = false := decide_eq_false c
    have b2 : decide (12 < a0) = true := decide_eq_true (by omega)
    clear h c
    go_enter Try.func39, Try.ntmps39
    go_wp2
    go_ret2
    exact ⟨rfl, rfl⟩
set_option maxHeartbeats 8000000 in
set_option maxRecDepth 100000 in
theorem New_ok (a0 : Int) (w : World) (h0 : 0 ≤ a0) (h1 : a0 ≤ 12) : Calls Try.prog 39 #[.int .i64 a0] w fun e w' => ∃ g : Nat, e = .returned (.tuple #[.pointer (some ⟨g, 0, none⟩), .int .i64 0]) ∧ IsW w' g [] a0 ∧ w.heap.size ≤ g ∧ Below w.heap.size w w' := by
  have b1 : decide (a0 < 0) = false := decide_eq_false (by omega)
  have b2 : decide (12 < a0) = false := decide_eq_false (by omega)
  have H1 := Aside0.mk h1
  have H0 := Aside0.mk h0
  clear h0 h1
  have hu := Try.underlying127
  go_enter Try.func39, Try.ntmps39
  go_wp2_with (first | ((with_reducible refine gate_dst (N := 12) rfl ?_); refine box_event ?hg (N := 12) ?hd (cs := #[.int .i64 0, .int .i64 0, .int .i64 0, .int .i64 0, .int .i64 0, .int .i64 0, .int .i64 0, .int .i64 0, .int .i64 0, .int .i64 0, .int .i64 0, .int .i64 0, .int .i64 0, .int .i64 0, .int .i64 a0]) (t := 127) ?hr ?_; (case hd => rfl); (case hg => rfl); (case hr => first | (go_simp; done) | (go_simp; rfl)); intro gb hg w2 hbox hb; have HBX := Aside0.mk hbox; have HG := Aside0.mk hg; have HBB := Aside0.mk hb; clear hbox hg hb))
  go_ret2
  exact ⟨gb, rfl, ⟨List.replicate 12 0, 0, HBX.out, ⟨rfl, by omega, by omega, by simp, fun i hi => by simp at hi⟩, by simpa using H0.out, H1.out⟩, by rw [HG.out]; exact Nat.le_refl _, HBB.out⟩

theorem info3w : (Try.prog.info? 3).map (fun i => (i.zero, i.size, i.bytes)) = some (some (.int .i64 0), 1, 8) := by kernel_rfl
set_option maxHeartbeats 8000000 in
set_option maxRecDepth 100000 in
theorem All_calls (g : Nat) (mo : Int) (L : List Int) (w : World) (hI : IsW w g L mo) :
    Calls Try.prog 47 #[.pointer (some ⟨g, 0, none⟩)] w fun e w' => ∃ v, e = .returned v ∧ Kd.R (Kd.int .i64) 3 w' w.heap.size (fun _ => True) v L ∧ Below w.heap.size w w' := by
  obtain ⟨ids, fr, HG, hr, hmo, hm12⟩ := hI
  have hcm := (blk_cell HG 13).trans (cell_mn hr.1 fr (L.length : Int) mo)
  have hln := hr.2.2.2.1
  have HGA := Aside0.mk HG
  have HR := Aside0.mk hr
  have hglt := Aside0.mk (blk_lt HG)
  clear HG hr
  go_enter Try.func47, Try.ntmps47
  go_wp2
  go_loopg [3, 9] (L.length + 1) (fun kq v3 v9 w' => ∃ (i : Nat), v9 = .int .i64 (i : Int) ∧ Aside0 (kq + i = L.length + 1) ∧ Aside0 (Kd.R (Kd.int .i64) 3 w' w.heap.size (fun _ => True) v3 (L.take i)) ∧ Aside0 (Below w.heap.size w w'))
  case atStart => exact ⟨0, rfl, ⟨by omega⟩, ⟨Kd.R_nil _ _ _ _ _⟩, ⟨Below.refl _ _⟩⟩
  case round =>
    obtain ⟨i, rfl, HK, HO, HB⟩ := hrel
    have hrest : i ≤ L.length → ∃ gk', gk = gk' + 1 := fun h => ⟨gk - 1, by have := HK.out; omega⟩
    by_cases c : i < L.length
    · have c1 : decide ((i : Int) < (L.length : Int)) = true := decide_eq_true (by omega)
      obtain ⟨gk, rfl⟩ := hrest (Nat.le_of_lt c)
      have HW := Aside0.mk ((HB.out.block g hglt.out).trans HGA.out)
      have hx := HR.out.cell HW.out i c
      have ht : L.take i ++ [L[i]] = L.take (i + 1) := by rw [List.take_add_one, List.getElem?_eq_getElem c]; rfl
      have Ny := Aside0.mk ht
      have LM := Aside0.mk (show (L.take i).length < 12 by rw [List.length_take]; omega)
      clear ht
      go_wp2_with (first | (go_at_call 65; refine (at_calls g ids fr _ mo i _ (by (with_reducible repeat refine blk_drewN ?_ _); exact HW.out) HR.out.1 HR.out.2.1 HR.out.2.2.1 (by omega) (by omega)).mono ?_; rintro e w' ⟨rfl, m2, rfl⟩) | ((with_reducible refine gate_builtin (b := .append) (xs := #[.tmp 12, .tmp 18]) rfl ?_); at_builtin; refine Kd.R_append (Kd.int .i64) (w0 := w) w.heap.size rfl (.tmp 12) (.tmp 18) 58 3 (.int .i64 0) 8 rfl Try.underlying58 info3w rfl (by decide) (by omega) _ (L.take i) (L[i]) [.int .i64 (L[i])] (fun _ => True) (fun _ => False) rfl rfl ?aP (fun _ hk => hk.elim) ?aF ?aO ?aB ?aS ?aL ?_; (case aP => exact rfl); (case aB => exact (by repeat (first | (with_reducible first | exact HB.out | apply below_alloc | apply pw_below_drewN | apply below_drew1) | exact HB.out))); (case aF => exact (fun _ _ => trivial)); (case aO => exact (by (with_reducible repeat (first | apply Kd.R_alloc | apply Kd.R_drewN | apply Kd.R_drew)); exact HO.out)); (case aS => exact (below_size (by repeat (first | (with_reducible first | exact HB.out | apply below_alloc | apply pw_below_drewN | apply below_drew1) | exact HB.out)))); (case aL => have := LM.out; omega); intro v115 w16 ho hb hg hat; rw [Ny.out] at ho; have n0_ := Aside0.mk (hb); have n1_ := Aside0.mk (ho); clear HB; clear HO; have HB := n0_; have HO := n1_; clear n0_ n1_; clear ho hb hg hat))
      go_roundg gk
      case measure => omega
      case rel => exact ⟨i + 1, congrArg (Value.int .i64) (by omega), ⟨by have := HK.out; omega⟩, ⟨by (with_reducible repeat (first | apply Kd.R_alloc | apply Kd.R_drewN | apply Kd.R_drew)); exact HO.out⟩, ⟨(by repeat (first | (with_reducible first | exact HB.out | apply below_alloc | apply pw_below_drewN | apply below_drew1) | exact HB.out))⟩⟩
    · have c1 : decide ((i : Int) < (L.length : Int)) = false := decide_eq_false (by omega)
      have hT : L.take i = L := List.take_of_length_le (by omega)
      rw [hT] at HO
      go_wp2
      go_ret
      exact ⟨_, rfl, HO.out, HB.out⟩

/-- L's places, where what stands behind place i came up by one, as far as place j. -/
def Shift (ids : List Int) (fr : Int) (L : List Int) (i j : Nat) : Prop := ids.length = 12 ∧ ∀ q : Nat, q < L.length → ids[((fr + q) % 12).toNat]? = if i ≤ q ∧ q < j then L[q + 1]? else L[q]?
theorem Shift.start {ids : List Int} {fr : Int} {L : List Int} (h : Ring ids fr L) (i : Nat) : Shift ids fr L i i := by
  refine ⟨h.1, fun q hq => ?_⟩
  rw [if_neg (by omega), h.2.2.2.2 q hq, List.getElem?_eq_getElem hq]
theorem Shift.step {ids : List Int} {fr : Int} {L : List Int} {i j : Nat} (h : Shift ids fr L i j) (h0 : 0 ≤ fr) (h1 : fr < 12) (hn : L.length ≤ 12) (hij : i ≤ j) (hj : j + 1 < L.length) : Shift (ids.set ((fr + j) % 12).toNat L[j + 1]) fr L i (j + 1) := by
  refine ⟨by simpa using h.1, fun q hq => ?_⟩
  have hl := h.1
  by_cases e : q = j
  · subst e
    rw [List.getElem?_set_self (by omega), if_pos (by omega), List.getElem?_eq_getElem hj]
  · rw [List.getElem?_set_ne (by omega), h.2 q hq]
    by_cases c : i ≤ q ∧ q < j
    · rw [if_pos c, if_pos (by omega)]
    · rw [if_neg c, if_neg (by omega)]
theorem Shift.done {ids : List Int} {fr : Int} {L : List Int} {i j : Nat} (h : Shift ids fr L i j) (h0 : 0 ≤ fr) (h1 : fr < 12) (hn : L.length ≤ 12) (hij : i ≤ j) (hj : j + 1 = L.length) : Ring ids fr (L.eraseIdx i) := by
  have hlen : (L.eraseIdx i).length = L.length - 1 := List.length_eraseIdx_of_lt (by omega)
  refine ⟨h.1, h0, h1, by omega, fun q hq => ?_⟩
  rw [h.2 q (by omega), ← List.getElem?_eq_getElem hq, List.getElem?_eraseIdx]
  by_cases c : q < i
  · rw [if_neg (by omega), if_pos c]
  · rw [if_pos (by omega), if_neg c]
theorem Shift.cell {ids : List Int} {fr : Int} {L : List Int} {i j : Nat} (h : Shift ids fr L i j) (h0 : 0 ≤ fr) {w : World} {g : Nat} {mn mo : Int} (HG : w.heap[g]? = some (.cells (cellsOf ids fr mn mo) 127 (0, 0))) (hj : j + 1 < L.length) :
    w.cell? ⟨g, ((fr + ((j : Int) + 1)) % 12).toNat, none⟩ = some (.int .i64 L[j + 1]) := by
  have h5 := h.2 (j + 1) hj
  rw [if_neg (by omega), List.getElem?_eq_getElem hj, List.getElem?_eq_some_iff] at h5
  obtain ⟨hq, he⟩ := h5
  have hq' : ((fr + ((j : Int) + 1)) % 12).toNat < 12 := by omega
  rw [(blk_cell HG _).trans (cell_id h.1 hq' fr mn mo)]
  exact congrArg (fun x => some (Value.int .i64 x)) he
set_option maxHeartbeats 8000000 in
set_option maxRecDepth 100000 in
theorem Drop_calls (g : Nat) (mo id : Int) (L : List Int) (w : World) (hI : IsW w g L mo) :
    Calls Try.prog 45 #[.pointer (some ⟨g, 0, none⟩), .int .i64 id] w fun e w' => e = .returned (.bool (decide (id ∈ L))) ∧ IsW w' g (L.erase id) mo ∧ Near w w' g := by
  obtain ⟨ids, fr, HG, hr, hmo, hm12⟩ := hI
  have hln := hr.2.2.2.1
  have HGA := Aside0.mk HG
  have HR := Aside0.mk hr
  have hf0 := hr.2.1
  have hf1 := hr.2.2.1
  clear HG hr
  by_cases c1 : id ∈ L
  · have hlt := List.idxOf_lt_length_iff.2 c1
    have hge := List.getElem_idxOf hlt
    have hpos : posOf L id = (L.idxOf id : Int) := by unfold posOf; rw [if_pos hlt]
    obtain ⟨i, hi⟩ : ∃ i, L.idxOf id = i := ⟨_, rfl⟩
    simp only [hi] at hlt hge hpos
    have he : L.erase id = L.eraseIdx i := by rw [List.erase_eq_eraseIdx_of_idxOf hi]
    have hb : (posOf L id == -1) = false := beq_eq_false_iff_ne.mpr (by omega)
    have hb' : ((i : Int) == -1) = false := beq_eq_false_iff_ne.mpr (by omega)
    have hE := Aside0.mk he
    have hM := Aside0.mk (show true = decide (id ∈ L) from (decide_eq_true c1).symm)
    clear he
    go_enter Try.func45, Try.ntmps45
    go_wp2_with (first | (go_at_call 48; refine (At_calls g ids fr mo id L _ HGA.out HR.out).mono ?_; rw [hpos]; rintro e w' ⟨rfl, m2, rfl⟩))
    go_loopg [6] (L.length + 1) (fun kq v6 w' => ∃ (j : Nat) (ids' : List Int), v6 = .int .i64 ((j : Int) + 1) ∧ Aside0 (L.length + 1 ≤ kq + j) ∧ Aside0 (i ≤ j ∧ j < L.length) ∧ Aside0 (w'.heap[g]? = some (.cells (cellsOf ids' fr (L.length : Int) mo) 127 (0, 0))) ∧ Aside0 (Shift ids' fr L i j) ∧ Aside0 (Near w w' g))
    case atStart => exact ⟨i, ids, rfl, ⟨by omega⟩, ⟨Nat.le_refl _, hlt⟩, ⟨by (with_reducible repeat refine blk_drewN ?_ _); exact HGA.out⟩, ⟨Shift.start HR.out i⟩, ⟨by repeat (first | exact Near.refl _ _ | apply Near.drewN)⟩⟩
    case round =>
      obtain ⟨j, ids', rfl, HK, HJ, HG, HS, HKB⟩ := hrel
      have hrest : ∃ gk', gk = gk' + 1 := ⟨gk - 1, by have := HK.out; have := HJ.out; omega⟩
      obtain ⟨gk, rfl⟩ := hrest
      have hcm := (blk_cell HG.out 13).trans (cell_mn HS.out.1 fr (L.length : Int) mo)
      by_cases c : j + 1 < L.length
      · have cb : decide ((j : Int) + 1 < (L.length : Int)) = true := decide_eq_true (by omega)
        have hx := HS.out.cell hf0 HG.out c
        have hjl : ((fr + (j : Int)) % 12).toNat < 12 := by omega
        have hold := (blk_cell HG.out ((fr + (j : Int)) % 12).toNat).trans (cell_id HS.out.1 hjl fr (L.length : Int) mo)
        have hfz := blk_frozen HG.out ((fr + (j : Int)) % 12).toNat
        have S1 := Aside0.mk (fun n : Nat => (blk_set (blk_drewN HG.out n) ((fr + (j : Int)) % 12).toNat (.int .i64 L[j + 1])).trans (by rw [set_id HS.out.1 hjl]))
        have CJ := Aside0.mk c
        go_wp2_with (first | (go_at_call 65; refine (at_calls g ids' fr _ mo _ _ (by (with_reducible repeat refine blk_drewN ?_ _); exact HG.out) HS.out.1 hf0 hf1 (by have := CJ.out; omega) (by have := CJ.out; omega)).mono ?_; rintro e w' ⟨rfl, m2, rfl⟩))
        go_roundg gk
        case measure => omega
        case rel => exact ⟨j + 1, _, congrArg (Value.int .i64) (by omega), ⟨by have := HK.out; omega⟩, ⟨by have := HJ.out; omega, CJ.out⟩, ⟨S1.out _⟩, ⟨HS.out.step hf0 hf1 hln HJ.out.1 CJ.out⟩, ⟨(HKB.out.drewN _).set_ _ _⟩⟩
      · have cb : decide ((j : Int) + 1 < (L.length : Int)) = false := decide_eq_false (by omega)
        have hjn : j + 1 = L.length := by have := HJ.out; omega
        have f13 := blk_frozen HG.out 13
        have S2 := Aside0.mk (fun n : Nat => (blk_set (blk_drewN HG.out n) 13 (.int .i64 ((L.length : Int) - 1))).trans (by rw [set_mn HS.out.1]))
        have S3 := Aside0.mk ((blk_set HG.out 13 (.int .i64 ((L.length : Int) - 1))).trans (by rw [set_mn HS.out.1]))
        have hlen : (L.eraseIdx i).length = L.length - 1 := List.length_eraseIdx_of_lt hlt
        have HLE := Aside0.mk hlen
        have HR2 := Aside0.mk (HS.out.done hf0 hf1 hln HJ.out.1 hjn)
        clear hlen
        go_wp2
        go_ret
        refine ⟨congrArg (fun x => Ending.returned (.bool x)) hM.out, ?_, HKB.out.set_ _ _⟩
        rw [hE.out]
        refine ⟨ids', fr, ?_, HR2.out, by rw [HLE.out]; omega, hm12⟩
        have e1 : ((L.eraseIdx i).length : Int) = (L.length : Int) - 1 := by rw [HLE.out]; omega
        rw [e1]
        exact S3.out
  · have hb : (posOf L id == -1) = true := beq_iff_eq.mpr (posOf_none.2 c1)
    have hE := Aside0.mk (show L = L.erase id from (List.erase_of_not_mem c1).symm)
    have hM := Aside0.mk (show false = decide (id ∈ L) from (decide_eq_false c1).symm)
    have hp := posOf_none.2 c1
    go_enter Try.func45, Try.ntmps45
    go_wp2_with (first | (go_at_call 48; refine (At_calls g ids fr mo id L _ HGA.out HR.out).mono ?_; rintro e w' ⟨rfl, m2, rfl⟩))
    go_ret
    exact ⟨congrArg (fun x => Ending.returned (.bool x)) hM.out, by rw [← hE.out]; exact ⟨ids, fr, by (with_reducible repeat refine blk_drewN ?_ _); exact HGA.out, HR.out, hmo, hm12⟩, by repeat (first | exact Near.refl _ _ | apply Near.drewN)⟩
end Go.Proofs.Ytagmefjpnmjcjaa.Wa
