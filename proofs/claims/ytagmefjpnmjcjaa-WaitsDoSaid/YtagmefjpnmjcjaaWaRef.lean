/- The document's row of who waits (package signalmanref08), by hand. -/
import Derived.Test.YtagmefjpnmjcjaaWaRow
namespace Go.Proofs.Ytagmefjpnmjcjaa.Wa
open Go.RowKit Go.Proofs.YtagmefjpnmjcjaaW.PrintWords Go.Proofs.YtagmefjpnmjcjaaW.PrintLast Go.Proofs.YtagmefjpnmjcjaaW.PrintMore
attribute [local go_sem] max2_int min2_int max_two min_two
set_option linter.unusedVariables false
set_option linter.unusedSimpArgs false

/-- The document's row at block g: who waits, how many may. -/
def IsR (W : World) (B g : Nat) (L : List Int) (mo : Int) : Prop := ∃ A c, W.heap[g]? = some (.cells #[.slice A L.length c, .int .i64 mo] 91 (0, 0)) ∧ Kd.R (Kd.int .i64) 3 W B (fun _ => True) (.slice A L.length c) L ∧ B ≤ g ∧ L.length ≤ 12
theorem R_nearT {w w' : World} {g B t : Nat} {cs : Array Value} {v : Value} {L : List Int} (h : Kd.R (Kd.int .i64) 3 w B (fun _ => True) v L) (hb : w.heap[g]? = some (.cells cs t (0, 0))) (ht : t ≠ 3) (hn : Near w w' g) : Kd.R (Kd.int .i64) 3 w' B (fun _ => True) v L :=
  Kd.R_mono (Kd.R_keep (Kd.R_types h hb (fun q hq => by simp [Kd.int, Kd.scalar] at hq; subst hq; exact fun e => ht e.symm)) hn.keep (fun k hk => hk.2)) (fun _ hk => hk.1)
theorem IsR.below {w w' : World} {B g : Nat} {L : List Int} {mo : Int} (h : IsR w B g L mo) (hb : Below w.heap.size w w') : IsR w' B g L mo := by
  obtain ⟨A, c, HG, HO, h2⟩ := h
  exact ⟨A, c, (hb.block g (blk_lt HG)).trans HG, Kd.R_below HO hb, h2⟩
theorem IsR.drewN {w : World} {B g : Nat} {L : List Int} {mo : Int} (h : IsR w B g L mo) (m : Nat) : IsR (w.drewN m) B g L mo := h.below (pw_below_drewN (Below.refl _ _) m)
theorem IsR.alloc {w : World} {B g : Nat} {L : List Int} {mo : Int} (h : IsR w B g L mo) (o : Obj) : IsR (w.alloc o) B g L mo := h.below (below_alloc (Below.refl _ _) o)
theorem IsR.lt {w : World} {B g : Nat} {L : List Int} {mo : Int} (h : IsR w B g L mo) : g < w.heap.size := by
  obtain ⟨A, c, HG, h2⟩ := h
  exact blk_lt HG
theorem IsR.len {w : World} {B g : Nat} {L : List Int} {mo : Int} (h : IsR w B g L mo) : L.length ≤ 12 := by
  obtain ⟨A, c, HG, HO, h2, h3⟩ := h
  exact h3
theorem IsR.nearW {w w' : World} {B g g2 : Nat} {L L2 : List Int} {mo mo2 : Int} (h : IsR w B g L mo) (hW : IsW w g2 L2 mo2) (hn : Near w w' g2) : IsR w' B g L mo := by
  obtain ⟨A, c, HG, HO, h2⟩ := h
  obtain ⟨ids, fr, HG2, h3⟩ := hW
  have hne : g ≠ g2 := by
    rintro rfl
    rw [HG] at HG2
    injection HG2 with HG2
    injection HG2 with _ HG2
    exact absurd HG2 (by decide)
  exact ⟨A, c, KeepBut.blk hn.keep HG hne (by simp), R_nearT HO HG2 (by decide) hn, h2⟩
theorem IsW.nearR {w w' : World} {B g g2 : Nat} {L L2 : List Int} {mo mo2 : Int} (hW : IsW w g2 L2 mo2) (h : IsR w B g L mo) (hn : Near w w' g) : IsW w' g2 L2 mo2 := by
  refine hW.near hn ?_
  obtain ⟨A, c, HG, HO, h2⟩ := h
  obtain ⟨ids, fr, HG2, h3⟩ := hW
  rintro rfl
  rw [HG] at HG2
  injection HG2 with HG2
  injection HG2 with _ HG2
  exact absurd HG2 (by decide)
theorem IsR.far84 {w : World} {B g gb : Nat} {cs : Array Value} {L : List Int} {mo : Int} (h : IsR w B g L mo) (hb : w.heap[gb]? = some (.cells cs 84 (0, 0))) (j : Nat) (u : Value) : IsR (w.setCell ⟨gb, j, none⟩ u) B g L mo := by
  obtain ⟨A, c, HG, HO, h2⟩ := h
  have hne : g ≠ gb := by
    rintro rfl
    rw [HG] at hb
    injection hb with hb
    injection hb with _ hb
    exact absurd hb (by decide)
  exact ⟨A, c, blk_far HG hne u, Kd.R_set HO hb (by decide) j u, h2⟩
theorem IsR.ne84 {w : World} {B g gb : Nat} {L : List Int} {mo : Int} {cs : Array Value} (h : IsR w B g L mo) (hb : w.heap[gb]? = some (.cells cs 84 (0, 0))) : gb ≠ g := by
  obtain ⟨A, c, HG, h2⟩ := h
  rintro rfl
  rw [HG] at hb
  injection hb with hb
  injection hb with _ hb
  exact absurd hb (by decide)
theorem Near.of_below {w w' : World} (h : Below w.heap.size w w') (g : Nat) : Near w w' g := ⟨KeepBut.of_below h g none, fun w0 hg hB => below_step hB h⟩
/-- The row's new list: its rows were made since. -/
theorem IsR.put {w W : World} {B g : Nat} {A : Option Addr} {c c1 : Nat} {A1 : Option Addr} {L L1 : List Int} {mo : Int} (HG : w.heap[g]? = some (.cells #[.slice A L.length c, .int .i64 mo] 91 (0, 0))) (hBg : B ≤ g) (hBw : B ≤ w.heap.size) (HB : Below w.heap.size w W) (HO : Kd.R (Kd.int .i64) 3 W w.heap.size (fun _ => True) (.slice A1 L1.length c1) L1) (hl : L1.length ≤ 12) :
    IsR (W.setCell ⟨g, 0, none⟩ (.slice A1 L1.length c1)) B g L1 mo ∧ Near w (W.setCell ⟨g, 0, none⟩ (.slice A1 L1.length c1)) g := by
  have HG2 := (HB.block g (blk_lt HG)).trans HG
  exact ⟨⟨A1, c1, by simpa using blk_set HG2 0 (.slice A1 L1.length c1), Kd.R_lower (Kd.R_set HO HG2 (by decide) 0 _) hBw, hBg, hl⟩, (Near.of_below HB g).set_ 0 _⟩
attribute [local irreducible] IsR IsW Near putE putL posOf

set_option maxHeartbeats 8000000 in
set_option maxRecDepth 100000 in
theorem RAt_calls (g B : Nat) (mo id : Int) (L : List Int) (w : World) (hI : IsR w B g L mo) :
    Calls Try.prog 49 #[.pointer (some ⟨g, 0, none⟩), .int .i64 id] w fun e w' => e = .returned (.int .i64 (posOf L id)) ∧ IsR w' B g L mo ∧ Below w.heap.size w w' := by
  have HI := Aside0.mk hI
  have HNR := Aside0.mk (Below.refl w.heap.size w)
  have HLE := Aside0.mk hI.len
  clear hI
  go_enter Try.func49, Try.ntmps49
  go_wp2
  go_loopg [5] (L.length + 1) (fun kq v5 w' => ∃ (i : Nat), v5 = .int .i64 (i : Int) ∧ Aside0 (kq + i = L.length + 1) ∧ Aside0 (∀ j : Nat, j < i → L[j]? ≠ some id) ∧ Aside0 (IsR w' B g L mo) ∧ Aside0 (Below w.heap.size w w'))
  case atStart => exact ⟨0, rfl, ⟨by omega⟩, ⟨fun j hj => by omega⟩, HI, HNR⟩
  case round =>
    clear HI HNR
    obtain ⟨i, rfl, HK, HN, HI, HNR⟩ := hrel
    have hu := HI.out
    unfold IsR at hu
    obtain ⟨A, c, HG, HO, hu2⟩ := hu
    have hz0 := fun n => (blk_cell (blk_drewN HG n) 0).trans rfl
    have hz0' : wr.cell? ⟨g, 0, none⟩ = some (.slice A L.length c) := (blk_cell HG 0).trans rfl
    have HC := Aside0.mk (Kd.R_reads' HO).2.2
    clear HG HO hu2
    by_cases ci : i < L.length
    · have c1 : decide ((i : Int) < (L.length : Int)) = true := decide_eq_true (by omega)
      have hw : wrap64 ((i : Int) + 1) = ((i + 1 : Nat) : Int) := by have := HLE.out; unfold wrap64; omega
      have p101 : 0 ≤ (i : Int) := by omega
      have q101 : (i : Int) < (L.length : Int) := by omega
      obtain ⟨ad, e7, hx⟩ := Kd.at_int HC.out i p101 q101
      cases e7
      simp only [Int.toNat_natCast] at hx
      obtain ⟨y, hy⟩ : ∃ y, rd L i = y := ⟨_, rfl⟩
      rw [hy] at hx
      rw [rd_nat ci] at hy
      by_cases ce : y = id
      · have c2 : (y == id) = true := beq_iff_eq.mpr ce
        have hp : Aside0 ((i : Int) = posOf L id) := ⟨by
          unfold posOf
          rw [idxOf_eq ci (hy.trans ce) HN.out, if_pos ci]⟩
        clear ce hy
        go_wp2
        go_ret
        exact ⟨congrArg (fun x => Ending.returned (.int .i64 x)) hp.out, HI.out, HNR.out⟩
      · have c2 : (y == id) = false := beq_eq_false_iff_ne.mpr ce
        have HN2 := Aside0.mk (show ∀ j : Nat, j < i + 1 → L[j]? ≠ some id from fun j hj => by
          rcases Nat.lt_or_ge j i with h | h
          · exact HN.out j h
          · have : j = i := by omega
            subst this
            rw [List.getElem?_eq_getElem ci, hy]
            intro h2
            exact ce (Option.some.inj h2))
        obtain ⟨gk, rfl⟩ : ∃ gk', gk = gk' + 1 := ⟨gk - 1, by have := HK.out; omega⟩
        clear ce hy
        go_wp2
        go_roundg gk
        case measure => omega
        case rel => exact ⟨i + 1, congrArg (Value.int .i64) (by omega), ⟨by have := HK.out; omega⟩, HN2, HI, HNR⟩
    · have c1 : decide ((i : Int) < (L.length : Int)) = false := decide_eq_false (by omega)
      have hp : Aside0 ((-1 : Int) = posOf L id) := ⟨by
        unfold posOf
        rw [if_neg (idxOf_none fun j hj => HN.out j (by omega))]⟩
      go_wp2
      go_ret
      exact ⟨congrArg (fun x => Ending.returned (.int .i64 x)) hp.out, HI.out, HNR.out⟩

set_option maxHeartbeats 8000000 in
set_option maxRecDepth 100000 in
theorem RNew_bad (a0 : Int) (w : World) (h : ¬ (0 ≤ a0 ∧ a0 ≤ 12)) : Calls Try.prog 40 #[.int .i64 a0] w fun e w' => e = .returned (.tuple #[.pointer none, .int .i64 1]) ∧ w = w' := by
  by_cases c : a0 < 0
  · have b1 : decide (a0 < 0) = true := decide_eq_true c
    clear h c
    go_enter Try.func40, Try.ntmps40
    go_wp2
    go_ret2
    exact ⟨rfl, rfl⟩
  · have b1 : decide (a0 < 0) = false := decide_eq_false c
    have b2 : decide (12 < a0) = true := decide_eq_true (by omega)
    clear h c
    go_enter Try.func40, Try.ntmps40
    go_wp2
    go_ret2
    exact ⟨rfl, rfl⟩
set_option maxHeartbeats 8000000 in
set_option maxRecDepth 100000 in
theorem RNew_ok (a0 : Int) (w : World) (h0 : 0 ≤ a0) (h1 : a0 ≤ 12) (B : Nat) (hB : B ≤ w.heap.size) : Calls Try.prog 40 #[.int .i64 a0] w fun e w' => ∃ g : Nat, e = .returned (.tuple #[.pointer (some ⟨g, 0, none⟩), .int .i64 0]) ∧ IsR w' B g [] a0 ∧ w.heap.size ≤ g ∧ Below w.heap.size w w' := by
  have b1 : decide (a0 < 0) = false := decide_eq_false (by omega)
  have b2 : decide (12 < a0) = false := decide_eq_false (by omega)
  clear h0 h1
  have HBB := Aside0.mk hB
  clear hB
  have hu := Try.underlying91
  go_enter Try.func40, Try.ntmps40
  go_wp2_with (first | ((with_reducible refine gate_dst (N := 12) rfl ?_); refine box_event ?hg (N := 12) ?hd (cs := #[.slice none 0 0, .int .i64 a0]) (t := 91) ?hr ?_; (case hd => rfl); (case hg => rfl); (case hr => first | (go_simp; done) | (go_simp; rfl)); intro gb hg w2 hbox hb; have HBX := Aside0.mk hbox; have HG := Aside0.mk hg; have HBE := Aside0.mk hb; clear hbox hg hb))
  go_ret2
  exact ⟨gb, rfl, by unfold IsR; exact ⟨none, 0, HBX.out, Kd.R_nil _ _ _ _ _, by rw [HG.out]; exact HBB.out, by simp⟩, by rw [HG.out]; exact Nat.le_refl _, HBE.out⟩

set_option maxHeartbeats 8000000 in
set_option maxRecDepth 100000 in
theorem RPut_calls (g B : Nat) (mo id : Int) (L : List Int) (w : World) (hI : IsR w B g L mo) (hB : B ≤ w.heap.size) (hmo : (L.length : Int) ≤ mo) (hm12 : mo ≤ 12) :
    Calls Try.prog 42 #[.pointer (some ⟨g, 0, none⟩), .int .i64 id] w fun e w' => e = .returned (.int .i64 (putE L mo id)) ∧ IsR w' B g (putL L mo id) mo ∧ Near w w' g := by
  have HI := Aside0.mk hI
  have HLE := Aside0.mk hI.len
  have HBB := Aside0.mk hB
  clear hI hB
  by_cases c1 : id ∈ L
  · have hp : decide (0 ≤ posOf L id) = true := (posOf_ge L id).trans (decide_eq_true c1)
    have he : Aside0 ((7 : Int) = putE L mo id) := ⟨by unfold putE; rw [if_pos c1]⟩
    have hL : Aside0 (putL L mo id = L) := ⟨by unfold putL; rw [if_pos c1]⟩
    clear c1
    go_enter Try.func42, Try.ntmps42
    go_wp2_with (first | (go_at_call 49; with_reducible refine (RAt_calls g B mo id L _ HI.out).mono ?_; rintro e w' ⟨rfl, hI, hn⟩; have HI_ := Aside0.mk hI; have HNR := Aside0.mk hn; clear hI hn HI; have HI := HI_; clear HI_))
    go_ret
    exact ⟨congrArg (fun x => Ending.returned (.int .i64 x)) he.out, by rw [hL.out]; exact HI.out, Near.of_below HNR.out g⟩
  · have hp : decide (0 ≤ posOf L id) = false := (posOf_ge L id).trans (decide_eq_false c1)
    by_cases c2 : (L.length : Int) = mo
    · have hb2 : decide (mo ≤ (L.length : Int)) = true := decide_eq_true (by omega)
      have he : Aside0 ((5 : Int) = putE L mo id) := ⟨by unfold putE; rw [if_neg c1, if_pos c2]⟩
      have hL : Aside0 (putL L mo id = L) := ⟨by unfold putL; rw [if_neg c1, if_pos c2]⟩
      clear c1 c2 hmo hm12
      go_enter Try.func42, Try.ntmps42
      go_upto_region 3 with (first | (go_at_call 49; with_reducible refine (RAt_calls g B mo id L _ HI.out).mono ?_; rintro e w' ⟨rfl, hI, hn⟩; have HI_ := Aside0.mk hI; have HNR := Aside0.mk hn; clear hI hn HI; have HI := HI_; clear HI_))
      have hu := HI.out
      unfold IsR at hu
      obtain ⟨A, c, HG, HO, hu2⟩ := hu
      have hz0 : ∀ n, (w'.drewN n).cell? ⟨g, 0, none⟩ = some (.slice A L.length c) := fun n => (blk_cell (blk_drewN HG n) 0).trans rfl
      have hz1 : ∀ n, (w'.drewN n).cell? ⟨g, 1, none⟩ = some (.int .i64 mo) := fun n => (blk_cell (blk_drewN HG n) 1).trans rfl
      have hy0 : w'.cell? ⟨g, 0, none⟩ = some (.slice A L.length c) := hz0 0
      have hy1 : w'.cell? ⟨g, 1, none⟩ = some (.int .i64 mo) := hz1 0
      clear HG HO hu2
      go_quiet (fail)
      go_wp2
      go_ret
      exact ⟨congrArg (fun x => Ending.returned (.int .i64 x)) he.out, by rw [hL.out]; exact HI.out.drewN _, (Near.of_below HNR.out g).drewN _⟩
    · have hb2 : decide (mo ≤ (L.length : Int)) = false := decide_eq_false (by omega)
      have he : Aside0 ((0 : Int) = putE L mo id) := ⟨(putE_new c1 c2).symm⟩
      have hL : Aside0 (putL L mo id = L ++ [id]) := ⟨putL_new c1 c2⟩
      have HL1 := Aside0.mk (show (L ++ [id]).length ≤ 12 by simp; omega)
      clear c1 c2 hmo hm12
      have hu := HI.out
      unfold IsR at hu
      obtain ⟨A, c, hGw, hOw, hu2⟩ := hu
      have HOW := Aside0.mk hOw
      clear hOw
      go_enter Try.func42, Try.ntmps42
      go_upto_region 3 with (first | (go_at_call 49; with_reducible refine (RAt_calls g B mo id L _ HI.out).mono ?_; rintro e w' ⟨rfl, hI, hn⟩; have HI_ := Aside0.mk hI; have HNR := Aside0.mk hn; clear hI hn HI; have HI := HI_; clear HI_))
      have HG := (HNR.out.block g (blk_lt hGw)).trans hGw
      have HO := Kd.R_below HOW.out HNR.out
      have HGW := Aside0.mk hGw
      have HGL := Aside0.mk (blk_lt hGw)
      have HGB := HGW
      have hz0 : ∀ n, (w'.drewN n).cell? ⟨g, 0, none⟩ = some (.slice A L.length c) := fun n => (blk_cell (blk_drewN HG n) 0).trans rfl
      have hz1 : ∀ n, (w'.drewN n).cell? ⟨g, 1, none⟩ = some (.int .i64 mo) := fun n => (blk_cell (blk_drewN HG n) 1).trans rfl
      have hy0 : w'.cell? ⟨g, 0, none⟩ = some (.slice A L.length c) := hz0 0
      have hy1 : w'.cell? ⟨g, 1, none⟩ = some (.int .i64 mo) := hz1 0
      have HC := Aside0.mk (Kd.R_reads' HO).2.2
      have hBg := Aside0.mk hu2.1
      have hya : ∀ n, ((w'.drewN n).alloc (.cells #[] 3)).cell? ⟨g, 0, none⟩ = some (.slice A L.length c) := fun n => (blk_cell (blk_alloc (blk_drewN HG n) (.cells #[] 3)) 0).trans rfl
      clear HG HO hu2 hz0 hz1 hGw
      go_quiet (fail)
      go_wp2_with (first | ((with_reducible refine gate_builtin (b := .append) (xs := #[.tmp 20, .tmp 24]) rfl ?_); at_builtin; refine Kd.R_append_rows (Kd.int .i64) (w0 := w) w.heap.size rfl (.tmp 20) (.tmp 24) 58 3 (.int .i64 0) 8 rfl Try.underlying58 info3w rfl (by decide) (by omega) _ [] L _ _ _ (fun _ => True) (fun _ => False) rfl rfl ?aO ?aR (fun _ _ h => h) (fun _ h => h.elim) ?aF ?aB ?aS ?aL ?_; (case aO => exact R_empty _ _ (below_size ((by repeat (first | (with_reducible first | exact HNR.out | apply below_alloc | apply pw_below_drewN | apply below_drew1) | exact HNR.out))))); (case aR => exact Kd.C_below HC.out (by repeat (first | (with_reducible first | exact Below.refl _ _ | apply below_alloc | apply pw_below_drewN | apply below_drew1) | exact Below.refl _ _))); (case aF => exact fun _ _ => trivial); (case aB => exact (by repeat (first | (with_reducible first | exact HNR.out | apply below_alloc | apply pw_below_drewN | apply below_drew1) | exact HNR.out))); (case aS => exact below_size (by repeat (first | (with_reducible first | exact HNR.out | apply below_alloc | apply pw_below_drewN | apply below_drew1) | exact HNR.out))); (case aL => have := HLE.out; (try simp); omega); intro v1 w1 ho hb hg hat; obtain ⟨A1, c1, rfl⟩ := Kd.R_slice ho; (try rw [List.nil_append] at ho); have HO := Aside0.mk ho; have HBX := Aside0.mk hb; clear ho hb hg hat) | ((with_reducible refine gate_builtin (b := .append) (xs := #[.tmp 25, .tmp 27]) rfl ?_); at_builtin; refine Kd.R_append (Kd.int .i64) (w0 := w) w.heap.size rfl (.tmp 25) (.tmp 27) 58 3 (.int .i64 0) 8 rfl Try.underlying58 info3w rfl (by decide) (by omega) _ L id [.int .i64 id] (fun _ => True) (fun _ => False) rfl rfl ?aP (fun _ hk => hk.elim) ?aF ?aO ?aB ?aS ?aL ?_; (case aP => exact rfl); (case aF => exact (fun _ _ => trivial)); (case aO => exact HO.out); (case aB => exact HBX.out); (case aS => exact HBX.out.size); (case aL => have := HLE.out; omega); intro v1 w1 ho hb hg hat; obtain ⟨A1, c1, rfl⟩ := Kd.R_slice ho; have HO_ := Aside0.mk ho; have HBX_ := Aside0.mk hb; clear ho hb hg hat HO HBX; have HO := HO_; have HBX := HBX_; clear HO_ HBX_; have hy0 : w1.cell? ⟨g, 0, none⟩ = some (.slice A L.length c) := (blk_cell ((HBX.out.block g HGL.out).trans HGW.out) 0).trans rfl; have hf0 := blk_frozen ((HBX.out.block g HGL.out).trans HGW.out) 0))
      go_ret
      obtain ⟨h1, h2⟩ := IsR.put HGB.out hBg.out HBB.out HBX.out HO.out HL1.out
      have e1 : (L ++ [id]).length = L.length + 1 := by simp
      rw [e1] at h1 h2
      exact ⟨congrArg (fun x => Ending.returned (.int .i64 x)) he.out, by rw [hL.out]; exact h1, h2⟩

set_option maxHeartbeats 8000000 in
set_option maxRecDepth 100000 in
theorem RTake_calls (g B : Nat) (mo : Int) (L : List Int) (w : World) (hI : IsR w B g L mo) (hB : B ≤ w.heap.size) :
    Calls Try.prog 44 #[.pointer (some ⟨g, 0, none⟩)] w fun e w' => e = .returned (.tuple #[.int .i64 (L.headD 0), .bool (!L.isEmpty)]) ∧ IsR w' B g L.tail mo ∧ Near w w' g := by
  have HI := Aside0.mk hI
  have HLE := Aside0.mk hI.len
  have HBB := Aside0.mk hB
  have hu := hI
  unfold IsR at hu
  obtain ⟨A, c, HG, HO0, hu2⟩ := hu
  have HGW := Aside0.mk HG
  have HGL := Aside0.mk (blk_lt HG)
  have hBg := Aside0.mk hu2.1
  have hy0 : w.cell? ⟨g, 0, none⟩ = some (.slice A L.length c) := (blk_cell HG 0).trans rfl
  have HQ0 := Aside0.mk (Kd.Q_of_R HO0)
  have hlc := (Kd.R_reads' HO0).2.1
  clear hI hB HO0 hu2
  have HNR := Aside0.mk (Below.refl w.heap.size w)
  cases L with
  | nil =>
    clear HG
    have hl0 : ((([] : List Int).length : Int) == 0) = true := rfl
    go_enter Try.func44, Try.ntmps44
    go_wp2
    go_ret2
    exact ⟨rfl, HI.out, Near.refl w g⟩
  | cons x0 T0 =>
    obtain ⟨L, hLe⟩ : ∃ L, x0 :: T0 = L := ⟨_, rfl⟩
    have hpos : 0 < L.length := by rw [← hLe]; simp
    obtain ⟨x, hx⟩ : ∃ x, L.headD 0 = x := ⟨_, rfl⟩
    obtain ⟨T, hT⟩ : ∃ T, L.tail = T := ⟨_, rfl⟩
    have hcons : L = x :: T := by rw [← hx, ← hT, ← hLe]; rfl
    have hem : Aside0 (true = !L.isEmpty) := ⟨by rw [← hLe]; rfl⟩
    rw [hLe] at HI HLE HGW HG hy0 HQ0 hlc ⊢
    rw [hx, hT]
    clear hLe hx hT
    have hl0 : ((L.length : Int) == 0) = false := beq_eq_false_iff_ne.mpr (by omega)
    obtain ⟨ad, e7, hx7⟩ : ∃ ad, A = some ad ∧ w.cell? ad = some (.int .i64 x) := by
      have h := HQ0.out
      rw [hcons] at h
      exact head_cell h
    cases e7
    have kp : decide ((0 : Int) < (L.length : Int)) = true := decide_eq_true (by omega)
    obtain ⟨i0q, hi0q, _, hszq, _⟩ := info_parts info3w
    obtain ⟨A8, hA8⟩ : ∃ A8, (if c = (1 : Int).toNat then some ad else (some ad).map (·.add ((1 : Int).toNat * 1))) = A8 := ⟨_, rfl⟩
    obtain ⟨c8, hc8⟩ : ∃ c8, c - (1 : Int).toNat = c8 := ⟨_, rfl⟩
    have hlT : L.length - (1 : Int).toNat = T.length := by rw [hcons]; simp
    have hcut1 : ∀ W : World, (Instr.slice 58 (.slice (some ad) L.length c) (some (.int .i64 1)) none none).run Try.prog W = .ok (.slice A8 T.length c8) W := fun W => by
      have h := cut_from (P := Try.prog) 58 3 .i64 Try.underlying58 hi0q 1 hszq (some ad) L.length c 1 (by omega) (by omega) W
      rw [hA8, hc8, hlT] at h
      exact h
    have HC : Aside0 (Kd.C (Kd.int .i64) w A8 T.length T) := ⟨by
      have h := HQ0.out
      rw [hcons] at h
      have h2 := Kd.Q_drop (k := 1) h (by simp)
      rw [← hA8]
      exact (Kd.Q_reads' h2).2.2⟩
    clear hA8 hc8
    have hya : (w.alloc (.cells #[] 3)).cell? ⟨g, 0, none⟩ = some (.slice (some ad) L.length c) := (blk_cell (blk_alloc HG (.cells #[] 3)) 0).trans rfl
    have hya2 : ∀ n, ((w.drewN n).alloc (.cells #[] 3)).cell? ⟨g, 0, none⟩ = some (.slice (some ad) L.length c) := fun n => (blk_cell (blk_alloc (blk_drewN HG n) (.cells #[] 3)) 0).trans rfl
    have HL1 := Aside0.mk (show T.length ≤ 12 by have := HLE.out; rw [hcons] at this; simp at this; omega)
    have HLT := Aside0.mk (show T.length ≤ 12 from HL1.out)
    clear HG hcons
    go_enter Try.func44, Try.ntmps44
    go_wp2_with (first | ((with_reducible refine gate_builtin (b := .append) (xs := #[.tmp 18, .tmp 23]) rfl ?_); at_builtin; refine Kd.R_append_rows (Kd.int .i64) (w0 := w) w.heap.size rfl (.tmp 18) (.tmp 23) 58 3 (.int .i64 0) 8 rfl Try.underlying58 info3w rfl (by decide) (by omega) _ [] T _ _ _ (fun _ => True) (fun _ => False) rfl rfl ?aO ?aR (fun _ _ h => h) (fun _ h => h.elim) ?aF ?aB ?aS ?aL ?_; (case aO => exact R_empty _ _ (below_size ((by repeat (first | (with_reducible first | exact HNR.out | apply below_alloc | apply pw_below_drewN | apply below_drew1) | exact HNR.out))))); (case aR => exact Kd.C_below HC.out (by repeat (first | (with_reducible first | exact Below.refl _ _ | apply below_alloc | apply pw_below_drewN | apply below_drew1) | exact Below.refl _ _))); (case aF => exact fun _ _ => trivial); (case aB => exact (by repeat (first | (with_reducible first | exact HNR.out | apply below_alloc | apply pw_below_drewN | apply below_drew1) | exact HNR.out))); (case aS => exact below_size (by repeat (first | (with_reducible first | exact HNR.out | apply below_alloc | apply pw_below_drewN | apply below_drew1) | exact HNR.out))); (case aL => have := HLT.out; (try simp); omega); intro v1 w1 ho hb hg hat; obtain ⟨A1, c1, rfl⟩ := Kd.R_slice ho; (try rw [List.nil_append] at ho); have HO := Aside0.mk ho; have HBX := Aside0.mk hb; clear ho hb hg hat; have hy0 : w1.cell? ⟨g, 0, none⟩ = some (.slice (some ad) L.length c) := (blk_cell ((HBX.out.block g HGL.out).trans HGW.out) 0).trans rfl; have hf0 := blk_frozen ((HBX.out.block g HGL.out).trans HGW.out) 0))
    go_ret2
    obtain ⟨h1, h2⟩ := IsR.put HGW.out hBg.out HBB.out HBX.out HO.out HL1.out
    exact ⟨by rw [← hem.out]; rfl, h1, h2⟩

set_option maxHeartbeats 8000000 in
set_option maxRecDepth 100000 in
theorem RDrop_calls (g B : Nat) (mo id : Int) (L : List Int) (w : World) (hI : IsR w B g L mo) (hB : B ≤ w.heap.size) :
    Calls Try.prog 46 #[.pointer (some ⟨g, 0, none⟩), .int .i64 id] w fun e w' => e = .returned (.bool (decide (id ∈ L))) ∧ IsR w' B g (L.erase id) mo ∧ Near w w' g := by
  have HI := Aside0.mk hI
  have HLE := Aside0.mk hI.len
  have HBB := Aside0.mk hB
  have hu := hI
  unfold IsR at hu
  obtain ⟨A, c, HG, HO0, hu2⟩ := hu
  have HGW := Aside0.mk HG
  have HGL := Aside0.mk (blk_lt HG)
  have hBg := Aside0.mk hu2.1
  have HQ0 := Aside0.mk (Kd.Q_of_R HO0)
  have hlc := (Kd.R_reads' HO0).2.1
  clear hI hB HO0 hu2 HG
  by_cases c1 : id ∈ L
  · have hlt := List.idxOf_lt_length_iff.2 c1
    have hpos : posOf L id = (L.idxOf id : Int) := by unfold posOf; rw [if_pos hlt]
    obtain ⟨n, hn⟩ : ∃ n, L.idxOf id = n := ⟨_, rfl⟩
    rw [hn] at hlt hpos
    have HE := Aside0.mk (show L.erase id = L.take n ++ L.drop (n + 1) by rw [List.erase_eq_eraseIdx_of_idxOf hn, List.eraseIdx_eq_take_drop_succ])
    have hM := Aside0.mk (show decide (id ∈ L) = true from decide_eq_true c1)
    have hb : decide ((n : Int) < 0) = false := decide_eq_false (by omega)
    have hw1 : wrap64 ((n : Int) + 1) = (n : Int) + 1 := by have := HLE.out; unfold wrap64; omega
    have HL1 := Aside0.mk (show (L.take n ++ L.drop (n + 1)).length ≤ 12 by have := HLE.out; rw [List.length_append, List.length_take, List.length_drop]; omega)
    have hnt : (L.take n).length = n := by rw [List.length_take]; omega
    have hcutA : ∀ W : World, (Instr.slice 58 (.slice A L.length c) none (some (.int .i64 (n : Int))) none).run Try.prog W = .ok (.slice A n c) W := fun W => by
      obtain ⟨i0q, hi0q, _, hszq, _⟩ := info_parts info3w
      have h := cut_to (P := Try.prog) 58 3 .i64 Try.underlying58 hi0q A L.length c (n : Int) (by omega) (by omega) hlc W
      simpa using h
    obtain ⟨A8, hA8⟩ : ∃ A8, (if c = n + 1 then A else A.map (·.add ((n + 1) * 1))) = A8 := ⟨_, rfl⟩
    obtain ⟨c8, hc8⟩ : ∃ c8, c - (n + 1) = c8 := ⟨_, rfl⟩
    obtain ⟨n8, hn8⟩ : ∃ n8, L.length - (n + 1) = n8 := ⟨_, rfl⟩
    have hcutB : ∀ W : World, (Instr.slice 58 (.slice A L.length c) (some (.int .i64 ((n : Int) + 1))) none none).run Try.prog W = .ok (.slice A8 n8 c8) W := fun W => by
      obtain ⟨i0q, hi0q, _, hszq, _⟩ := info_parts info3w
      have h := cut_from (P := Try.prog) 58 3 .i64 Try.underlying58 hi0q 1 hszq A L.length c ((n + 1 : Nat) : Int) (by omega) (by omega) W
      rw [Int.toNat_natCast, hA8, hc8, hn8] at h
      exact h
    have HCA : Aside0 (Kd.C (Kd.int .i64) w A n (L.take n)) := ⟨by
      have h2 := (Kd.Q_reads' (Kd.Q_take (m := n) HQ0.out (by omega))).2.2
      rw [hnt] at h2
      exact h2⟩
    have HCB : Aside0 (Kd.C (Kd.int .i64) w A8 n8 (L.drop (n + 1))) := ⟨by
      have h2 := (Kd.Q_reads' (Kd.Q_drop (k := n + 1) HQ0.out (by omega))).2.2
      rw [List.length_drop] at h2
      rw [← hA8, ← hn8]
      exact h2⟩
    have LA := Aside0.mk (show n ≤ 12 by have := HLE.out; omega)
    have LB := Aside0.mk (show n8 ≤ 12 by have := HLE.out; omega)
    clear hA8 hc8 hn8 c1 hn hlt
    have HPO := Aside0.mk hpos
    clear hpos
    go_enter Try.func46, Try.ntmps46
    go_upto_region 4 with (first | (go_at_call 49; with_reducible refine (RAt_calls g B mo id L _ HI.out).mono ?_; rw [HPO.out]; rintro e w' ⟨rfl, hI, hn⟩; have HI_ := Aside0.mk hI; have HNR := Aside0.mk hn; clear hI hn HI; have HI := HI_; clear HI_))
    have HB2 := Aside0.mk (below_drew1 HNR.out)
    have hz0 : (w'.drew).cell? ⟨g, 0, none⟩ = some (.slice A L.length c) := (blk_cell ((HB2.out.block g HGL.out).trans HGW.out) 0).trans rfl
    refine start_ (n := 20) (S := fun w' => w'.cell? ⟨g, 0, none⟩ = some (.slice A L.length c)) (ds := [19]) #[false, false, false, false, false, false, false, false, false, false, false, false, false, false, false, false, false, false, false, false] (by kernel_rfl) rfl rfl (hz0) (fun hHeld => ?_)
    generalize World.drew w' = w2 at HB2 hHeld hz0 ⊢
    refine pure_ (i := 0) (N := some 11) (v := ?_) (a' := ?_) #[true, false, false, false, false, false, false, false, false, false, false, false, false, false, false, false, false, false, false, false] rfl rfl (by kernel_rfl) (fun _ _ _ h => h) (Or.inl ⟨by rfl, ?_⟩) ?_ ?_
    rotate_left
    · intro w'
      go_simp
      with_reducible rfl
    rotate_left
    · simp only [Act.put, List.setIfInBounds_toArray, List.set_cons_zero, List.set_cons_succ, i64_w, i32_w]
      rfl
    refine pure_ (i := 2) (N := some 13) (v := ?_) (a' := ?_) #[true, false, true, false, false, false, false, false, false, false, false, false, false, false, false, false, false, false, false, false] rfl rfl (by kernel_rfl) (fun _ _ _ h => h) (Or.inl ⟨by rfl, ?_⟩) ?_ ?_
    rotate_left
    · intro w'
      go_simp
      with_reducible rfl
    rotate_left
    · simp only [Act.put, List.setIfInBounds_toArray, List.set_cons_zero, List.set_cons_succ, i64_w, i32_w]
      rfl
    refine pure_ (i := 3) (N := some 14) (v := ?_) (a' := ?_) #[true, false, true, true, false, false, false, false, false, false, false, false, false, false, false, false, false, false, false, false] rfl rfl (by kernel_rfl) (fun _ _ _ h => h) (Or.inl ⟨by rfl, ?_⟩) ?_ ?_
    rotate_left
    · intro w'
      go_simp
      with_reducible rfl
    rotate_left
    · simp only [Act.put, List.setIfInBounds_toArray, List.set_cons_zero, List.set_cons_succ, i64_w, i32_w]
      rfl
    refine pure_ (i := 4) (N := some 15) (v := ?_) (a' := ?_) #[true, false, true, true, true, false, false, false, false, false, false, false, false, false, false, false, false, false, false, false] rfl rfl (by kernel_rfl) (fun _ _ _ h => h) (Or.inl ⟨by rfl, ?_⟩) ?_ ?_
    rotate_left
    · intro w'
      go_simp
      with_reducible rfl
    rotate_left
    · simp only [Act.put, List.setIfInBounds_toArray, List.set_cons_zero, List.set_cons_succ, i64_w, i32_w]
      rfl
    refine pure_ (i := 6) (N := some 17) (v := ?_) (a' := ?_) #[true, false, true, true, true, false, true, false, false, false, false, false, false, false, false, false, false, false, false, false] rfl rfl (by kernel_rfl) (fun _ _ _ h => h) (Or.inl ⟨by rfl, ?_⟩) ?_ ?_
    rotate_left
    · intro w'
      go_simp
      with_reducible rfl
    rotate_left
    · simp only [Act.put, List.setIfInBounds_toArray, List.set_cons_zero, List.set_cons_succ, i64_w, i32_w]
      rfl
    refine pure_ (i := 9) (N := some 20) (v := ?_) (a' := ?_) #[true, false, true, true, true, false, true, false, false, true, false, false, false, false, false, false, false, false, false, false] rfl rfl (by kernel_rfl) (fun _ _ _ h => h) (Or.inl ⟨by rfl, ?_⟩) ?_ ?_
    rotate_left
    · intro w'
      go_simp
      with_reducible rfl
    rotate_left
    · simp only [Act.put, List.setIfInBounds_toArray, List.set_cons_zero, List.set_cons_succ, i64_w, i32_w]
      rfl
    refine pure_ (i := 10) (N := some 21) (v := ?_) (a' := ?_) #[true, false, true, true, true, false, true, false, false, true, true, false, false, false, false, false, false, false, false, false] rfl rfl (by kernel_rfl) (fun _ _ _ h => h) (Or.inl ⟨by rfl, ?_⟩) ?_ ?_
    rotate_left
    · intro w'
      go_simp
      with_reducible rfl
    rotate_left
    · simp only [Act.put, List.setIfInBounds_toArray, List.set_cons_zero, List.set_cons_succ, i64_w, i32_w]
      rfl
    refine pure_ (i := 11) (N := some 22) (v := ?_) (a' := ?_) #[true, false, true, true, true, false, true, false, false, true, true, true, false, false, false, false, false, false, false, false] rfl rfl (by kernel_rfl) (fun _ _ _ h => h) (Or.inl ⟨by rfl, ?_⟩) ?_ ?_
    rotate_left
    · intro w'
      go_simp
      with_reducible rfl
    rotate_left
    · simp only [Act.put, List.setIfInBounds_toArray, List.set_cons_zero, List.set_cons_succ, i64_w, i32_w]
      rfl
    refine pure_ (i := 13) (N := some 24) (v := ?_) (a' := ?_) #[true, false, true, true, true, false, true, false, false, true, true, true, false, true, false, false, false, false, false, false] rfl rfl (by kernel_rfl) (fun _ _ _ h => h) (Or.inl ⟨by rfl, ?_⟩) ?_ ?_
    rotate_left
    · intro w'
      go_simp
      with_reducible rfl
    rotate_left
    · simp only [Act.put, List.setIfInBounds_toArray, List.set_cons_zero, List.set_cons_succ, i64_w, i32_w]
      rfl
    refine pure_ (i := 14) (N := some 25) (v := ?_) (a' := ?_) #[true, false, true, true, true, false, true, false, false, true, true, true, false, true, true, false, false, false, false, false] rfl rfl (by kernel_rfl) (fun _ _ _ h => h) (Or.inl ⟨by rfl, ?_⟩) ?_ ?_
    rotate_left
    · intro w'
      go_simp
      with_reducible rfl
    rotate_left
    · simp only [Act.put, List.setIfInBounds_toArray, List.set_cons_zero, List.set_cons_succ, i64_w, i32_w]
      rfl
    refine take_ (i := 5) (N := some 16) (v := ?_) (a' := ?_) #[true, false, true, true, true, true, true, false, false, true, true, true, false, true, true, false, false, false, false, false] rfl rfl (by kernel_rfl) (fun _ _ _ h => h) (Or.inl ⟨by rfl, ?_⟩) hHeld ?_ ?_
    rotate_left
    · intro w' s0
      go_simp
      with_reducible rfl
    rotate_left
    · simp only [Act.put, List.setIfInBounds_toArray, List.set_cons_zero, List.set_cons_succ, i64_w, i32_w]
      rfl
    refine pure_ (i := 7) (N := some 18) (v := ?_) (a' := ?_) #[true, false, true, true, true, true, true, true, false, true, true, true, false, true, true, false, false, false, false, false] rfl rfl (by kernel_rfl) (fun _ _ _ h => h) (Or.inl ⟨by rfl, ?_⟩) ?_ ?_
    rotate_left
    · intro w'
      go_simp
      with_reducible rfl
    rotate_left
    · simp only [Act.put, List.setIfInBounds_toArray, List.set_cons_zero, List.set_cons_succ, i64_w, i32_w]
      rfl
    refine take_ (i := 12) (N := some 23) (v := ?_) (a' := ?_) #[true, false, true, true, true, true, true, true, false, true, true, true, true, true, true, false, false, false, false, false] rfl rfl (by kernel_rfl) (fun _ _ _ h => h) (Or.inl ⟨by rfl, ?_⟩) hHeld ?_ ?_
    rotate_left
    · intro w' s0
      go_simp
      with_reducible rfl
    rotate_left
    · simp only [Act.put, List.setIfInBounds_toArray, List.set_cons_zero, List.set_cons_succ, i64_w, i32_w]
      rfl
    refine pure_ (i := 15) (N := some 26) (v := ?_) (a' := ?_) #[true, false, true, true, true, true, true, true, false, true, true, true, true, true, true, true, false, false, false, false] rfl rfl (by kernel_rfl) (fun _ _ _ h => h) (Or.inl ⟨by rfl, ?_⟩) ?_ ?_
    rotate_left
    · intro w'
      go_simp
      with_reducible rfl
    rotate_left
    · simp only [Act.put, List.setIfInBounds_toArray, List.set_cons_zero, List.set_cons_succ, i64_w, i32_w]
      rfl
    refine one_ (i := 1) (N := some 12) #[true, true, true, true, true, true, true, true, false, true, true, true, true, true, true, true, false, false, false, false] rfl rfl (by kernel_rfl) (by decide) (fun K hK => ?_)
    refine value_ (w1 := ?_) (v := ?_) (by rfl) rfl ?_ ?_
    rotate_left 2
    · go_simp
      constructor
      · rfl
      · rfl
    have HBw3 := Aside0.mk (below_alloc HB2.out (.cells #[] 3))
    have HO3 := Aside0.mk (R_empty _ w.heap.size (below_size HB2.out))
    generalize hw3 : World.alloc w2 (.cells #[] 3) = w3 at HBw3 HO3 ⊢
    clear hw3
    refine hK.out _ _ ((blk_cell ((HBw3.out.block g HGL.out).trans HGW.out) 0).trans rfl) (fun hHeld => ?_)
    clear hK K
    refine norm_ (a' := ?_) ?_ ?_
    rotate_left
    · show Act.put _ (some 12) _ = _
      simp only [Act.put, List.setIfInBounds_toArray, List.set_cons_zero, List.set_cons_succ, i64_w, i32_w]
      rfl
    refine one_ (i := 8) (N := some 19) #[true, true, true, true, true, true, true, true, true, true, true, true, true, true, true, true, false, false, false, false] rfl rfl (by kernel_rfl) (by decide) (fun K hK => ?_)
    refine Kd.R_append_rows_step (Kd.int .i64) (w0 := w) w.heap.size (by rfl) (.tmp 12) (.tmp 18) 58 3 (.int .i64 0) 8 rfl Try.underlying58 info3w rfl (by decide) (by omega) _ [] (L.take n) _ _ _ (fun _ => True) (fun _ => False) (by rfl) (by rfl) HO3.out (Kd.C_below HCA.out HBw3.out) (fun _ _ h => h) (fun _ h => h.elim) (fun _ _ => trivial) HBw3.out (below_size HBw3.out) (by have := LA.out; have := LB.out; (try simp); omega) ?_
    intro v1 w4 ho hb hg hat
    obtain ⟨A4, c4, rfl⟩ := Kd.R_slice ho
    (try rw [List.nil_append] at ho)
    have HO4 := Aside0.mk ho
    have HBw4 := Aside0.mk hb
    clear ho hb hg hat
    refine hK.out _ _ ((blk_cell ((HBw4.out.block g HGL.out).trans HGW.out) 0).trans rfl) (fun hHeld => ?_)
    clear hK K
    refine norm_ (a' := ?_) ?_ ?_
    rotate_left
    · show Act.put _ (some 19) _ = _
      simp only [Act.put, List.setIfInBounds_toArray, List.set_cons_zero, List.set_cons_succ, i64_w, i32_w]
      rfl
    refine one_ (i := 16) (N := some 27) #[true, true, true, true, true, true, true, true, true, true, true, true, true, true, true, true, true, false, false, false] rfl rfl (by kernel_rfl) (by decide) (fun K hK => ?_)
    refine Kd.R_append_rows_step (Kd.int .i64) (w0 := w) w.heap.size (by rfl) (.tmp 19) (.tmp 26) 58 3 (.int .i64 0) 8 rfl Try.underlying58 info3w rfl (by decide) (by omega) _ (L.take n) (L.drop (n + 1)) _ _ _ (fun _ => True) (fun _ => False) (by rfl) (by rfl) HO4.out (Kd.C_below HCB.out HBw4.out) (fun _ _ h => h) (fun _ h => h.elim) (fun _ _ => trivial) HBw4.out (below_size HBw4.out) (by have := LA.out; have := LB.out; (try simp); omega) ?_
    intro v1 w5 ho hb hg hat
    obtain ⟨A5, c5, rfl⟩ := Kd.R_slice ho
    (try rw [List.nil_append] at ho)
    have HO := Aside0.mk ho
    have HBw5 := Aside0.mk hb
    clear ho hb hg hat
    have hf0 := blk_frozen ((HBw5.out.block g HGL.out).trans HGW.out) 0
    refine hK.out _ _ ((blk_cell ((HBw5.out.block g HGL.out).trans HGW.out) 0).trans rfl) (fun hHeld => ?_)
    clear hK K
    refine norm_ (a' := ?_) ?_ ?_
    rotate_left
    · show Act.put _ (some 27) _ = _
      simp only [Act.put, List.setIfInBounds_toArray, List.set_cons_zero, List.set_cons_succ, i64_w, i32_w]
      rfl
    refine pure_ (i := 17) (N := some 28) (v := ?_) (a' := ?_) #[true, true, true, true, true, true, true, true, true, true, true, true, true, true, true, true, true, true, false, false] rfl rfl (by kernel_rfl) (fun _ _ _ h => h) (Or.inl ⟨by rfl, ?_⟩) ?_ ?_
    rotate_left
    · intro w'
      go_simp
      with_reducible rfl
    rotate_left
    · simp only [Act.put, List.setIfInBounds_toArray, List.set_cons_zero, List.set_cons_succ, i64_w, i32_w]
      rfl
    refine pure_ (i := 18) (N := some 29) (v := ?_) (a' := ?_) #[true, true, true, true, true, true, true, true, true, true, true, true, true, true, true, true, true, true, true, false] rfl rfl (by kernel_rfl) (fun _ _ _ h => h) (Or.inl ⟨by rfl, ?_⟩) ?_ ?_
    rotate_left
    · intro w'
      go_simp
      with_reducible rfl
    rotate_left
    · simp only [Act.put, List.setIfInBounds_toArray, List.set_cons_zero, List.set_cons_succ, i64_w, i32_w]
      rfl
    refine last_ (i := 19) (N := none) #[true, true, true, true, true, true, true, true, true, true, true, true, true, true, true, true, true, true, true, true] rfl rfl (by kernel_rfl) (by decide) (fun K hK => ?_)
    refine skip_ (w1 := ?_) (by rfl) rfl ?_ ?_
    rotate_left
    · go_simp
      rfl
    have HBX := HBw5
    refine hK.out _ _ ?_
    clear hK K
    refine done_ (by kernel_rfl) ?_

    go_wp2
    go_ret
    obtain ⟨h1, h2⟩ := IsR.put HGW.out hBg.out HBB.out HBX.out HO.out HL1.out
    have e1 : (L.take n ++ L.drop (n + 1)).length = n + (L.length - (n + 1)) := by rw [List.length_append, hnt, List.length_drop]
    rw [e1] at h1 h2
    exact ⟨congrArg (fun x => Ending.returned (.bool x)) hM.out.symm, by rw [HE.out]; exact h1, h2⟩
  · have hb : decide (posOf L id < 0) = true := decide_eq_true (by rw [posOf_none.2 c1]; omega)
    have hE := Aside0.mk (show L.erase id = L from List.erase_of_not_mem c1)
    have hM := Aside0.mk (show decide (id ∈ L) = false from decide_eq_false c1)
    clear c1
    go_enter Try.func46, Try.ntmps46
    go_wp2_with (first | (go_at_call 49; with_reducible refine (RAt_calls g B mo id L _ HI.out).mono ?_; rintro e w' ⟨rfl, hI, hn⟩; have HI_ := Aside0.mk hI; have HNR := Aside0.mk hn; clear hI hn HI; have HI := HI_; clear HI_))
    go_ret
    exact ⟨congrArg (fun x => Ending.returned (.bool x)) hM.out.symm, by rw [hE.out]; exact HI.out, Near.of_below HNR.out g⟩
end Go.Proofs.Ytagmefjpnmjcjaa.Wa
