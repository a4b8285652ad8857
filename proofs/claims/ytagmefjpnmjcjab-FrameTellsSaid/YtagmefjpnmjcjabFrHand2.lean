/- The decoder of frames (package frame), by hand: Concat, New, Pending, keep. -/
import Derived.Test.YtagmefjpnmjcjabFrHand
namespace Go.Proofs.Ytagmefjpnmjcjab.Fh
open Go.RowKit Go.Proofs.YtagmefjpnmjcjabW.PrintWords Go.Proofs.YtagmefjpnmjcjabW.PrintLast Go.Proofs.YtagmefjpnmjcjabW.PrintMore
open Go.Proofs.Ytagmefjpnmjcjab.Nu (slices_Clone_byte_byte.f slices_Clone_byte_byte.calls)
open Go.Proofs.Ytagmefjpnmjcjab.Fr (info5 info38 info41 S38 k38 k38_mkM k38_openM S41 k41 frame_Read.f frame_Read.calls)
open Go.Proofs.Ytagmefjpnmjcjab.FrNum (readS read_eq)
attribute [local go_sem] max2_int min2_int max_two min_two
set_option linter.unusedVariables false
set_option linter.unusedSimpArgs false
attribute [local irreducible] IsD T8 Near
set_option maxHeartbeats 8000000 in
set_option maxRecDepth 100000 in
theorem Concat_calls (g2 : Nat) (A0 A1 : Option Addr) (n0 n1 c0 c1 : Nat) (l0 l1 : List Int) (w : World) (hb : w.heap[g2]? = some (.cells #[.slice A0 n0 c0, .slice A1 n1 c1] 22 (0, 0)))
    (h0 : Kd.C (Kd.int .u8) w A0 n0 l0) (h1 : Kd.C (Kd.int .u8) w A1 n1 l1) (hn : n0 + n1 ≤ 1000000) :
    Calls Try.prog 54 #[.slice (some ⟨g2, 0, none⟩) 2 2] w fun e w' => ∃ v : Value, e = .returned v ∧ Kd.R (Kd.int .u8) 5 w' w.heap.size (fun _ => True) v (l0 ++ l1) ∧ Below w.heap.size w w' := by
  have H0 := Aside0.mk h0
  have H1 := Aside0.mk h1
  have HN := Aside0.mk hn
  have HG := Aside0.mk hb
  have L0 := Aside0.mk h0.1
  have L1 := Aside0.mk h1.1
  have hc0 : w.cell? ⟨g2, 0, none⟩ = some (.slice A0 n0 c0) := (blk_cell hb 0).trans rfl
  have hc1 : w.cell? ⟨g2, 1, none⟩ = some (.slice A1 n1 c1) := (blk_cell hb 1).trans rfl
  have hw0 : wrap64 (n0 : Int) = n0 := FrNum.wrap64_of (by omega) (by omega)
  have hw1 : wrap64 ((n0 : Int) + (n1 : Int)) = (n0 : Int) + n1 := FrNum.wrap64_of (by omega) (by omega)
  have b0 : decide ((n0 : Int) < 0) = false := decide_eq_false (by omega)
  have b1 : decide ((n0 : Int) + (n1 : Int) < 0) = false := decide_eq_false (by omega)
  clear h0 h1 hn hb
  go_enter Try.func54, Try.ntmps54
  go_wp2
  go_loopg [3, 11] 3 (fun kq v3 v11 w' => w = w' ∧ ((v3 = .int .i64 0 ∧ v11 = .int .i64 0 ∧ Aside0 (3 ≤ kq)) ∨ (v3 = .int .i64 (n0 : Int) ∧ v11 = .int .i64 1 ∧ Aside0 (2 ≤ kq)) ∨ (v3 = .int .i64 ((n0 : Int) + (n1 : Int)) ∧ v11 = .int .i64 2 ∧ Aside0 (1 ≤ kq))))
  case atStart => exact ⟨rfl, .inl ⟨rfl, rfl, ⟨Nat.le_refl _⟩⟩⟩
  case round =>
    obtain ⟨rfl, ⟨rfl, rfl, HK⟩ | ⟨rfl, rfl, HK⟩ | ⟨rfl, rfl, HK⟩⟩ := hrel
    · obtain ⟨gk, rfl⟩ : ∃ gk', gk = gk' + 1 := ⟨gk - 1, by have := HK.out; omega⟩
      go_wp2
      go_roundg gk
      case measure => omega
      case rel => exact ⟨rfl, .inr (.inl ⟨congrArg (Value.int .i64) hw0, rfl, ⟨by have := HK.out; omega⟩⟩)⟩
    · obtain ⟨gk, rfl⟩ : ∃ gk', gk = gk' + 1 := ⟨gk - 1, by have := HK.out; omega⟩
      go_wp2
      go_roundg gk
      case measure => omega
      case rel => exact ⟨rfl, .inr (.inr ⟨congrArg (Value.int .i64) hw1, rfl, ⟨by have := HK.out; omega⟩⟩)⟩
    · clear HK
      go_wp2_with (first | (go_at_call 64; with_reducible refine (Grow_calls ((n0 : Int) + (n1 : Int)) _ (by omega) (by have := HN.out; omega)).mono ?_; rintro e w1 ⟨v, rfl, hr, hb⟩; have HR := Aside0.mk hr; have HB := Aside0.mk hb; clear hr hb))
      go_loopg [6, 27] 3 (fun kq v6 v27 w' => Aside0 (Below w.heap.size w w') ∧ ((Aside0 (Kd.R (Kd.int .u8) 5 w' w.heap.size (fun _ => True) v6 []) ∧ v27 = .int .i64 0 ∧ Aside0 (3 ≤ kq)) ∨ (Aside0 (Kd.R (Kd.int .u8) 5 w' w.heap.size (fun _ => True) v6 l0) ∧ v27 = .int .i64 1 ∧ Aside0 (2 ≤ kq)) ∨ (Aside0 (Kd.R (Kd.int .u8) 5 w' w.heap.size (fun _ => True) v6 (l0 ++ l1)) ∧ v27 = .int .i64 2 ∧ Aside0 (1 ≤ kq))))
      case atStart => exact ⟨HB, .inl ⟨HR, rfl, ⟨Nat.le_refl _⟩⟩⟩
      case round =>
        clear HB HR hc0 hc1
        obtain ⟨HB, ⟨HR, rfl, HK⟩ | ⟨HR, rfl, HK⟩ | ⟨HR, rfl, HK⟩⟩ := hrel
        · obtain ⟨gk, rfl⟩ : ∃ gk', gk = gk' + 1 := ⟨gk - 1, by have := HK.out; omega⟩
          have hc0 := pw_cell_below HB.out ((blk_cell HG.out 0).trans rfl)
          go_wp2_with (first | ((with_reducible refine gate_builtin (b := .append) (xs := #[.tmp 31, .tmp 32]) rfl ?_); at_builtin; refine Kd.R_append_row (Value.int .u8) 0 (w0 := w) w.heap.size rfl (.tmp 31) (.tmp 32) 22 5 (.int .u8 0) 1 rfl Try.underlying22 info5 rfl (by omega) _ [] l0 A0 n0 c0 (fun _ => True) rfl rfl (fun _ _ => trivial) HR.out (Kd.C_below H0.out HB.out) HB.out HB.out.size (by have := HN.out; simp only [List.length_nil]; omega) ?_; intro v1 w2 ho hb hg hat; have HR1 := Aside0.mk ho; clear HB; have HB := Aside0.mk hb; clear ho hb hg hat HR))
          go_roundg gk
          case measure => omega
          case rel => exact ⟨HB, .inr (.inl ⟨⟨by rw [List.nil_append] at HR1; exact HR1.out⟩, rfl, ⟨by have := HK.out; omega⟩⟩)⟩
        · obtain ⟨gk, rfl⟩ : ∃ gk', gk = gk' + 1 := ⟨gk - 1, by have := HK.out; omega⟩
          have hc1 := pw_cell_below HB.out ((blk_cell HG.out 1).trans rfl)
          go_wp2_with (first | ((with_reducible refine gate_builtin (b := .append) (xs := #[.tmp 31, .tmp 32]) rfl ?_); at_builtin; refine Kd.R_append_row (Value.int .u8) 0 (w0 := w) w.heap.size rfl (.tmp 31) (.tmp 32) 22 5 (.int .u8 0) 1 rfl Try.underlying22 info5 rfl (by omega) _ l0 l1 A1 n1 c1 (fun _ => True) rfl rfl (fun _ _ => trivial) HR.out (Kd.C_below H1.out HB.out) HB.out HB.out.size (by have := HN.out; have := L0.out; omega) ?_; intro v2 w3 ho hb hg hat; have HR2 := Aside0.mk ho; clear HB; have HB := Aside0.mk hb; clear ho hb hg hat HR))
          go_roundg gk
          case measure => omega
          case rel => exact ⟨HB, .inr (.inr ⟨HR2, rfl, ⟨by have := HK.out; omega⟩⟩)⟩
        · go_wp2
          go_ret
          exact ⟨_, rfl, HR.out, HB.out⟩

set_option maxHeartbeats 8000000 in
set_option maxRecDepth 100000 in
theorem New_calls (w : World) : Calls Try.prog 33 #[] w fun e w' => ∃ g : Nat, e = .returned (.pointer (some ⟨g, 0, none⟩)) ∧ IsD w' g [] 0 ∧ w.heap.size ≤ g ∧ Below w.heap.size w w' := by
  go_enter Try.func33, Try.ntmps33
  go_wp2_with (first | ((with_reducible refine gate_dst (N := 2) rfl ?_); refine box_event ?hg (N := 2) ?hd (cs := #[.slice none 0 0, .int .i64 0]) (t := 93) ?hr ?_; (case hd => rfl); (case hg => rfl); (case hr => first | (go_simp; done) | (go_simp; rfl)); intro gb hg w2 hbox hb; have HBX := Aside0.mk (show IsD w2 gb [] 0 by unfold IsD; exact ⟨_, hbox, T8.nil _⟩); have HG := Aside0.mk hg; have HBB := Aside0.mk hb; clear hbox hg hb))
  go_ret
  exact ⟨gb, rfl, HBX.out, by rw [HG.out]; exact Nat.le_refl _, HBB.out⟩

set_option maxHeartbeats 8000000 in
set_option maxRecDepth 100000 in
theorem Pending_calls (g : Nat) (b : List Int) (e : Int) (n : Nat) (hn : b.length = n) (w : World) (hI : IsD w g b e) :
    Calls Try.prog 36 #[.pointer (some ⟨g, 0, none⟩)] w fun en w' => en = .returned (.int .i64 n) ∧ w = w' := by
  subst hn
  obtain ⟨A, c, hc, _⟩ := hI.c0
  clear hI
  go_enter Try.func36, Try.ntmps36
  go_wp2
  go_ret
  exact ⟨rfl, rfl⟩

set_option maxHeartbeats 8000000 in
set_option maxRecDepth 100000 in
theorem keep_calls (g : Nat) (b l : List Int) (e : Int) (A : Option Addr) (n c : Nat) (hn : l.length = n) (w : World) (hI : IsD w g b e) (hC : Kd.C (Kd.int .u8) w A n l) (hc : n ≤ c) (hl : n ≤ 1000000) :
    Calls Try.prog 55 #[.pointer (some ⟨g, 0, none⟩), .slice A n c] w fun en w' => en = .returned (.tuple #[]) ∧ IsD w' g l e ∧ Near w w' g := by
  have HI := Aside0.mk hI
  have HC := Aside0.mk hC
  clear hI hC
  go_enter Try.func55, Try.ntmps55
  go_wp2_with (first | (go_at_call 51; subst hn; with_reducible refine (slices_Clone_byte_byte.calls A c l l _ HC.out hc (FrNum.clone_eq l (by omega))).mono ?_; rintro e2 w1 ⟨v, rfl, hr, hb⟩; obtain ⟨A3, c3, rfl⟩ := T8.slice (T8.of_R hr); have HR := Aside0.mk (T8.of_R hr); have HB := Aside0.mk hb; have hf := (HI.out.below hb).fz 0; obtain ⟨A2, c2, hcell, _⟩ := (HI.out.below hb).c0; clear hr hb))
  go_end0
  exact ⟨rfl, (HI.out.below HB.out).setB HR.out, (Near.of_below HB.out g).set_ _ _⟩
end Go.Proofs.Ytagmefjpnmjcjab.Fh
