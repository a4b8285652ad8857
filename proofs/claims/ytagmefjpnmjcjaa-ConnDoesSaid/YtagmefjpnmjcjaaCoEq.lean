-- By a program of this session (wip/pp: a turned copy of the kit's print) out of the translation; Lean checks it.
import Derived.Test.YtagmefjpnmjcjaaCox6
namespace Go.Proofs.Ytagmefjpnmjcjaa.Co
open Go.RowKit Go.Proofs.YtagmefjpnmjcjaaW.PrintWords Go.Proofs.YtagmefjpnmjcjaaW.PrintLast Go.Proofs.YtagmefjpnmjcjaaW.PrintMore
attribute [local go_sem] max2_int min2_int max_two min_two max_three min_three max_four min_four   -- for this text's walks alone
set_option linter.unusedVariables false
set_option linter.unusedSimpArgs false

theorem eqA104 (d : Nat) (w : World) (x0 y0 : Bool) (x1 y1 : Int) (x2 y2 : Int) :
    (Op.equalIn (d + 2) 104 (.agg #[.bool x0, .int .i64 x1, .int .u64 x2]) (.agg #[.bool y0, .int .i64 y1, .int .u64 y2])).run Try.prog w = .ok (x0 == y0 && (x1 == y1 && (x2 == y2))) w := by
  refine eqA_of Try.underlying104 (by kernel_rfl) ?_
  refine eqf_cons (by rfl) (by go_simp; rfl) (by go_simp; rfl) (by go_simp) ?_
  refine eqf_cons (by rfl) (by go_simp; rfl) (by go_simp; rfl) (by go_simp) ?_
  exact eqf_last (by rfl) (by go_simp; rfl) (by go_simp; rfl) (by go_simp)
theorem s0 {w0 W : World} {g : Nat} {f0 f1 f2 f3 : Int} {f4 : Bool} {f5 : Int} (h : IsS109 w0 W g f0 f1 f2 f3 f4 f5) (x : Int) : IsS109 w0 (W.setCell ⟨g, 0, none⟩ (.int .u64 x)) g x f1 f2 f3 f4 f5 := h.set_0 x
theorem s1 {w0 W : World} {g : Nat} {f0 f1 f2 f3 : Int} {f4 : Bool} {f5 : Int} (h : IsS109 w0 W g f0 f1 f2 f3 f4 f5) (x : Int) : IsS109 w0 (W.setCell ⟨g, 1, none⟩ (.int .i64 x)) g f0 x f2 f3 f4 f5 := h.set_1 x
theorem s2 {w0 W : World} {g : Nat} {f0 f1 f2 f3 : Int} {f4 : Bool} {f5 : Int} (h : IsS109 w0 W g f0 f1 f2 f3 f4 f5) (x : Int) : IsS109 w0 (W.setCell ⟨g, 2, none⟩ (.int .i64 x)) g f0 f1 x f3 f4 f5 := h.set_2 x
theorem s3 {w0 W : World} {g : Nat} {f0 f1 f2 f3 : Int} {f4 : Bool} {f5 : Int} (h : IsS109 w0 W g f0 f1 f2 f3 f4 f5) (x : Int) : IsS109 w0 (W.setCell ⟨g, 3, none⟩ (.int .u64 x)) g f0 f1 f2 x f4 f5 := h.set_3 x
theorem s4 {w0 W : World} {g : Nat} {f0 f1 f2 f3 : Int} {f4 : Bool} {f5 : Int} (h : IsS109 w0 W g f0 f1 f2 f3 f4 f5) (x : Bool) : IsS109 w0 (W.setCell ⟨g, 4, none⟩ (.bool x)) g f0 f1 f2 f3 x f5 := h.set_4 x
theorem s5 {w0 W : World} {g : Nat} {f0 f1 f2 f3 : Int} {f4 : Bool} {f5 : Int} (h : IsS109 w0 W g f0 f1 f2 f3 f4 f5) (x : Int) : IsS109 w0 (W.setCell ⟨g, 5, none⟩ (.int .i64 x)) g f0 f1 f2 f3 f4 x := h.set_5 x
theorem sa {w0 W : World} {g : Nat} {f0 f1 f2 f3 : Int} {f4 : Bool} {f5 : Int} (h : IsS109 w0 W g f0 f1 f2 f3 f4 f5) (o : Obj) : IsS109 w0 (W.alloc o) g f0 f1 f2 f3 f4 f5 := h.alloc o
theorem sn {w0 W : World} {g : Nat} {f0 f1 f2 f3 : Int} {f4 : Bool} {f5 : Int} (h : IsS109 w0 W g f0 f1 f2 f3 f4 f5) (m : Nat) : IsS109 w0 (W.drewN m) g f0 f1 f2 f3 f4 f5 := h.drewN m
theorem sd {w0 W : World} {g : Nat} {f0 f1 f2 f3 : Int} {f4 : Bool} {f5 : Int} (h : IsS109 w0 W g f0 f1 f2 f3 f4 f5) : IsS109 w0 W.drew g f0 f1 f2 f3 f4 f5 := h.drew
theorem sf {w0 W : World} {g : Nat} {f0 f1 f2 f3 : Int} {f4 : Bool} {f5 : Int} {p : Addr} (h : IsS109 w0 W g f0 f1 f2 f3 f4 f5) (hne : g ≠ p.block) (u : Value) : IsS109 w0 (W.setCell p u) g f0 f1 f2 f3 f4 f5 := h.far hne u
theorem t0 {w0 W : World} {g : Nat} {f0 f1 f2 f3 : Int} {f4 : Bool} {f5 : Bool} (h : IsS137 w0 W g f0 f1 f2 f3 f4 f5) (x : Int) : IsS137 w0 (W.setCell ⟨g, 0, none⟩ (.int .u64 x)) g x f1 f2 f3 f4 f5 := h.set_0 x
theorem t1 {w0 W : World} {g : Nat} {f0 f1 f2 f3 : Int} {f4 : Bool} {f5 : Bool} (h : IsS137 w0 W g f0 f1 f2 f3 f4 f5) (x : Int) : IsS137 w0 (W.setCell ⟨g, 1, none⟩ (.int .u64 x)) g f0 x f2 f3 f4 f5 := h.set_1 x
theorem t2 {w0 W : World} {g : Nat} {f0 f1 f2 f3 : Int} {f4 : Bool} {f5 : Bool} (h : IsS137 w0 W g f0 f1 f2 f3 f4 f5) (x : Int) : IsS137 w0 (W.setCell ⟨g, 2, none⟩ (.int .i64 x)) g f0 f1 x f3 f4 f5 := h.set_2 x
theorem t3 {w0 W : World} {g : Nat} {f0 f1 f2 f3 : Int} {f4 : Bool} {f5 : Bool} (h : IsS137 w0 W g f0 f1 f2 f3 f4 f5) (x : Int) : IsS137 w0 (W.setCell ⟨g, 3, none⟩ (.int .i64 x)) g f0 f1 f2 x f4 f5 := h.set_3 x
theorem t4 {w0 W : World} {g : Nat} {f0 f1 f2 f3 : Int} {f4 : Bool} {f5 : Bool} (h : IsS137 w0 W g f0 f1 f2 f3 f4 f5) (x : Bool) : IsS137 w0 (W.setCell ⟨g, 4, none⟩ (.bool x)) g f0 f1 f2 f3 x f5 := h.set_4 x
theorem t5 {w0 W : World} {g : Nat} {f0 f1 f2 f3 : Int} {f4 : Bool} {f5 : Bool} (h : IsS137 w0 W g f0 f1 f2 f3 f4 f5) (x : Bool) : IsS137 w0 (W.setCell ⟨g, 5, none⟩ (.bool x)) g f0 f1 f2 f3 f4 x := h.set_5 x
theorem ta {w0 W : World} {g : Nat} {f0 f1 f2 f3 : Int} {f4 : Bool} {f5 : Bool} (h : IsS137 w0 W g f0 f1 f2 f3 f4 f5) (o : Obj) : IsS137 w0 (W.alloc o) g f0 f1 f2 f3 f4 f5 := h.alloc o
theorem tn {w0 W : World} {g : Nat} {f0 f1 f2 f3 : Int} {f4 : Bool} {f5 : Bool} (h : IsS137 w0 W g f0 f1 f2 f3 f4 f5) (m : Nat) : IsS137 w0 (W.drewN m) g f0 f1 f2 f3 f4 f5 := h.drewN m
theorem td {w0 W : World} {g : Nat} {f0 f1 f2 f3 : Int} {f4 : Bool} {f5 : Bool} (h : IsS137 w0 W g f0 f1 f2 f3 f4 f5) : IsS137 w0 W.drew g f0 f1 f2 f3 f4 f5 := h.drew
theorem tf {w0 W : World} {g : Nat} {f0 f1 f2 f3 : Int} {f4 : Bool} {f5 : Bool} {p : Addr} (h : IsS137 w0 W g f0 f1 f2 f3 f4 f5) (hne : g ≠ p.block) (u : Value) : IsS137 w0 (W.setCell p u) g f0 f1 f2 f3 f4 f5 := h.far hne u
theorem IsS109.but {w0 W W1 : World} {g : Nat} {f0 : Int} {f1 : Int} {f2 : Int} {f3 : Int} {f4 : Bool} {f5 : Int} {gx : Nat} {row : Option Nat} {cs : Array Value} {t : TypeId} {fr : Nat × Nat} (h : IsS109 w0 W g f0 f1 f2 f3 f4 f5) (hx : W.heap[gx]? = some (.cells cs t fr)) (ht : t ≠ 109) (hk : KeepBut W W1 gx row) (hr : some g ≠ row) : IsS109 w0 W1 g f0 f1 f2 f3 f4 f5 := ⟨KeepBut.blk hk h.1 (h.ne_blk hx ht) hr, h.2⟩
theorem IsS137.but {w0 W W1 : World} {g : Nat} {f0 : Int} {f1 : Int} {f2 : Int} {f3 : Int} {f4 : Bool} {f5 : Bool} {gx : Nat} {row : Option Nat} {cs : Array Value} {t : TypeId} {fr : Nat × Nat} (h : IsS137 w0 W g f0 f1 f2 f3 f4 f5) (hx : W.heap[gx]? = some (.cells cs t fr)) (ht : t ≠ 137) (hk : KeepBut W W1 gx row) (hr : some g ≠ row) : IsS137 w0 W1 g f0 f1 f2 f3 f4 f5 := ⟨KeepBut.blk hk h.1 (h.ne_blk hx ht) hr, h.2⟩
end Go.Proofs.Ytagmefjpnmjcjaa.Co
