-- By a program of this session (wip/pp: a turned copy of the kit's print) out of the translation; Lean checks it.
import Derived.Test.YtagmefjpnmjcjaaCox0
import Derived.Test.YtagmefjpnmjcjaaCox1
import Derived.Test.YtagmefjpnmjcjaaCoHand
namespace Go.Proofs.Ytagmefjpnmjcjaa.Co
open Go.RowKit Go.Proofs.YtagmefjpnmjcjaaW.PrintWords Go.Proofs.YtagmefjpnmjcjaaW.PrintLast Go.Proofs.YtagmefjpnmjcjaaW.PrintMore
attribute [local go_sem] max2_int min2_int max_two min_two max_three min_three max_four min_four   -- for this text's walks alone
set_option linter.unusedVariables false
set_option linter.unusedSimpArgs false

/-! ### conn_Conn_Drain: function 61 -/
def conn_Conn_Drain.f (s0_0 : Int) (s0_1 : Int) (s0_2 : Int) (s0_3 : Int) (s0_4 : Bool) (s0_5 : Bool) : Option (Int × Int × Int × Int × Bool × Bool) := if s0_1 = 0 then ((conn_Conn_close.f s0_0 s0_1 s0_2 s0_3 s0_4 s0_5).bind fun bt102 => (some (bt102.2.1, bt102.2.2.1, bt102.2.2.2.1, bt102.2.2.2.2.1, bt102.2.2.2.2.2.1, bt102.2.2.2.2.2.2))) else (some (s0_0, s0_1, s0_2, s0_3, s0_4, true))
set_option maxHeartbeats 8000000 in
set_option maxRecDepth 100000 in
theorem conn_Conn_Drain.calls (g : Nat) (s0_0 : Int) (s0_1 : Int) (s0_2 : Int) (s0_3 : Int) (s0_4 : Bool) (s0_5 : Bool) (r1 : Int) (r2 : Int) (r3 : Int) (r4 : Int) (r5 : Bool) (r6 : Bool) (w0 w : World) (hI : IsS137 w0 w g s0_0 s0_1 s0_2 s0_3 s0_4 s0_5) (hB : Below w0.heap.size w0 w) (h : conn_Conn_Drain.f s0_0 s0_1 s0_2 s0_3 s0_4 s0_5 = some (r1, r2, r3, r4, r5, r6)) :
    Calls Try.prog 61 #[.pointer (some ⟨g, 0, none⟩)] w fun e w' => e = .returned (.tuple #[]) ∧ IsS137 w0 w' g r1 r2 r3 r4 r5 r6 ∧ Below w0.heap.size w0 w' ∧ KeepBut w w' g none := by
  have HI0 := Aside0.mk hI
  have HK := Aside0.mk (KeepBut.refl w g none)
  have HL := Aside0.mk hB.size
  clear hI
  have HW0 := Aside0.mk hB.size
  have HB := Aside0.mk hB
  clear hB
  have H : (if s0_1 = 0 then ((conn_Conn_close.f s0_0 s0_1 s0_2 s0_3 s0_4 s0_5).bind fun bt102 => (some (bt102.2.1, bt102.2.2.1, bt102.2.2.2.1, bt102.2.2.2.2.1, bt102.2.2.2.2.2.1, bt102.2.2.2.2.2.2))) else (some (s0_0, s0_1, s0_2, s0_3, s0_4, true))) = some (r1, r2, r3, r4, r5, r6) := h
  clear h
  by_cases c2 : s0_1 = 0
  ·rw [if_pos c2] at H
   have c2b0 : (s0_1 == 0) = true := beq_iff_eq.mpr c2
   have c2b1 : (s0_1 != 0) = false := bne_eq_false_iff_eq.mpr c2
   clear c2
   replace H := Option.bind_eq_some_iff.mp H
   obtain ⟨⟨t102, t103, t104, t105, t106, t107, t108⟩, A30, H⟩ := H
   replace H : (some (t103, t104, t105, t106, t107, t108)) = some (r1, r2, r3, r4, r5, r6) := H
   have A3 := Aside0.mk A30
   clear A30
   simp only [Option.some.injEq, Prod.mk.injEq] at H
   obtain ⟨rfl, rfl, rfl, rfl, rfl, rfl⟩ := H
   obtain ⟨HGz4, hgz4⟩ := HI0.out
   have hcz4_0 := cellS137_0 HGz4
   have hcz4_1 := cellS137_1 HGz4
   have hcz4_2 := cellS137_2 HGz4
   have hcz4_3 := cellS137_3 HGz4
   have hcz4_4 := cellS137_4 HGz4
   have hcz4_5 := cellS137_5 HGz4
   have hfz4_0 := blk_frozen HGz4 0
   have hfz4_1 := blk_frozen HGz4 1
   have hfz4_2 := blk_frozen HGz4 2
   have hfz4_3 := blk_frozen HGz4 3
   have hfz4_4 := blk_frozen HGz4 4
   have hfz4_5 := blk_frozen HGz4 5
   clear HGz4 hgz4
   go_enter Try.func61, Try.ntmps61
   go_wp2_with (first | ((with_reducible refine gate_callee (f := 79) rfl ?_); refine goesL_ (some 11) rfl rfl Try.func79 (by kernel_rfl) rfl #[.pointer (some ⟨g, 0, none⟩)] rfl (by (try simp only [List.map_toArray, List.map_cons, List.map_nil]); first | done | rfl | (simp only [List.length_drop, List.length_take]; rfl)) ?_; (with_reducible refine (conn_Conn_close.calls g s0_0 s0_1 s0_2 s0_3 s0_4 s0_5 t102 t103 t104 t105 t106 t107 t108 w0 _ ?side1 ?side2 (by first | exact A3.out | (have h_ := A3.out; exact h_))).mono ?_); (case side1 => repeat (first | (with_reducible first | exact HI0.out | apply IsS137.alloc | apply IsS137.drewN | apply IsS137.drew | apply IsS137.set_0 | apply IsS137.set_1 | apply IsS137.set_2 | apply IsS137.set_3 | apply IsS137.set_4 | apply IsS137.set_5) | exact HI0.out)); (case side2 => repeat (first | (with_reducible first | exact HB.out | apply below_alloc | apply pw_below_drewN | apply below_drew1 | refine below_set ?_ (IsS137.ge HI0.out)) | exact HB.out)); rintro e w5 ⟨rfl, hi, hb, hk⟩; refine ⟨_, rfl, ?_⟩; have n0_ := Aside0.mk (KeepBut.trans (by repeat (first | (with_reducible first | exact HK.out | apply KeepBut.set_ | apply keep_drewN | apply keep_drew | apply keep_alloc) | exact HK.out)) hk (.inl rfl)); have n1_ := Aside0.mk (hb); have n2_ := Aside0.mk (hi); clear HK; clear HB; clear HI0; have HK := n0_; have HB := n1_; have HI0 := n2_; clear n0_ n1_ n2_; (try clear hb); (try clear hb2); (try clear hk); (try clear hi)))
   first | go_end0 | ((try simp only [Exit.inBlock, Exit.then]); refine bodyPost_ret (results_none rfl _ _ _) rfl ?_)
   exact ⟨by first | rfl | (simp [errW_none, errW_some] <;> rfl) | (simp [*, errW_none, errW_some] <;> rfl), by repeat (first | (with_reducible first | exact HI0.out | apply IsS137.alloc | apply IsS137.drewN | apply IsS137.drew | apply IsS137.set_0 | apply IsS137.set_1 | apply IsS137.set_2 | apply IsS137.set_3 | apply IsS137.set_4 | apply IsS137.set_5) | exact HI0.out), by repeat (first | (with_reducible first | exact HB.out | apply below_alloc | apply pw_below_drewN | apply below_drew1 | refine below_set ?_ (IsS137.ge HI0.out)) | exact HB.out), by repeat (first | (with_reducible first | exact HK.out | apply KeepBut.set_ | apply keep_drewN | apply keep_drew | apply keep_alloc) | exact HK.out)⟩
  ·rw [if_neg c2] at H
   have c2b0 : (s0_1 == 0) = false := beq_eq_false_iff_ne.mpr c2
   have c2b1 : (s0_1 != 0) = true := bne_iff_ne.mpr c2
   simp only [Option.some.injEq, Prod.mk.injEq] at H
   obtain ⟨rfl, rfl, rfl, rfl, rfl, rfl⟩ := H
   obtain ⟨HGz6, hgz6⟩ := HI0.out
   have hcz6_0 := cellS137_0 HGz6
   have hcz6_1 := cellS137_1 HGz6
   have hcz6_2 := cellS137_2 HGz6
   have hcz6_3 := cellS137_3 HGz6
   have hcz6_4 := cellS137_4 HGz6
   have hcz6_5 := cellS137_5 HGz6
   have hfz6_0 := blk_frozen HGz6 0
   have hfz6_1 := blk_frozen HGz6 1
   have hfz6_2 := blk_frozen HGz6 2
   have hfz6_3 := blk_frozen HGz6 3
   have hfz6_4 := blk_frozen HGz6 4
   have hfz6_5 := blk_frozen HGz6 5
   clear HGz6 hgz6
   go_enter Try.func61, Try.ntmps61
   go_wp2
   first | go_end0 | ((try simp only [Exit.inBlock, Exit.then]); refine bodyPost_ret (results_none rfl _ _ _) rfl ?_)
   exact ⟨by first | rfl | (simp [errW_none, errW_some] <;> rfl) | (simp [*, errW_none, errW_some] <;> rfl), by repeat (first | (with_reducible first | exact HI0.out | apply IsS137.alloc | apply IsS137.drewN | apply IsS137.drew | apply IsS137.set_0 | apply IsS137.set_1 | apply IsS137.set_2 | apply IsS137.set_3 | apply IsS137.set_4 | apply IsS137.set_5) | exact HI0.out), by repeat (first | (with_reducible first | exact HB.out | apply below_alloc | apply pw_below_drewN | apply below_drew1 | refine below_set ?_ (IsS137.ge HI0.out)) | exact HB.out), by repeat (first | (with_reducible first | exact HK.out | apply KeepBut.set_ | apply keep_drewN | apply keep_drew | apply keep_alloc) | exact HK.out)⟩

-- NOT PRINTED: function 85 (atomic_CompareAndSwapInt64)

-- NOT PRINTED: function 80 (atomic_Int64_CompareAndSwap)

end Go.Proofs.Ytagmefjpnmjcjaa.Co
