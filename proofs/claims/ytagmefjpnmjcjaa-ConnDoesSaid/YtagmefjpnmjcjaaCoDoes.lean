-- By a program of this session (wip/pp: a turned copy of the kit's print) out of the translation; Lean checks it.
import Derived.Test.YtagmefjpnmjcjaaCox0
import Derived.Test.YtagmefjpnmjcjaaCoEq
import Derived.Test.YtagmefjpnmjcjaaCox1
import Derived.Test.YtagmefjpnmjcjaaCox2
import Derived.Test.YtagmefjpnmjcjaaCox3
import Derived.Test.YtagmefjpnmjcjaaCox6
import Derived.Test.YtagmefjpnmjcjaaCox7
import Derived.Test.YtagmefjpnmjcjaaCox8
import Derived.Test.YtagmefjpnmjcjaaCoHand
namespace Go.Proofs.Ytagmefjpnmjcjaa.Co
open Go.RowKit Go.Proofs.YtagmefjpnmjcjaaW.PrintWords Go.Proofs.YtagmefjpnmjcjaaW.PrintLast Go.Proofs.YtagmefjpnmjcjaaW.PrintMore
attribute [local go_sem] max2_int min2_int max_two min_two max_three min_three max_four min_four   -- for this text's walks alone
set_option linter.unusedVariables false
set_option linter.unusedSimpArgs false

attribute [local go_sem high] eqA104
/-! ### signalmanlaw09_ConnDoes: function 12 -/
mutual
def signalmanlaw09_ConnDoes.l0 : Nat → List (S102) → Int → Int → Int → Int → Int → Int → Bool → Bool → Int → Int → Int → Int → Bool → Int → Option (Bool)
  | 0, _, _, _, _, _, _, _, _, _, _, _, _, _, _, _ => none
  | k + 1, x18, x19, x20, a0, a1, a2, a3, a4, a5, b0, b1, b2, b3, b4, b5 => if x20 < x19 then (if 0 ≤ x20 then (if x20 < (x18.length : Int) then ((signalmanlaw09_do.f k a0 a1 a2 a3 a4 a5 ((rd_T102 x18 x20).f0) ((rd_T102 x18 x20).f1) ((rd_T102 x18 x20).f2)).bind fun bt384 => ((signalmanlaw09_own.f k b0 b1 b2 b3 b4 b5 ((rd_T102 x18 x20).f0) ((rd_T102 x18 x20).f1) ((rd_T102 x18 x20).f2)).bind fun bt393 => (if (!(bt384.1 == bt393.1) || (!(bt384.2.1 == bt393.2.1) || (!(bt384.2.2.1 == bt393.2.2.1)))) = true then (some false) else ((conn_Conn_State.f bt384.2.2.2.1 bt384.2.2.2.2.1 bt384.2.2.2.2.2.1 bt384.2.2.2.2.2.2.1 bt384.2.2.2.2.2.2.2.1 bt384.2.2.2.2.2.2.2.2).bind fun bt402 => (if bt402.1 = bt393.2.2.2.2.1 then ((conn_Conn_Owner.f bt402.2.1 bt402.2.2.1 bt402.2.2.2.1 bt402.2.2.2.2.1 bt402.2.2.2.2.2.1 bt402.2.2.2.2.2.2).bind fun bt409 => (if bt409.1 = bt393.2.2.2.2.2.1 then ((conn_Conn_Flight.f bt409.2.1 bt409.2.2.1 bt409.2.2.2.1 bt409.2.2.2.2.1 bt409.2.2.2.2.2.1 bt409.2.2.2.2.2.2).bind fun bt416 => (if bt416.1 = bt393.2.2.2.2.2.2.1 then ((conn_Conn_Sent.f bt416.2.1 bt416.2.2.1 bt416.2.2.2.1 bt416.2.2.2.2.1 bt416.2.2.2.2.2.1 bt416.2.2.2.2.2.2).bind fun bt423 => (if bt423.1 = bt393.2.2.2.2.2.2.2.2 then ((conn_Conn_Epoch.f bt423.2.1 bt423.2.2.1 bt423.2.2.2.1 bt423.2.2.2.2.1 bt423.2.2.2.2.2.1 bt423.2.2.2.2.2.2).bind fun bt430 => (signalmanlaw09_ConnDoes.j1 k x18 x19 x20 (bt430.1 != bt393.2.2.2.1) bt430.2.1 bt430.2.2.1 bt430.2.2.2.1 bt430.2.2.2.2.1 bt430.2.2.2.2.2.1 bt430.2.2.2.2.2.2 bt393.2.2.2.1 bt393.2.2.2.2.1 bt393.2.2.2.2.2.1 bt393.2.2.2.2.2.2.1 bt393.2.2.2.2.2.2.2.1 bt393.2.2.2.2.2.2.2.2)) else (signalmanlaw09_ConnDoes.j1 k x18 x19 x20 true bt423.2.1 bt423.2.2.1 bt423.2.2.2.1 bt423.2.2.2.2.1 bt423.2.2.2.2.2.1 bt423.2.2.2.2.2.2 bt393.2.2.2.1 bt393.2.2.2.2.1 bt393.2.2.2.2.2.1 bt393.2.2.2.2.2.2.1 bt393.2.2.2.2.2.2.2.1 bt393.2.2.2.2.2.2.2.2))) else (signalmanlaw09_ConnDoes.j1 k x18 x19 x20 true bt416.2.1 bt416.2.2.1 bt416.2.2.2.1 bt416.2.2.2.2.1 bt416.2.2.2.2.2.1 bt416.2.2.2.2.2.2 bt393.2.2.2.1 bt393.2.2.2.2.1 bt393.2.2.2.2.2.1 bt393.2.2.2.2.2.2.1 bt393.2.2.2.2.2.2.2.1 bt393.2.2.2.2.2.2.2.2))) else (signalmanlaw09_ConnDoes.j1 k x18 x19 x20 true bt409.2.1 bt409.2.2.1 bt409.2.2.2.1 bt409.2.2.2.2.1 bt409.2.2.2.2.2.1 bt409.2.2.2.2.2.2 bt393.2.2.2.1 bt393.2.2.2.2.1 bt393.2.2.2.2.2.1 bt393.2.2.2.2.2.2.1 bt393.2.2.2.2.2.2.2.1 bt393.2.2.2.2.2.2.2.2))) else (signalmanlaw09_ConnDoes.j1 k x18 x19 x20 true bt402.2.1 bt402.2.2.1 bt402.2.2.2.1 bt402.2.2.2.2.1 bt402.2.2.2.2.2.1 bt402.2.2.2.2.2.2 bt393.2.2.2.1 bt393.2.2.2.2.1 bt393.2.2.2.2.2.1 bt393.2.2.2.2.2.2.1 bt393.2.2.2.2.2.2.2.1 bt393.2.2.2.2.2.2.2.2)))))) else (none)) else (none)) else (some true)
def signalmanlaw09_ConnDoes.j1 : Nat → List (S102) → Int → Int → Bool → Int → Int → Int → Int → Bool → Bool → Int → Int → Int → Int → Bool → Int → Option (Bool)
  | 0, _, _, _, _, _, _, _, _, _, _, _, _, _, _, _, _ => none
  | k + 1, x18, x19, x20, x73, a0, a1, a2, a3, a4, a5, b0, b1, b2, b3, b4, b5 => if x73 = true then (some false) else (signalmanlaw09_ConnDoes.l0 k x18 x19 (wrap64 (x20 + 1)) a0 a1 a2 a3 a4 a5 b0 b1 b2 b3 b4 b5)
end
def signalmanlaw09_ConnDoes.f (k : Nat) (a0 : Int) (l1 : List (S102)) : Option (Bool) := (signalmanlaw09_awake.f k).bind fun _ => (if (l1.length : Int) > 200 then (some true) else ((conn_New.f a0).bind fun bt368 => ((signalmanref09_New.f a0).bind fun bt375 => (signalmanlaw09_ConnDoes.l0 k l1 (l1.length : Int) 0 bt368.1 bt368.2.1 bt368.2.2.1 bt368.2.2.2.1 bt368.2.2.2.2.1 bt368.2.2.2.2.2 bt375.1 bt375.2.1 bt375.2.2.1 bt375.2.2.2.1 bt375.2.2.2.2.1 bt375.2.2.2.2.2))))
theorem signalmanlaw09_ConnDoes.mono_l : ∀ k, (∀ y0 y1 y2 y3 y4 y5 y6 y7 y8 y9 y10 y11 y12 y13 y14, LeO (signalmanlaw09_ConnDoes.l0 k y0 y1 y2 y3 y4 y5 y6 y7 y8 y9 y10 y11 y12 y13 y14) (signalmanlaw09_ConnDoes.l0 (k + 1) y0 y1 y2 y3 y4 y5 y6 y7 y8 y9 y10 y11 y12 y13 y14)) ∧ (∀ y0 y1 y2 y3 y4 y5 y6 y7 y8 y9 y10 y11 y12 y13 y14 y15, LeO (signalmanlaw09_ConnDoes.j1 k y0 y1 y2 y3 y4 y5 y6 y7 y8 y9 y10 y11 y12 y13 y14 y15) (signalmanlaw09_ConnDoes.j1 (k + 1) y0 y1 y2 y3 y4 y5 y6 y7 y8 y9 y10 y11 y12 y13 y14 y15))
  | 0 => ⟨fun _ _ _ _ _ _ _ _ _ _ _ _ _ _ _ r h => by simp [signalmanlaw09_ConnDoes.l0] at h, fun _ _ _ _ _ _ _ _ _ _ _ _ _ _ _ _ r h => by simp [signalmanlaw09_ConnDoes.j1] at h⟩
  | k + 1 => by
    obtain ⟨ih0, ih1⟩ := signalmanlaw09_ConnDoes.mono_l k
    refine ⟨?_, ?_⟩
    · intro y0 y1 y2 y3 y4 y5 y6 y7 y8 y9 y10 y11 y12 y13 y14
      unfold signalmanlaw09_ConnDoes.l0
      repeat' first
      | (with_reducible exact ih0 _ _ _ _ _ _ _ _ _ _ _ _ _ _ _)
      | (with_reducible exact ih1 _ _ _ _ _ _ _ _ _ _ _ _ _ _ _ _)
      | (with_reducible exact signalmanlaw09_awake.mono _)
      | (with_reducible exact signalmanlaw09_do.mono _ _ _ _ _ _ _ _ _ _)
      | (with_reducible exact signalmanlaw09_own.mono _ _ _ _ _ _ _ _ _ _)
      | (with_reducible exact LeO.refl _)
      | (with_reducible exact LeO.none _)
      | (with_reducible refine LeO.ite ?_ ?_)
      | (with_reducible refine LeO.bind ?_ (fun _ => ?_))
      | exact ih0 _ _ _ _ _ _ _ _ _ _ _ _ _ _ _
      | exact ih1 _ _ _ _ _ _ _ _ _ _ _ _ _ _ _ _
      | exact signalmanlaw09_awake.mono _
      | exact signalmanlaw09_do.mono _ _ _ _ _ _ _ _ _ _
      | exact signalmanlaw09_own.mono _ _ _ _ _ _ _ _ _ _
      | exact LeO.none _
      | refine LeO.ite ?_ ?_
      | refine LeO.bind ?_ (fun _ => ?_)
    · intro y0 y1 y2 y3 y4 y5 y6 y7 y8 y9 y10 y11 y12 y13 y14 y15
      unfold signalmanlaw09_ConnDoes.j1
      repeat' first
      | (with_reducible exact ih0 _ _ _ _ _ _ _ _ _ _ _ _ _ _ _)
      | (with_reducible exact ih1 _ _ _ _ _ _ _ _ _ _ _ _ _ _ _ _)
      | (with_reducible exact signalmanlaw09_awake.mono _)
      | (with_reducible exact signalmanlaw09_do.mono _ _ _ _ _ _ _ _ _ _)
      | (with_reducible exact signalmanlaw09_own.mono _ _ _ _ _ _ _ _ _ _)
      | (with_reducible exact LeO.refl _)
      | (with_reducible exact LeO.none _)
      | (with_reducible refine LeO.ite ?_ ?_)
      | (with_reducible refine LeO.bind ?_ (fun _ => ?_))
      | exact ih0 _ _ _ _ _ _ _ _ _ _ _ _ _ _ _
      | exact ih1 _ _ _ _ _ _ _ _ _ _ _ _ _ _ _ _
      | exact signalmanlaw09_awake.mono _
      | exact signalmanlaw09_do.mono _ _ _ _ _ _ _ _ _ _
      | exact signalmanlaw09_own.mono _ _ _ _ _ _ _ _ _ _
      | exact LeO.none _
      | refine LeO.ite ?_ ?_
      | refine LeO.bind ?_ (fun _ => ?_)
theorem signalmanlaw09_ConnDoes.mono : ∀ a0 a1 k, LeO (signalmanlaw09_ConnDoes.f k a0 a1) (signalmanlaw09_ConnDoes.f (k + 1) a0 a1) := by
  intro a0 a1 k
  obtain ⟨ih0, ih1⟩ := signalmanlaw09_ConnDoes.mono_l k
  unfold signalmanlaw09_ConnDoes.f
  repeat' first
      | (with_reducible exact ih0 _ _ _ _ _ _ _ _ _ _ _ _ _ _ _)
      | (with_reducible exact ih1 _ _ _ _ _ _ _ _ _ _ _ _ _ _ _ _)
      | (with_reducible exact signalmanlaw09_awake.mono _)
      | (with_reducible exact signalmanlaw09_do.mono _ _ _ _ _ _ _ _ _ _)
      | (with_reducible exact signalmanlaw09_own.mono _ _ _ _ _ _ _ _ _ _)
      | (with_reducible exact LeO.refl _)
      | (with_reducible exact LeO.none _)
      | (with_reducible refine LeO.ite ?_ ?_)
      | (with_reducible refine LeO.bind ?_ (fun _ => ?_))
      | exact ih0 _ _ _ _ _ _ _ _ _ _ _ _ _ _ _
      | exact ih1 _ _ _ _ _ _ _ _ _ _ _ _ _ _ _ _
      | exact signalmanlaw09_awake.mono _
      | exact signalmanlaw09_do.mono _ _ _ _ _ _ _ _ _ _
      | exact signalmanlaw09_own.mono _ _ _ _ _ _ _ _ _ _
      | exact LeO.none _
      | refine LeO.ite ?_ ?_
      | refine LeO.bind ?_ (fun _ => ?_)
def signalmanlaw09_ConnDoes.T11 : Bool × List (List Nat × List Nat) := (true, [([], []), ([0], [0]), ([], []), ([2], [2]), ([3], [3]), ([4], [4]), ([1, 5], [1, 5]), ([6, 1], [6]), ([7], [7]), ([8, 7, 7], [7, 8]), ([7], [7]), ([10, 7], [7, 10]), ([11, 7], [7, 11]), ([12, 7], [7, 12]), ([9, 13, 7], [7, 9, 13]), ([7, 14], [7, 14]), ([15, 9], [15]), ([16], [16]), ([17, 16, 16], [16, 17]), ([16], [16]), ([19, 16], [16, 19]), ([20, 16], [16, 20]), ([21, 16], [16, 21]), ([18, 22, 16], [16, 18, 22]), ([16, 23], [16, 23]), ([24, 18], [24]), ([25], [25]), ([26, 25, 25], [25, 26]), ([25], [25]), ([28, 25], [25, 28]), ([29, 25], [25, 29]), ([30, 25], [25, 30]), ([27, 31, 25], [25, 27, 31]), ([25, 32], [25, 32]), ([33, 27], [33]), ([34], [34]), ([35, 34, 34], [34, 35]), ([34], [34]), ([37, 34], [34, 37]), ([38, 34], [34, 38]), ([39, 34], [34, 39]), ([36, 40, 34], [34, 36, 40]), ([34, 41], [34, 41])])
def signalmanlaw09_ConnDoes.B11 : List Nat := [0, 1, 0, 4, 12, 28, 63, 127, 255, 511, 255, 1279, 3327, 7423, 16383, 32767, 65535, 131071, 262143, 131071, 655359, 1703935, 3801087, 8388607, 16777215, 33554431, 67108863, 134217727, 67108863, 335544319, 872415231, 1946157055, 4294967295, 8589934591, 17179869183, 34359738367, 68719476735, 34359738367, 171798691839, 446676598783, 996432412671, 2199023255551, 4398046511103]
abbrev m0 : Array Bool := #[false, false, false, false, false, false, false, false, false, false, false, false, false, false, false, false, false, false, false, false, false, false, false, false, false, false, false, false, false, false, false, false, false, false, false, false, false, false, false, false, false, false, false]
abbrev m1 : Array Bool := #[true, false, false, false, false, false, false, false, false, false, false, false, false, false, false, false, false, false, false, false, false, false, false, false, false, false, false, false, false, false, false, false, false, false, false, false, false, false, false, false, false, false, false]
abbrev m2 : Array Bool := #[true, false, true, false, false, false, false, false, false, false, false, false, false, false, false, false, false, false, false, false, false, false, false, false, false, false, false, false, false, false, false, false, false, false, false, false, false, false, false, false, false, false, false]
abbrev m3 : Array Bool := #[true, false, true, true, false, false, false, false, false, false, false, false, false, false, false, false, false, false, false, false, false, false, false, false, false, false, false, false, false, false, false, false, false, false, false, false, false, false, false, false, false, false, false]
abbrev m4 : Array Bool := #[true, false, true, true, true, false, false, false, false, false, false, false, false, false, false, false, false, false, false, false, false, false, false, false, false, false, false, false, false, false, false, false, false, false, false, false, false, false, false, false, false, false, false]
abbrev m5 : Array Bool := #[true, false, true, true, true, true, false, false, false, false, false, false, false, false, false, false, false, false, false, false, false, false, false, false, false, false, false, false, false, false, false, false, false, false, false, false, false, false, false, false, false, false, false]
abbrev m6 : Array Bool := #[true, true, true, true, true, true, false, false, false, false, false, false, false, false, false, false, false, false, false, false, false, false, false, false, false, false, false, false, false, false, false, false, false, false, false, false, false, false, false, false, false, false, false]
abbrev m7 : Array Bool := #[true, true, true, true, true, true, true, false, false, false, false, false, false, false, false, false, false, false, false, false, false, false, false, false, false, false, false, false, false, false, false, false, false, false, false, false, false, false, false, false, false, false, false]
abbrev m8 : Array Bool := #[true, true, true, true, true, true, true, true, false, false, false, false, false, false, false, false, false, false, false, false, false, false, false, false, false, false, false, false, false, false, false, false, false, false, false, false, false, false, false, false, false, false, false]
abbrev m9 : Array Bool := #[true, true, true, true, true, true, true, true, true, false, false, false, false, false, false, false, false, false, false, false, false, false, false, false, false, false, false, false, false, false, false, false, false, false, false, false, false, false, false, false, false, false, false]
abbrev m10 : Array Bool := #[true, true, true, true, true, true, true, true, true, false, true, false, false, false, false, false, false, false, false, false, false, false, false, false, false, false, false, false, false, false, false, false, false, false, false, false, false, false, false, false, false, false, false]
abbrev m11 : Array Bool := #[true, true, true, true, true, true, true, true, true, false, true, true, false, false, false, false, false, false, false, false, false, false, false, false, false, false, false, false, false, false, false, false, false, false, false, false, false, false, false, false, false, false, false]
abbrev m12 : Array Bool := #[true, true, true, true, true, true, true, true, true, false, true, true, true, false, false, false, false, false, false, false, false, false, false, false, false, false, false, false, false, false, false, false, false, false, false, false, false, false, false, false, false, false, false]
abbrev m13 : Array Bool := #[true, true, true, true, true, true, true, true, true, false, true, true, true, true, false, false, false, false, false, false, false, false, false, false, false, false, false, false, false, false, false, false, false, false, false, false, false, false, false, false, false, false, false]
abbrev m14 : Array Bool := #[true, true, true, true, true, true, true, true, true, true, true, true, true, true, false, false, false, false, false, false, false, false, false, false, false, false, false, false, false, false, false, false, false, false, false, false, false, false, false, false, false, false, false]
abbrev m15 : Array Bool := #[true, true, true, true, true, true, true, true, true, true, true, true, true, true, true, false, false, false, false, false, false, false, false, false, false, false, false, false, false, false, false, false, false, false, false, false, false, false, false, false, false, false, false]
abbrev m16 : Array Bool := #[true, true, true, true, true, true, true, true, true, true, true, true, true, true, true, true, false, false, false, false, false, false, false, false, false, false, false, false, false, false, false, false, false, false, false, false, false, false, false, false, false, false, false]
abbrev m17 : Array Bool := #[true, true, true, true, true, true, true, true, true, true, true, true, true, true, true, true, true, false, false, false, false, false, false, false, false, false, false, false, false, false, false, false, false, false, false, false, false, false, false, false, false, false, false]
abbrev m18 : Array Bool := #[true, true, true, true, true, true, true, true, true, true, true, true, true, true, true, true, true, true, false, false, false, false, false, false, false, false, false, false, false, false, false, false, false, false, false, false, false, false, false, false, false, false, false]
abbrev m19 : Array Bool := #[true, true, true, true, true, true, true, true, true, true, true, true, true, true, true, true, true, true, false, true, false, false, false, false, false, false, false, false, false, false, false, false, false, false, false, false, false, false, false, false, false, false, false]
abbrev m20 : Array Bool := #[true, true, true, true, true, true, true, true, true, true, true, true, true, true, true, true, true, true, false, true, true, false, false, false, false, false, false, false, false, false, false, false, false, false, false, false, false, false, false, false, false, false, false]
abbrev m21 : Array Bool := #[true, true, true, true, true, true, true, true, true, true, true, true, true, true, true, true, true, true, false, true, true, true, false, false, false, false, false, false, false, false, false, false, false, false, false, false, false, false, false, false, false, false, false]
abbrev m22 : Array Bool := #[true, true, true, true, true, true, true, true, true, true, true, true, true, true, true, true, true, true, false, true, true, true, true, false, false, false, false, false, false, false, false, false, false, false, false, false, false, false, false, false, false, false, false]
abbrev m23 : Array Bool := #[true, true, true, true, true, true, true, true, true, true, true, true, true, true, true, true, true, true, true, true, true, true, true, false, false, false, false, false, false, false, false, false, false, false, false, false, false, false, false, false, false, false, false]
abbrev m24 : Array Bool := #[true, true, true, true, true, true, true, true, true, true, true, true, true, true, true, true, true, true, true, true, true, true, true, true, false, false, false, false, false, false, false, false, false, false, false, false, false, false, false, false, false, false, false]
abbrev m25 : Array Bool := #[true, true, true, true, true, true, true, true, true, true, true, true, true, true, true, true, true, true, true, true, true, true, true, true, true, false, false, false, false, false, false, false, false, false, false, false, false, false, false, false, false, false, false]
abbrev m26 : Array Bool := #[true, true, true, true, true, true, true, true, true, true, true, true, true, true, true, true, true, true, true, true, true, true, true, true, true, true, false, false, false, false, false, false, false, false, false, false, false, false, false, false, false, false, false]
abbrev m27 : Array Bool := #[true, true, true, true, true, true, true, true, true, true, true, true, true, true, true, true, true, true, true, true, true, true, true, true, true, true, true, false, false, false, false, false, false, false, false, false, false, false, false, false, false, false, false]
abbrev m28 : Array Bool := #[true, true, true, true, true, true, true, true, true, true, true, true, true, true, true, true, true, true, true, true, true, true, true, true, true, true, true, false, true, false, false, false, false, false, false, false, false, false, false, false, false, false, false]
abbrev m29 : Array Bool := #[true, true, true, true, true, true, true, true, true, true, true, true, true, true, true, true, true, true, true, true, true, true, true, true, true, true, true, false, true, true, false, false, false, false, false, false, false, false, false, false, false, false, false]
abbrev m30 : Array Bool := #[true, true, true, true, true, true, true, true, true, true, true, true, true, true, true, true, true, true, true, true, true, true, true, true, true, true, true, false, true, true, true, false, false, false, false, false, false, false, false, false, false, false, false]
abbrev m31 : Array Bool := #[true, true, true, true, true, true, true, true, true, true, true, true, true, true, true, true, true, true, true, true, true, true, true, true, true, true, true, false, true, true, true, true, false, false, false, false, false, false, false, false, false, false, false]
abbrev m32 : Array Bool := #[true, true, true, true, true, true, true, true, true, true, true, true, true, true, true, true, true, true, true, true, true, true, true, true, true, true, true, true, true, true, true, true, false, false, false, false, false, false, false, false, false, false, false]
abbrev m33 : Array Bool := #[true, true, true, true, true, true, true, true, true, true, true, true, true, true, true, true, true, true, true, true, true, true, true, true, true, true, true, true, true, true, true, true, true, false, false, false, false, false, false, false, false, false, false]
abbrev m34 : Array Bool := #[true, true, true, true, true, true, true, true, true, true, true, true, true, true, true, true, true, true, true, true, true, true, true, true, true, true, true, true, true, true, true, true, true, true, false, false, false, false, false, false, false, false, false]
abbrev m35 : Array Bool := #[true, true, true, true, true, true, true, true, true, true, true, true, true, true, true, true, true, true, true, true, true, true, true, true, true, true, true, true, true, true, true, true, true, true, true, false, false, false, false, false, false, false, false]
abbrev m36 : Array Bool := #[true, true, true, true, true, true, true, true, true, true, true, true, true, true, true, true, true, true, true, true, true, true, true, true, true, true, true, true, true, true, true, true, true, true, true, true, false, false, false, false, false, false, false]
abbrev m37 : Array Bool := #[true, true, true, true, true, true, true, true, true, true, true, true, true, true, true, true, true, true, true, true, true, true, true, true, true, true, true, true, true, true, true, true, true, true, true, true, false, true, false, false, false, false, false]
abbrev m38 : Array Bool := #[true, true, true, true, true, true, true, true, true, true, true, true, true, true, true, true, true, true, true, true, true, true, true, true, true, true, true, true, true, true, true, true, true, true, true, true, false, true, true, false, false, false, false]
abbrev m39 : Array Bool := #[true, true, true, true, true, true, true, true, true, true, true, true, true, true, true, true, true, true, true, true, true, true, true, true, true, true, true, true, true, true, true, true, true, true, true, true, false, true, true, true, false, false, false]
abbrev m40 : Array Bool := #[true, true, true, true, true, true, true, true, true, true, true, true, true, true, true, true, true, true, true, true, true, true, true, true, true, true, true, true, true, true, true, true, true, true, true, true, false, true, true, true, true, false, false]
abbrev m41 : Array Bool := #[true, true, true, true, true, true, true, true, true, true, true, true, true, true, true, true, true, true, true, true, true, true, true, true, true, true, true, true, true, true, true, true, true, true, true, true, true, true, true, true, true, false, false]
abbrev m42 : Array Bool := #[true, true, true, true, true, true, true, true, true, true, true, true, true, true, true, true, true, true, true, true, true, true, true, true, true, true, true, true, true, true, true, true, true, true, true, true, true, true, true, true, true, true, false]
abbrev m43 : Array Bool := #[true, true, true, true, true, true, true, true, true, true, true, true, true, true, true, true, true, true, true, true, true, true, true, true, true, true, true, true, true, true, true, true, true, true, true, true, true, true, true, true, true, true, true]
abbrev m44 : Array Bool := #[true, true, true, true, true, true, true, true, true, true, true, true, true, true, true, true, true, true, true, true, true, true, true, true, true, true, true, true, true, true, true, true, true, true, true, true, true, false, false, false, false, false, false]
abbrev m45 : Array Bool := #[true, true, true, true, true, true, true, true, true, true, true, true, true, true, true, true, true, true, true, true, true, true, true, true, true, true, true, true, true, true, true, true, true, true, true, true, true, true, false, false, false, false, false]
abbrev m46 : Array Bool := #[true, true, true, true, true, true, true, true, true, true, true, true, true, true, true, true, true, true, true, true, true, true, true, true, true, true, true, true, true, true, true, true, true, true, true, true, true, true, true, false, false, false, false]
abbrev m47 : Array Bool := #[true, true, true, true, true, true, true, true, true, true, true, true, true, true, true, true, true, true, true, true, true, true, true, true, true, true, true, true, true, true, true, true, true, true, true, true, true, true, true, true, false, false, false]
abbrev m48 : Array Bool := #[true, true, true, true, true, true, true, true, true, true, true, true, true, true, true, true, true, true, true, true, true, true, true, true, true, true, true, true, false, false, false, false, false, false, false, false, false, false, false, false, false, false, false]
abbrev m49 : Array Bool := #[true, true, true, true, true, true, true, true, true, true, true, true, true, true, true, true, true, true, true, true, true, true, true, true, true, true, true, true, true, false, false, false, false, false, false, false, false, false, false, false, false, false, false]
abbrev m50 : Array Bool := #[true, true, true, true, true, true, true, true, true, true, true, true, true, true, true, true, true, true, true, true, true, true, true, true, true, true, true, true, true, true, false, false, false, false, false, false, false, false, false, false, false, false, false]
abbrev m51 : Array Bool := #[true, true, true, true, true, true, true, true, true, true, true, true, true, true, true, true, true, true, true, true, true, true, true, true, true, true, true, true, true, true, true, false, false, false, false, false, false, false, false, false, false, false, false]
abbrev m52 : Array Bool := #[true, true, true, true, true, true, true, true, true, true, true, true, true, true, true, true, true, true, true, false, false, false, false, false, false, false, false, false, false, false, false, false, false, false, false, false, false, false, false, false, false, false, false]
abbrev m53 : Array Bool := #[true, true, true, true, true, true, true, true, true, true, true, true, true, true, true, true, true, true, true, true, false, false, false, false, false, false, false, false, false, false, false, false, false, false, false, false, false, false, false, false, false, false, false]
abbrev m54 : Array Bool := #[true, true, true, true, true, true, true, true, true, true, true, true, true, true, true, true, true, true, true, true, true, false, false, false, false, false, false, false, false, false, false, false, false, false, false, false, false, false, false, false, false, false, false]
abbrev m55 : Array Bool := #[true, true, true, true, true, true, true, true, true, true, true, true, true, true, true, true, true, true, true, true, true, true, false, false, false, false, false, false, false, false, false, false, false, false, false, false, false, false, false, false, false, false, false]
abbrev m56 : Array Bool := #[true, true, true, true, true, true, true, true, true, true, false, false, false, false, false, false, false, false, false, false, false, false, false, false, false, false, false, false, false, false, false, false, false, false, false, false, false, false, false, false, false, false, false]
abbrev m57 : Array Bool := #[true, true, true, true, true, true, true, true, true, true, true, false, false, false, false, false, false, false, false, false, false, false, false, false, false, false, false, false, false, false, false, false, false, false, false, false, false, false, false, false, false, false, false]
abbrev m58 : Array Bool := #[true, true, true, true, true, true, true, true, true, true, true, true, false, false, false, false, false, false, false, false, false, false, false, false, false, false, false, false, false, false, false, false, false, false, false, false, false, false, false, false, false, false, false]
abbrev m59 : Array Bool := #[true, true, true, true, true, true, true, true, true, true, true, true, true, false, false, false, false, false, false, false, false, false, false, false, false, false, false, false, false, false, false, false, false, false, false, false, false, false, false, false, false, false, false]
theorem signalmanlaw09_ConnDoes.tab11 : rtab .any (opsOf Try.f12 11) = signalmanlaw09_ConnDoes.T11 := by kernel_rfl
theorem signalmanlaw09_ConnDoes.bits11 : waitsOk signalmanlaw09_ConnDoes.T11.2 signalmanlaw09_ConnDoes.B11 = true := by kernel_rfl
set_option maxHeartbeats 8000000 in
set_option maxRecDepth 100000 in
theorem signalmanlaw09_ConnDoes.calls (k : Nat) (a0 : Int) (A1 : Option Addr) (c1 : Nat) (l1 : List (S102)) (r : Bool) (w : World) (hr1 : Kd.C k102 w A1 l1.length l1) (hc1 : l1.length ≤ c1) (h : signalmanlaw09_ConnDoes.f k a0 l1 = some r) :
    Calls Try.prog 12 #[.int .u64 a0, .slice A1 l1.length c1] w fun e w' => e = .returned (.bool r) ∧ Below w.heap.size w w' := by
  have hu102 := Try.underlying102
  have HR1 := Aside0.mk hr1
  have HC1 := Aside0.mk hc1
  clear hr1 hc1
  have HB := Aside0.mk (Below.refl w.heap.size w)
  have H : ((signalmanlaw09_awake.f k).bind fun _ => (if (l1.length : Int) > 200 then (some true) else ((conn_New.f a0).bind fun bt368 => ((signalmanref09_New.f a0).bind fun bt375 => (signalmanlaw09_ConnDoes.l0 k l1 (l1.length : Int) 0 bt368.1 bt368.2.1 bt368.2.2.1 bt368.2.2.2.1 bt368.2.2.2.2.1 bt368.2.2.2.2.2 bt375.1 bt375.2.1 bt375.2.2.1 bt375.2.2.2.1 bt375.2.2.2.2.1 bt375.2.2.2.2.2))))) = some r := h
  clear h
  replace H := Option.bind_eq_some_iff.mp H
  obtain ⟨z_, A30, H⟩ := H
  replace H : (if (l1.length : Int) > 200 then (some true) else ((conn_New.f a0).bind fun bt368 => ((signalmanref09_New.f a0).bind fun bt375 => (signalmanlaw09_ConnDoes.l0 k l1 (l1.length : Int) 0 bt368.1 bt368.2.1 bt368.2.2.1 bt368.2.2.2.1 bt368.2.2.2.2.1 bt368.2.2.2.2.2 bt375.1 bt375.2.1 bt375.2.2.1 bt375.2.2.2.1 bt375.2.2.2.2.1 bt375.2.2.2.2.2)))) = some r := H
  have A3 := Aside0.mk (show signalmanlaw09_awake.f k  = some true from fold_ (g := fun k_ => signalmanlaw09_awake.f k_ ) (fun k_ => signalmanlaw09_awake.mono  k_) (k' := 40) (by kernel_rfl) A30)
  clear A30
  by_cases c4 : (l1.length : Int) > 200
  ·rw [if_pos c4] at H
   have c4b0 : decide (200 < (l1.length : Int)) = true := decide_eq_true c4
   have c4b1 : decide (200 < l1.length) = true := decide_eq_true (by omega)
   clear c4
   obtain rfl := Option.some.inj H
   go_enter Try.func12, Try.ntmps12
   go_wp2_with (first | ((with_reducible refine gate_callee (f := 50) rfl ?_); refine goesL_ (some 9) rfl rfl Try.func50 (by kernel_rfl) rfl #[] rfl (by (try simp only [List.map_toArray, List.map_cons, List.map_nil]); first | done | rfl | (simp only [List.length_drop, List.length_take]; rfl)) ?_; (with_reducible refine (signalmanlaw09_awake.calls k  true _ A3.out).mono ?_); rintro e w5 ⟨rfl, hb⟩; refine ⟨_, rfl, ?_⟩; have n0_ := Aside0.mk (below_step (by repeat (first | (with_reducible first | exact HB.out | apply below_alloc | apply pw_below_drewN | apply below_drew1) | exact HB.out)) hb); clear HB; have HB := n0_; clear n0_; (try clear hb); (try clear hb2); (try clear hk); (try clear hi)))
   go_ret
   exact ⟨by first | rfl | (simp [errW_none, errW_some] <;> rfl) | (simp [*, errW_none, errW_some] <;> rfl), by repeat (first | (with_reducible first | exact HB.out | apply below_alloc | apply pw_below_drewN | apply below_drew1) | exact HB.out)⟩
  ·rw [if_neg c4] at H
   have c4b0 : decide (200 < (l1.length : Int)) = false := decide_eq_false c4
   have c4b1 : decide (200 < l1.length) = false := decide_eq_false (by omega)
   clear c4
   replace H := Option.bind_eq_some_iff.mp H
   obtain ⟨⟨t368, t369, t370, t371, t372, t373⟩, A60, H⟩ := H
   replace H : ((signalmanref09_New.f a0).bind fun bt375 => (signalmanlaw09_ConnDoes.l0 k l1 (l1.length : Int) 0 t368 t369 t370 t371 t372 t373 bt375.1 bt375.2.1 bt375.2.2.1 bt375.2.2.2.1 bt375.2.2.2.2.1 bt375.2.2.2.2.2)) = some r := H
   have A6 := Aside0.mk A60
   clear A60
   replace H := Option.bind_eq_some_iff.mp H
   obtain ⟨⟨t375, t376, t377, t378, t379, t380⟩, A70, H⟩ := H
   replace H : (signalmanlaw09_ConnDoes.l0 k l1 (l1.length : Int) 0 t368 t369 t370 t371 t372 t373 t375 t376 t377 t378 t379 t380) = some r := H
   have A7 := Aside0.mk A70
   clear A70
   have H' := Aside0.mk H
   clear H
   go_enter Try.func12, Try.ntmps12
   go_wp2_with (first | ((with_reducible refine gate_callee (f := 50) rfl ?_); refine goesL_ (some 9) rfl rfl Try.func50 (by kernel_rfl) rfl #[] rfl (by (try simp only [List.map_toArray, List.map_cons, List.map_nil]); first | done | rfl | (simp only [List.length_drop, List.length_take]; rfl)) ?_; (with_reducible refine (signalmanlaw09_awake.calls k  true _ A3.out).mono ?_); rintro e w8 ⟨rfl, hb⟩; refine ⟨_, rfl, ?_⟩; have n0_ := Aside0.mk (below_step (by repeat (first | (with_reducible first | exact HB.out | apply below_alloc | apply pw_below_drewN | apply below_drew1) | exact HB.out)) hb); clear HB; have HB := n0_; clear n0_; (try clear hb); (try clear hb2); (try clear hk); (try clear hi)) | ((with_reducible refine gate_callee (f := 51) rfl ?_); refine goesL_ (some 15) rfl rfl Try.func51 (by kernel_rfl) rfl #[.int .u64 a0] rfl (by (try simp only [List.map_toArray, List.map_cons, List.map_nil]); first | done | rfl | (simp only [List.length_drop, List.length_take]; rfl)) ?_; (with_reducible refine (conn_New.calls a0 t368 t369 t370 t371 t372 t373 w _ ?side1 A6.out).mono ?_); (case side1 => repeat (first | (with_reducible first | exact HB.out | apply below_alloc | apply pw_below_drewN | apply below_drew1) | exact HB.out)); rintro e w9 ⟨g374, rfl, hi, hb, hb2⟩; refine ⟨_, rfl, ?_⟩; have n0_ := Aside0.mk (hb); have n1_ := Aside0.mk (hi); clear HB; have HB := n0_; have HI374 := n1_; clear n0_ n1_; (try clear hb); (try clear hb2); (try clear hk); (try clear hi)) | ((with_reducible refine gate_callee (f := 52) rfl ?_); refine goesL_ (some 17) rfl rfl Try.func52 (by kernel_rfl) rfl #[.int .u64 a0] rfl (by (try simp only [List.map_toArray, List.map_cons, List.map_nil]); first | done | rfl | (simp only [List.length_drop, List.length_take]; rfl)) ?_; (with_reducible refine (signalmanref09_New.calls a0 t375 t376 t377 t378 t379 t380 w _ ?side1 A7.out).mono ?_); (case side1 => repeat (first | (with_reducible first | exact HB.out | apply below_alloc | apply pw_below_drewN | apply below_drew1 | refine below_set ?_ (IsS137.ge HI374.out)) | exact HB.out)); rintro e w10 ⟨g381, rfl, hi, hb, hb2⟩; refine ⟨_, rfl, ?_⟩; have n0_ := Aside0.mk (IsS137.below (by repeat (first | (with_reducible first | exact HI374.out | apply ta | apply tn | apply td | apply t0 | apply t1 | apply t2 | apply t3 | apply t4 | apply t5) | exact HI374.out)) hb2); have n1_ := Aside0.mk (hb); have n2_ := Aside0.mk (hi); clear HI374; clear HB; have HI374 := n0_; have HB := n1_; have HI381 := n2_; clear n0_ n1_ n2_; (try clear hb); (try clear hb2); (try clear hk); (try clear hi)))
   go_loopg [20] k (fun kq v20 w' => ∃ (x20_1 : Int) (a0_1 : Int) (a1_1 : Int) (a2_1 : Int) (a3_1 : Int) (a4_1 : Bool) (a5_1 : Bool) (b0_1 : Int) (b1_1 : Int) (b2_1 : Int) (b3_1 : Int) (b4_1 : Bool) (b5_1 : Int), v20 = .int .i64 x20_1 ∧ Aside0 (signalmanlaw09_ConnDoes.l0 kq l1 (l1.length : Int) x20_1 a0_1 a1_1 a2_1 a3_1 a4_1 a5_1 b0_1 b1_1 b2_1 b3_1 b4_1 b5_1 = some r) ∧ Aside0 (kq ≤ k) ∧ Aside0 (IsS137 w w' g374 a0_1 a1_1 a2_1 a3_1 a4_1 a5_1) ∧ Aside0 (IsS109 w w' g381 b0_1 b1_1 b2_1 b3_1 b4_1 b5_1) ∧ Aside0 (Below w.heap.size w w'))
   case atStart => exact ⟨(0), (t368), (t369), (t370), (t371), (t372), (t373), (t375), (t376), (t377), (t378), (t379), (t380), (by first | rfl | (simp; done) | (simp [*]; done)), H', ⟨Nat.le_refl _⟩, ⟨by repeat (first | (with_reducible first | exact HI374.out | apply ta | apply tn | apply td | apply t0 | apply t1 | apply t2 | apply t3 | apply t4 | apply t5) | exact HI374.out)⟩, ⟨by repeat (first | (with_reducible first | exact HI381.out | apply sa | apply sn | apply sd | apply s0 | apply s1 | apply s2 | apply s3 | apply s4 | apply s5) | exact HI381.out)⟩, ⟨by repeat (first | (with_reducible first | exact HB.out | apply below_alloc | apply pw_below_drewN | apply below_drew1 | refine below_set ?_ (IsS137.ge HI374.out) | refine below_set ?_ (IsS109.ge HI381.out)) | exact HB.out)⟩⟩
   case round =>
    clear H'
    try clear c1
    try clear p2
    try clear c4
    try clear c4b0
    try clear c4b1
    try clear c5
    obtain ⟨x20_1, a0_1, a1_1, a2_1, a3_1, a4_1, a5_1, b0_1, b1_1, b2_1, b3_1, b4_1, b5_1, rfl, HA, HK1, HI374, HI381, HB⟩ := hrel
    cases gk with
    | zero => exact absurd HA.out (by simp [signalmanlaw09_ConnDoes.l0])
    | succ k1 =>
     have H := HA.out
     clear HA
     simp only [signalmanlaw09_ConnDoes.l0] at H
     by_cases c11 : x20_1 < (l1.length : Int)
     ·rw [if_pos c11] at H
      have c11b0 : decide (x20_1 < (l1.length : Int)) = true := decide_eq_true c11
      clear c11
      by_cases c12 : 0 ≤ x20_1
      ·rw [if_pos c12] at H
       have c12b0 : decide (0 ≤ x20_1) = true := decide_eq_true c12
       clear c12
       by_cases c13 : x20_1 < (l1.length : Int)
       ·rw [if_pos c13] at H
        have c13b0 : decide (x20_1 < (l1.length : Int)) = true := decide_eq_true c13
        clear c13
        replace H := Option.bind_eq_some_iff.mp H
        obtain ⟨⟨t384, t385, t386, t387, t388, t389, t390, t391, t392⟩, A140, H⟩ := H
        replace H : ((signalmanlaw09_own.f k1 b0_1 b1_1 b2_1 b3_1 b4_1 b5_1 ((rd_T102 l1 x20_1).f0) ((rd_T102 l1 x20_1).f1) ((rd_T102 l1 x20_1).f2)).bind fun bt393 => (if (!(t384 == bt393.1) || (!(t385 == bt393.2.1) || (!(t386 == bt393.2.2.1)))) = true then (some false) else ((conn_Conn_State.f t387 t388 t389 t390 t391 t392).bind fun bt402 => (if bt402.1 = bt393.2.2.2.2.1 then ((conn_Conn_Owner.f bt402.2.1 bt402.2.2.1 bt402.2.2.2.1 bt402.2.2.2.2.1 bt402.2.2.2.2.2.1 bt402.2.2.2.2.2.2).bind fun bt409 => (if bt409.1 = bt393.2.2.2.2.2.1 then ((conn_Conn_Flight.f bt409.2.1 bt409.2.2.1 bt409.2.2.2.1 bt409.2.2.2.2.1 bt409.2.2.2.2.2.1 bt409.2.2.2.2.2.2).bind fun bt416 => (if bt416.1 = bt393.2.2.2.2.2.2.1 then ((conn_Conn_Sent.f bt416.2.1 bt416.2.2.1 bt416.2.2.2.1 bt416.2.2.2.2.1 bt416.2.2.2.2.2.1 bt416.2.2.2.2.2.2).bind fun bt423 => (if bt423.1 = bt393.2.2.2.2.2.2.2.2 then ((conn_Conn_Epoch.f bt423.2.1 bt423.2.2.1 bt423.2.2.2.1 bt423.2.2.2.2.1 bt423.2.2.2.2.2.1 bt423.2.2.2.2.2.2).bind fun bt430 => (signalmanlaw09_ConnDoes.j1 k1 l1 (l1.length : Int) x20_1 (bt430.1 != bt393.2.2.2.1) bt430.2.1 bt430.2.2.1 bt430.2.2.2.1 bt430.2.2.2.2.1 bt430.2.2.2.2.2.1 bt430.2.2.2.2.2.2 bt393.2.2.2.1 bt393.2.2.2.2.1 bt393.2.2.2.2.2.1 bt393.2.2.2.2.2.2.1 bt393.2.2.2.2.2.2.2.1 bt393.2.2.2.2.2.2.2.2)) else (signalmanlaw09_ConnDoes.j1 k1 l1 (l1.length : Int) x20_1 true bt423.2.1 bt423.2.2.1 bt423.2.2.2.1 bt423.2.2.2.2.1 bt423.2.2.2.2.2.1 bt423.2.2.2.2.2.2 bt393.2.2.2.1 bt393.2.2.2.2.1 bt393.2.2.2.2.2.1 bt393.2.2.2.2.2.2.1 bt393.2.2.2.2.2.2.2.1 bt393.2.2.2.2.2.2.2.2))) else (signalmanlaw09_ConnDoes.j1 k1 l1 (l1.length : Int) x20_1 true bt416.2.1 bt416.2.2.1 bt416.2.2.2.1 bt416.2.2.2.2.1 bt416.2.2.2.2.2.1 bt416.2.2.2.2.2.2 bt393.2.2.2.1 bt393.2.2.2.2.1 bt393.2.2.2.2.2.1 bt393.2.2.2.2.2.2.1 bt393.2.2.2.2.2.2.2.1 bt393.2.2.2.2.2.2.2.2))) else (signalmanlaw09_ConnDoes.j1 k1 l1 (l1.length : Int) x20_1 true bt409.2.1 bt409.2.2.1 bt409.2.2.2.1 bt409.2.2.2.2.1 bt409.2.2.2.2.2.1 bt409.2.2.2.2.2.2 bt393.2.2.2.1 bt393.2.2.2.2.1 bt393.2.2.2.2.2.1 bt393.2.2.2.2.2.2.1 bt393.2.2.2.2.2.2.2.1 bt393.2.2.2.2.2.2.2.2))) else (signalmanlaw09_ConnDoes.j1 k1 l1 (l1.length : Int) x20_1 true bt402.2.1 bt402.2.2.1 bt402.2.2.2.1 bt402.2.2.2.2.1 bt402.2.2.2.2.2.1 bt402.2.2.2.2.2.2 bt393.2.2.2.1 bt393.2.2.2.2.1 bt393.2.2.2.2.2.1 bt393.2.2.2.2.2.2.1 bt393.2.2.2.2.2.2.2.1 bt393.2.2.2.2.2.2.2.2))))) = some r := H
        have A14 := Aside0.mk A140
        clear A140
        replace H := Option.bind_eq_some_iff.mp H
        obtain ⟨⟨t393, t394, t395, t396, t397, t398, t399, t400, t401⟩, A150, H⟩ := H
        replace H : (if (!(t384 == t393) || (!(t385 == t394) || (!(t386 == t395)))) = true then (some false) else ((conn_Conn_State.f t387 t388 t389 t390 t391 t392).bind fun bt402 => (if bt402.1 = t397 then ((conn_Conn_Owner.f bt402.2.1 bt402.2.2.1 bt402.2.2.2.1 bt402.2.2.2.2.1 bt402.2.2.2.2.2.1 bt402.2.2.2.2.2.2).bind fun bt409 => (if bt409.1 = t398 then ((conn_Conn_Flight.f bt409.2.1 bt409.2.2.1 bt409.2.2.2.1 bt409.2.2.2.2.1 bt409.2.2.2.2.2.1 bt409.2.2.2.2.2.2).bind fun bt416 => (if bt416.1 = t399 then ((conn_Conn_Sent.f bt416.2.1 bt416.2.2.1 bt416.2.2.2.1 bt416.2.2.2.2.1 bt416.2.2.2.2.2.1 bt416.2.2.2.2.2.2).bind fun bt423 => (if bt423.1 = t401 then ((conn_Conn_Epoch.f bt423.2.1 bt423.2.2.1 bt423.2.2.2.1 bt423.2.2.2.2.1 bt423.2.2.2.2.2.1 bt423.2.2.2.2.2.2).bind fun bt430 => (signalmanlaw09_ConnDoes.j1 k1 l1 (l1.length : Int) x20_1 (bt430.1 != t396) bt430.2.1 bt430.2.2.1 bt430.2.2.2.1 bt430.2.2.2.2.1 bt430.2.2.2.2.2.1 bt430.2.2.2.2.2.2 t396 t397 t398 t399 t400 t401)) else (signalmanlaw09_ConnDoes.j1 k1 l1 (l1.length : Int) x20_1 true bt423.2.1 bt423.2.2.1 bt423.2.2.2.1 bt423.2.2.2.2.1 bt423.2.2.2.2.2.1 bt423.2.2.2.2.2.2 t396 t397 t398 t399 t400 t401))) else (signalmanlaw09_ConnDoes.j1 k1 l1 (l1.length : Int) x20_1 true bt416.2.1 bt416.2.2.1 bt416.2.2.2.1 bt416.2.2.2.2.1 bt416.2.2.2.2.2.1 bt416.2.2.2.2.2.2 t396 t397 t398 t399 t400 t401))) else (signalmanlaw09_ConnDoes.j1 k1 l1 (l1.length : Int) x20_1 true bt409.2.1 bt409.2.2.1 bt409.2.2.2.1 bt409.2.2.2.2.1 bt409.2.2.2.2.2.1 bt409.2.2.2.2.2.2 t396 t397 t398 t399 t400 t401))) else (signalmanlaw09_ConnDoes.j1 k1 l1 (l1.length : Int) x20_1 true bt402.2.1 bt402.2.2.1 bt402.2.2.2.1 bt402.2.2.2.2.1 bt402.2.2.2.2.2.1 bt402.2.2.2.2.2.2 t396 t397 t398 t399 t400 t401)))) = some r := H
        have A15 := Aside0.mk A150
        clear A150
        by_cases c16 : (!(t384 == t393) || (!(t385 == t394) || (!(t386 == t395)))) = true
        ·rw [if_pos c16] at H
         have c16b0 : (!(t384 == t393) || (!(t385 == t394) || (!(t386 == t395)))) = true := c16
         clear c16
         obtain rfl := Option.some.inj H
         have p382 : 0 ≤ (x20_1 : Int) := of_decide_eq_true (by first | (with_reducible assumption) | assumption)
         have q382 : x20_1 < (l1.length : Int) := of_decide_eq_true (by first | (with_reducible assumption) | assumption)
         obtain ⟨ad382, e382, hx382_0, hx382_1, hx382_2⟩ := at_T102 HR1.out x20_1 p382 q382
         cases e382
         replace hx382_0 := (HB.out.cell (World.block_lt_of_cell? w _ hx382_0)).trans hx382_0
         replace hx382_1 := (HB.out.cell (World.block_lt_of_cell? w _ hx382_1)).trans hx382_1
         replace hx382_2 := (HB.out.cell (World.block_lt_of_cell? w _ hx382_2)).trans hx382_2
         replace p382 := eq_true p382
         replace q382 := eq_true q382
         try go_wp2_with (first | ((with_reducible refine gate_dst (N := 8) rfl ?_); refine box_event ?hg (N := 8) ?hd (cs := #[.int .i64 0, .int .i64 0, .int .u64 0]) (t := 102) ?hr ?_; (case hd => rfl); (case hg => rfl); (case hr => first | (go_simp; done) | (go_simp; rfl)); intro gb383 hg w17 hbox hb; have n0_ := Aside0.mk (IsS137.below (by repeat (first | (with_reducible first | exact HI374.out | apply ta | apply tn | apply td | apply t0 | apply t1 | apply t2 | apply t3 | apply t4 | apply t5) | exact HI374.out)) hb); have n1_ := Aside0.mk (IsS109.below (by repeat (first | (with_reducible first | exact HI381.out | apply sa | apply sn | apply sd | apply s0 | apply s1 | apply s2 | apply s3 | apply s4 | apply s5) | exact HI381.out)) hb); have n2_ := Aside0.mk (below_step (by repeat (first | (with_reducible first | exact HB.out | apply below_alloc | apply pw_below_drewN | apply below_drew1 | refine below_set ?_ (IsS137.ge HI374.out) | refine below_set ?_ (IsS109.ge HI381.out)) | exact HB.out)) hb); have n3_ := Aside0.mk (hbox); have n4_ := Aside0.mk ((by rw [hg]; exact (below_size (by repeat (first | (with_reducible first | exact HB.out | apply below_alloc | apply pw_below_drewN | apply below_drew1 | refine below_set ?_ (IsS137.ge HI374.out) | refine below_set ?_ (IsS109.ge HI381.out)) | exact HB.out))) : w.heap.size ≤ gb383)); have n5_ := Aside0.mk ((by rw [hg]; exact (below_size (by repeat (first | (with_reducible first | exact HB.out | apply below_alloc | apply pw_below_drewN | apply below_drew1 | refine below_set ?_ (IsS137.ge HI374.out) | refine below_set ?_ (IsS109.ge HI381.out)) | exact HB.out))) : w.heap.size ≤ gb383)); have n6_ := Aside0.mk ((by rw [hg]; exact Nat.ne_of_lt (IsS137.lt (show IsS137 w _ g374 a0_1 a1_1 a2_1 a3_1 a4_1 a5_1 from by repeat (first | (with_reducible first | exact HI374.out | apply ta | apply tn | apply td | apply t0 | apply t1 | apply t2 | apply t3 | apply t4 | apply t5) | exact HI374.out))) : g374 ≠ gb383)); have n7_ := Aside0.mk ((by rw [hg]; exact Nat.ne_of_gt (IsS137.lt (show IsS137 w _ g374 a0_1 a1_1 a2_1 a3_1 a4_1 a5_1 from by repeat (first | (with_reducible first | exact HI374.out | apply ta | apply tn | apply td | apply t0 | apply t1 | apply t2 | apply t3 | apply t4 | apply t5) | exact HI374.out))) : gb383 ≠ g374)); have n8_ := Aside0.mk ((by rw [hg]; exact Nat.ne_of_lt (IsS109.lt (show IsS109 w _ g381 b0_1 b1_1 b2_1 b3_1 b4_1 b5_1 from by repeat (first | (with_reducible first | exact HI381.out | apply sa | apply sn | apply sd | apply s0 | apply s1 | apply s2 | apply s3 | apply s4 | apply s5) | exact HI381.out))) : g381 ≠ gb383)); have n9_ := Aside0.mk ((by rw [hg]; exact Nat.ne_of_gt (IsS109.lt (show IsS109 w _ g381 b0_1 b1_1 b2_1 b3_1 b4_1 b5_1 from by repeat (first | (with_reducible first | exact HI381.out | apply sa | apply sn | apply sd | apply s0 | apply s1 | apply s2 | apply s3 | apply s4 | apply s5) | exact HI381.out))) : gb383 ≠ g381)); clear HI374; clear HI381; clear HB; have HI374 := n0_; have HI381 := n1_; have HB := n2_; have BK383 := n3_; have GW383 := n4_; have GE383 := n5_; have NB374_383 := n6_; have NB383_374 := n7_; have NB381_383 := n8_; have NB383_381 := n9_; clear n0_ n1_ n2_ n3_ n4_ n5_ n6_ n7_ n8_ n9_; clear hb hbox hg; have hnb18 := NB383_374.out; have hnc18 := NB374_383.out; have hnb19 := NB383_381.out; have hnc19 := NB381_383.out; have hcz20_0 : w17.cell? ⟨gb383, 0, none⟩ = some (.int .i64 0) := (blk_cell BK383.out 0).trans rfl; have hcz20_1 : w17.cell? ⟨gb383, 1, none⟩ = some (.int .i64 0) := (blk_cell BK383.out 1).trans rfl; have hcz20_2 : w17.cell? ⟨gb383, 2, none⟩ = some (.int .u64 0) := (blk_cell BK383.out 2).trans rfl; have hfz20_0 := blk_frozen BK383.out 0; have hfz20_1 := blk_frozen BK383.out 1; have hfz20_2 := blk_frozen BK383.out 2))
         have n0_ : Aside0 ((((w17.setCell ⟨gb383, 0, none⟩ (.int .i64 ((rd_T102 l1 x20_1).f0))).setCell ⟨gb383, 1, none⟩ (.int .i64 ((rd_T102 l1 x20_1).f1))).setCell ⟨gb383, 2, none⟩ (.int .u64 ((rd_T102 l1 x20_1).f2))).heap[gb383]? = some (.cells #[.int .i64 ((rd_T102 l1 x20_1).f0), .int .i64 ((rd_T102 l1 x20_1).f1), .int .u64 ((rd_T102 l1 x20_1).f2)] 102 (0, 0))) := ⟨by (with_reducible repeat (first | refine blk_drewN ?_ _ | refine blk_drew ?_ | refine blk_alloc ?_ _)); refine blk_put (cs := #[.int .i64 ((rd_T102 l1 x20_1).f0), .int .i64 ((rd_T102 l1 x20_1).f1), .int .u64 0]) ?_ 2 _ rfl; (with_reducible repeat (first | refine blk_drewN ?_ _ | refine blk_drew ?_ | refine blk_alloc ?_ _)); refine blk_put (cs := #[.int .i64 ((rd_T102 l1 x20_1).f0), .int .i64 0, .int .u64 0]) ?_ 1 _ rfl; (with_reducible repeat (first | refine blk_drewN ?_ _ | refine blk_drew ?_ | refine blk_alloc ?_ _)); refine blk_put (cs := #[.int .i64 0, .int .i64 0, .int .u64 0]) ?_ 0 _ rfl; (with_reducible repeat (first | refine blk_drewN ?_ _ | refine blk_drew ?_ | refine blk_alloc ?_ _)); exact BK383.out⟩
         have n1_ : Aside0 (IsS137 w (((w17.setCell ⟨gb383, 0, none⟩ (.int .i64 ((rd_T102 l1 x20_1).f0))).setCell ⟨gb383, 1, none⟩ (.int .i64 ((rd_T102 l1 x20_1).f1))).setCell ⟨gb383, 2, none⟩ (.int .u64 ((rd_T102 l1 x20_1).f2))) g374 a0_1 a1_1 a2_1 a3_1 a4_1 a5_1) := ⟨by repeat (first | (with_reducible first | exact HI374.out | apply ta | apply tn | apply td | apply t0 | apply t1 | apply t2 | apply t3 | apply t4 | apply t5 | refine tf ?_ NB374_383.out _) | exact HI374.out)⟩
         have n2_ : Aside0 (IsS109 w (((w17.setCell ⟨gb383, 0, none⟩ (.int .i64 ((rd_T102 l1 x20_1).f0))).setCell ⟨gb383, 1, none⟩ (.int .i64 ((rd_T102 l1 x20_1).f1))).setCell ⟨gb383, 2, none⟩ (.int .u64 ((rd_T102 l1 x20_1).f2))) g381 b0_1 b1_1 b2_1 b3_1 b4_1 b5_1) := ⟨by repeat (first | (with_reducible first | exact HI381.out | apply sa | apply sn | apply sd | apply s0 | apply s1 | apply s2 | apply s3 | apply s4 | apply s5 | refine sf ?_ NB381_383.out _) | exact HI381.out)⟩
         have n3_ : Aside0 (Below w.heap.size w (((w17.setCell ⟨gb383, 0, none⟩ (.int .i64 ((rd_T102 l1 x20_1).f0))).setCell ⟨gb383, 1, none⟩ (.int .i64 ((rd_T102 l1 x20_1).f1))).setCell ⟨gb383, 2, none⟩ (.int .u64 ((rd_T102 l1 x20_1).f2)))) := ⟨by repeat (first | (with_reducible first | exact HB.out | apply below_alloc | apply pw_below_drewN | apply below_drew1 | refine below_set ?_ (IsS137.ge HI374.out) | refine below_set ?_ (IsS109.ge HI381.out) | refine below_set ?_ GE383.out) | exact HB.out)⟩
         (try clear BK383)
         (try clear HI374)
         (try clear HI381)
         (try clear HB)
         generalize (((w17.setCell ⟨gb383, 0, none⟩ (.int .i64 ((rd_T102 l1 x20_1).f0))).setCell ⟨gb383, 1, none⟩ (.int .i64 ((rd_T102 l1 x20_1).f1))).setCell ⟨gb383, 2, none⟩ (.int .u64 ((rd_T102 l1 x20_1).f2))) = w21 at n0_ n1_ n2_ n3_ ⊢
         have BK383 := n0_
         have HI374 := n1_
         have HI381 := n2_
         have HB := n3_
         clear n0_ n1_ n2_ n3_
         have n0_ := Aside0.mk (blk_drew BK383.out)
         have n1_ := Aside0.mk (IsS137.drew HI374.out)
         have n2_ := Aside0.mk (IsS109.drew HI381.out)
         have n3_ := Aside0.mk (below_drew1 HB.out)
         clear BK383
         clear HI374
         clear HI381
         clear HB
         have BK383 := n0_
         have HI374 := n1_
         have HI381 := n2_
         have HB := n3_
         clear n0_ n1_ n2_ n3_
         refine start_ (n := 7) (S := fun w' => w'.cell? ⟨gb383, 0, none⟩ = some (.int .i64 ((rd_T102 l1 x20_1).f0)) ∧ w'.cell? ⟨gb383, 1, none⟩ = some (.int .i64 ((rd_T102 l1 x20_1).f1)) ∧ w'.cell? ⟨gb383, 2, none⟩ = some (.int .u64 ((rd_T102 l1 x20_1).f2))) (ds := []) #[false, false, false, false, false, false, false] (by kernel_rfl) rfl rfl ⟨(blk_cell BK383.out 0).trans rfl, (blk_cell BK383.out 1).trans rfl, (blk_cell BK383.out 2).trans rfl⟩ (fun hHeld => ?_)
         generalize w21.drew = w22 at BK383 HI374 HI381 HB hHeld ⊢
         refine pure_ (i := 0) (N := some 24) (v := ?_) (a' := ?_) #[true, false, false, false, false, false, false] rfl rfl (by kernel_rfl) (fun _ _ _ h => h) (Or.inl ⟨by rfl, ?_⟩) ?_ ?_
         rotate_left
         ·intro w'
          go_simp
          with_reducible rfl
         rotate_left
         ·simp only [Act.put, List.setIfInBounds_toArray, List.set_cons_zero, List.set_cons_succ, i64_w, i32_w]
          rfl
         refine pure_ (i := 3) (N := some 27) (v := ?_) (a' := ?_) #[true, false, false, true, false, false, false] rfl rfl (by kernel_rfl) (fun _ _ _ h => h) (Or.inl ⟨by rfl, ?_⟩) ?_ ?_
         rotate_left
         ·intro w'
          go_simp
          with_reducible rfl
         rotate_left
         ·simp only [Act.put, List.setIfInBounds_toArray, List.set_cons_zero, List.set_cons_succ, i64_w, i32_w]
          rfl
         refine take_ (i := 1) (N := some 25) (v := ?_) (a' := ?_) #[true, true, false, true, false, false, false] rfl rfl (by kernel_rfl) (fun _ _ _ h => h) (Or.inl ⟨by rfl, ?_⟩) hHeld ?_ ?_
         rotate_left
         ·rintro w' ⟨s0, s1, s2⟩
          go_simp
          with_reducible rfl
         rotate_left
         ·simp only [Act.put, List.setIfInBounds_toArray, List.set_cons_zero, List.set_cons_succ, i64_w, i32_w]
          rfl
         refine take_ (i := 4) (N := some 28) (v := ?_) (a' := ?_) #[true, true, false, true, true, false, false] rfl rfl (by kernel_rfl) (fun _ _ _ h => h) (Or.inl ⟨by rfl, ?_⟩) hHeld ?_ ?_
         rotate_left
         ·rintro w' ⟨s0, s1, s2⟩
          go_simp
          with_reducible rfl
         rotate_left
         ·simp only [Act.put, List.setIfInBounds_toArray, List.set_cons_zero, List.set_cons_succ, i64_w, i32_w]
          rfl
         refine one_ (i := 2) (N := some 26) #[true, true, true, true, true, false, false] rfl rfl (by kernel_rfl) (by decide) (fun K hK => ?_)
         refine goes_ Try.func53 (by kernel_rfl) rfl #[.pointer (some ⟨g374, 0, none⟩), .agg #[.int .i64 ((rd_T102 l1 x20_1).f0), .int .i64 ((rd_T102 l1 x20_1).f1), .int .u64 ((rd_T102 l1 x20_1).f2)]] (by rfl) rfl rfl (by (try simp only [List.map_toArray, List.map_cons, List.map_nil]); first | done | rfl | (simp only [List.length_drop, List.length_take]; rfl)) ?_
         with_reducible refine (signalmanlaw09_do.calls k1 g374 a0_1 a1_1 a2_1 a3_1 a4_1 a5_1 ((rd_T102 l1 x20_1).f0) ((rd_T102 l1 x20_1).f1) ((rd_T102 l1 x20_1).f2) t384 t385 t386 t387 t388 t389 t390 t391 t392 w _ ?side1 ?side2 (by first | exact A14.out | (have h_ := A14.out; exact h_))).mono ?_
         (case side1 => repeat (first | (with_reducible first | exact HI374.out | apply ta | apply tn | apply td | apply t0 | apply t1 | apply t2 | apply t3 | apply t4 | apply t5 | refine tf ?_ NB374_383.out _) | exact HI374.out))
         (case side2 => repeat (first | (with_reducible first | exact HB.out | apply below_alloc | apply pw_below_drewN | apply below_drew1 | refine below_set ?_ (IsS137.ge HI374.out) | refine below_set ?_ (IsS109.ge HI381.out) | refine below_set ?_ GE383.out) | exact HB.out))
         rintro e w23 ⟨rfl, hi, hb, hk⟩
         refine ⟨_, rfl, ?_⟩
         have n0_ := Aside0.mk ((IsS109.but (show IsS109 w _ g381 b0_1 b1_1 b2_1 b3_1 b4_1 b5_1 from by repeat (first | (with_reducible first | exact HI381.out | apply sa | apply sn | apply sd | apply s0 | apply s1 | apply s2 | apply s3 | apply s4 | apply s5 | refine sf ?_ NB381_383.out _) | exact HI381.out)) (show IsS137 w _ g374 a0_1 a1_1 a2_1 a3_1 a4_1 a5_1 from by repeat (first | (with_reducible first | exact HI374.out | apply ta | apply tn | apply td | apply t0 | apply t1 | apply t2 | apply t3 | apply t4 | apply t5 | refine tf ?_ NB374_383.out _) | exact HI374.out)).1 (by decide) hk (by simp)))
         have n1_ := Aside0.mk (KeepBut.blk hk (g' := gb383) (o := .cells #[.int .i64 ((rd_T102 l1 x20_1).f0), .int .i64 ((rd_T102 l1 x20_1).f1), .int .u64 ((rd_T102 l1 x20_1).f2)] 102 (0, 0)) (by (with_reducible repeat (first | refine blk_drewN ?_ _ | refine blk_drew ?_ | refine blk_alloc ?_ _)); exact BK383.out) NB383_374.out (by simp))
         have n2_ := Aside0.mk (hb)
         have n3_ := Aside0.mk (hi)
         clear HI381
         clear BK383
         clear HB
         clear HI374
         have HI381 := n0_
         have BK383 := n1_
         have HB := n2_
         have HI374 := n3_
         clear n0_ n1_ n2_ n3_
         (try clear hb)
         (try clear hb2)
         (try clear hk)
         (try clear hi)
         refine hK.out _ _ ⟨(blk_cell BK383.out 0).trans rfl, (blk_cell BK383.out 1).trans rfl, (blk_cell BK383.out 2).trans rfl⟩ (fun hHeld => ?_)
         clear hK K
         refine norm_ (a' := ?_) ?_ ?_
         rotate_left
         ·show Act.put _ (some 26) _ = _
          simp only [Act.put, List.setIfInBounds_toArray, List.set_cons_zero, List.set_cons_succ, i64_w, i32_w]
          rfl
         refine one_ (i := 5) (N := some 29) #[true, true, true, true, true, true, false] rfl rfl (by kernel_rfl) (by decide) (fun K hK => ?_)
         refine goes_ Try.func54 (by kernel_rfl) rfl #[.pointer (some ⟨g381, 0, none⟩), .agg #[.int .i64 ((rd_T102 l1 x20_1).f0), .int .i64 ((rd_T102 l1 x20_1).f1), .int .u64 ((rd_T102 l1 x20_1).f2)]] (by rfl) rfl rfl (by (try simp only [List.map_toArray, List.map_cons, List.map_nil]); first | done | rfl | (simp only [List.length_drop, List.length_take]; rfl)) ?_
         with_reducible refine (signalmanlaw09_own.calls k1 g381 b0_1 b1_1 b2_1 b3_1 b4_1 b5_1 ((rd_T102 l1 x20_1).f0) ((rd_T102 l1 x20_1).f1) ((rd_T102 l1 x20_1).f2) t393 t394 t395 t396 t397 t398 t399 t400 t401 w _ ?side1 ?side2 (by first | exact A15.out | (have h_ := A15.out; exact h_))).mono ?_
         (case side1 => repeat (first | (with_reducible first | exact HI381.out | apply sa | apply sn | apply sd | apply s0 | apply s1 | apply s2 | apply s3 | apply s4 | apply s5 | refine sf ?_ NB381_383.out _) | exact HI381.out))
         (case side2 => repeat (first | (with_reducible first | exact HB.out | apply below_alloc | apply pw_below_drewN | apply below_drew1 | refine below_set ?_ (IsS137.ge HI374.out) | refine below_set ?_ (IsS109.ge HI381.out) | refine below_set ?_ GE383.out) | exact HB.out))
         rintro e w24 ⟨rfl, hi, hb, hk⟩
         refine ⟨_, rfl, ?_⟩
         have n0_ := Aside0.mk ((IsS137.but (show IsS137 w _ g374 t387 t388 t389 t390 t391 t392 from by repeat (first | (with_reducible first | exact HI374.out | apply ta | apply tn | apply td | apply t0 | apply t1 | apply t2 | apply t3 | apply t4 | apply t5 | refine tf ?_ NB374_383.out _) | exact HI374.out)) (show IsS109 w _ g381 b0_1 b1_1 b2_1 b3_1 b4_1 b5_1 from by repeat (first | (with_reducible first | exact HI381.out | apply sa | apply sn | apply sd | apply s0 | apply s1 | apply s2 | apply s3 | apply s4 | apply s5 | refine sf ?_ NB381_383.out _) | exact HI381.out)).1 (by decide) hk (by simp)))
         have n1_ := Aside0.mk (KeepBut.blk hk (g' := gb383) (o := .cells #[.int .i64 ((rd_T102 l1 x20_1).f0), .int .i64 ((rd_T102 l1 x20_1).f1), .int .u64 ((rd_T102 l1 x20_1).f2)] 102 (0, 0)) (by (with_reducible repeat (first | refine blk_drewN ?_ _ | refine blk_drew ?_ | refine blk_alloc ?_ _)); exact BK383.out) NB383_381.out (by simp))
         have n2_ := Aside0.mk (hb)
         have n3_ := Aside0.mk (hi)
         clear HI374
         clear BK383
         clear HB
         clear HI381
         have HI374 := n0_
         have BK383 := n1_
         have HB := n2_
         have HI381 := n3_
         clear n0_ n1_ n2_ n3_
         (try clear hb)
         (try clear hb2)
         (try clear hk)
         (try clear hi)
         refine hK.out _ _ ⟨(blk_cell BK383.out 0).trans rfl, (blk_cell BK383.out 1).trans rfl, (blk_cell BK383.out 2).trans rfl⟩ (fun hHeld => ?_)
         clear hK K
         refine norm_ (a' := ?_) ?_ ?_
         rotate_left
         ·show Act.put _ (some 29) _ = _
          simp only [Act.put, List.setIfInBounds_toArray, List.set_cons_zero, List.set_cons_succ, i64_w, i32_w]
          rfl
         refine pure_ (i := 6) (N := some 30) (v := ?_) (a' := ?_) #[true, true, true, true, true, true, true] rfl rfl (by kernel_rfl) (fun _ _ _ h => h) (Or.inl ⟨by rfl, ?_⟩) ?_ ?_
         rotate_left
         ·intro w'
          go_simp
          with_reducible rfl
         rotate_left
         ·simp only [Act.put, List.setIfInBounds_toArray, List.set_cons_zero, List.set_cons_succ, i64_w, i32_w]
          rfl
         refine done_ (by kernel_rfl) ?_
         try go_wp2
         go_ret
         exact ⟨by first | rfl | (simp [errW_none, errW_some] <;> rfl) | (simp [*, errW_none, errW_some] <;> rfl), by repeat (first | (with_reducible first | exact HB.out | apply below_alloc | apply pw_below_drewN | apply below_drew1 | refine below_set ?_ (IsS137.ge HI374.out) | refine below_set ?_ (IsS109.ge HI381.out) | refine below_set ?_ GE383.out) | exact HB.out)⟩
        ·rw [if_neg c16] at H
         have c16b0 : (!(t384 == t393) || (!(t385 == t394) || (!(t386 == t395)))) = false := by simpa using c16
         clear c16
         have HC25 := Aside0.mk H
         clear H
         have p382 : 0 ≤ (x20_1 : Int) := of_decide_eq_true (by first | (with_reducible assumption) | assumption)
         have q382 : x20_1 < (l1.length : Int) := of_decide_eq_true (by first | (with_reducible assumption) | assumption)
         obtain ⟨ad382, e382, hx382_0, hx382_1, hx382_2⟩ := at_T102 HR1.out x20_1 p382 q382
         cases e382
         replace hx382_0 := (HB.out.cell (World.block_lt_of_cell? w _ hx382_0)).trans hx382_0
         replace hx382_1 := (HB.out.cell (World.block_lt_of_cell? w _ hx382_1)).trans hx382_1
         replace hx382_2 := (HB.out.cell (World.block_lt_of_cell? w _ hx382_2)).trans hx382_2
         replace p382 := eq_true p382
         replace q382 := eq_true q382
         try go_wp2_with (first | ((with_reducible refine gate_dst (N := 8) rfl ?_); refine box_event ?hg (N := 8) ?hd (cs := #[.int .i64 0, .int .i64 0, .int .u64 0]) (t := 102) ?hr ?_; (case hd => rfl); (case hg => rfl); (case hr => first | (go_simp; done) | (go_simp; rfl)); intro gb383 hg w26 hbox hb; have n0_ := Aside0.mk (IsS137.below (by repeat (first | (with_reducible first | exact HI374.out | apply ta | apply tn | apply td | apply t0 | apply t1 | apply t2 | apply t3 | apply t4 | apply t5) | exact HI374.out)) hb); have n1_ := Aside0.mk (IsS109.below (by repeat (first | (with_reducible first | exact HI381.out | apply sa | apply sn | apply sd | apply s0 | apply s1 | apply s2 | apply s3 | apply s4 | apply s5) | exact HI381.out)) hb); have n2_ := Aside0.mk (below_step (by repeat (first | (with_reducible first | exact HB.out | apply below_alloc | apply pw_below_drewN | apply below_drew1 | refine below_set ?_ (IsS137.ge HI374.out) | refine below_set ?_ (IsS109.ge HI381.out)) | exact HB.out)) hb); have n3_ := Aside0.mk (hbox); have n4_ := Aside0.mk ((by rw [hg]; exact (below_size (by repeat (first | (with_reducible first | exact HB.out | apply below_alloc | apply pw_below_drewN | apply below_drew1 | refine below_set ?_ (IsS137.ge HI374.out) | refine below_set ?_ (IsS109.ge HI381.out)) | exact HB.out))) : w.heap.size ≤ gb383)); have n5_ := Aside0.mk ((by rw [hg]; exact (below_size (by repeat (first | (with_reducible first | exact HB.out | apply below_alloc | apply pw_below_drewN | apply below_drew1 | refine below_set ?_ (IsS137.ge HI374.out) | refine below_set ?_ (IsS109.ge HI381.out)) | exact HB.out))) : w.heap.size ≤ gb383)); have n6_ := Aside0.mk ((by rw [hg]; exact Nat.ne_of_lt (IsS137.lt (show IsS137 w _ g374 a0_1 a1_1 a2_1 a3_1 a4_1 a5_1 from by repeat (first | (with_reducible first | exact HI374.out | apply ta | apply tn | apply td | apply t0 | apply t1 | apply t2 | apply t3 | apply t4 | apply t5) | exact HI374.out))) : g374 ≠ gb383)); have n7_ := Aside0.mk ((by rw [hg]; exact Nat.ne_of_gt (IsS137.lt (show IsS137 w _ g374 a0_1 a1_1 a2_1 a3_1 a4_1 a5_1 from by repeat (first | (with_reducible first | exact HI374.out | apply ta | apply tn | apply td | apply t0 | apply t1 | apply t2 | apply t3 | apply t4 | apply t5) | exact HI374.out))) : gb383 ≠ g374)); have n8_ := Aside0.mk ((by rw [hg]; exact Nat.ne_of_lt (IsS109.lt (show IsS109 w _ g381 b0_1 b1_1 b2_1 b3_1 b4_1 b5_1 from by repeat (first | (with_reducible first | exact HI381.out | apply sa | apply sn | apply sd | apply s0 | apply s1 | apply s2 | apply s3 | apply s4 | apply s5) | exact HI381.out))) : g381 ≠ gb383)); have n9_ := Aside0.mk ((by rw [hg]; exact Nat.ne_of_gt (IsS109.lt (show IsS109 w _ g381 b0_1 b1_1 b2_1 b3_1 b4_1 b5_1 from by repeat (first | (with_reducible first | exact HI381.out | apply sa | apply sn | apply sd | apply s0 | apply s1 | apply s2 | apply s3 | apply s4 | apply s5) | exact HI381.out))) : gb383 ≠ g381)); clear HI374; clear HI381; clear HB; have HI374 := n0_; have HI381 := n1_; have HB := n2_; have BK383 := n3_; have GW383 := n4_; have GE383 := n5_; have NB374_383 := n6_; have NB383_374 := n7_; have NB381_383 := n8_; have NB383_381 := n9_; clear n0_ n1_ n2_ n3_ n4_ n5_ n6_ n7_ n8_ n9_; clear hb hbox hg; have hnb27 := NB383_374.out; have hnc27 := NB374_383.out; have hnb28 := NB383_381.out; have hnc28 := NB381_383.out; have hcz29_0 : w26.cell? ⟨gb383, 0, none⟩ = some (.int .i64 0) := (blk_cell BK383.out 0).trans rfl; have hcz29_1 : w26.cell? ⟨gb383, 1, none⟩ = some (.int .i64 0) := (blk_cell BK383.out 1).trans rfl; have hcz29_2 : w26.cell? ⟨gb383, 2, none⟩ = some (.int .u64 0) := (blk_cell BK383.out 2).trans rfl; have hfz29_0 := blk_frozen BK383.out 0; have hfz29_1 := blk_frozen BK383.out 1; have hfz29_2 := blk_frozen BK383.out 2))
         have n0_ : Aside0 ((((w26.setCell ⟨gb383, 0, none⟩ (.int .i64 ((rd_T102 l1 x20_1).f0))).setCell ⟨gb383, 1, none⟩ (.int .i64 ((rd_T102 l1 x20_1).f1))).setCell ⟨gb383, 2, none⟩ (.int .u64 ((rd_T102 l1 x20_1).f2))).heap[gb383]? = some (.cells #[.int .i64 ((rd_T102 l1 x20_1).f0), .int .i64 ((rd_T102 l1 x20_1).f1), .int .u64 ((rd_T102 l1 x20_1).f2)] 102 (0, 0))) := ⟨by (with_reducible repeat (first | refine blk_drewN ?_ _ | refine blk_drew ?_ | refine blk_alloc ?_ _)); refine blk_put (cs := #[.int .i64 ((rd_T102 l1 x20_1).f0), .int .i64 ((rd_T102 l1 x20_1).f1), .int .u64 0]) ?_ 2 _ rfl; (with_reducible repeat (first | refine blk_drewN ?_ _ | refine blk_drew ?_ | refine blk_alloc ?_ _)); refine blk_put (cs := #[.int .i64 ((rd_T102 l1 x20_1).f0), .int .i64 0, .int .u64 0]) ?_ 1 _ rfl; (with_reducible repeat (first | refine blk_drewN ?_ _ | refine blk_drew ?_ | refine blk_alloc ?_ _)); refine blk_put (cs := #[.int .i64 0, .int .i64 0, .int .u64 0]) ?_ 0 _ rfl; (with_reducible repeat (first | refine blk_drewN ?_ _ | refine blk_drew ?_ | refine blk_alloc ?_ _)); exact BK383.out⟩
         have n1_ : Aside0 (IsS137 w (((w26.setCell ⟨gb383, 0, none⟩ (.int .i64 ((rd_T102 l1 x20_1).f0))).setCell ⟨gb383, 1, none⟩ (.int .i64 ((rd_T102 l1 x20_1).f1))).setCell ⟨gb383, 2, none⟩ (.int .u64 ((rd_T102 l1 x20_1).f2))) g374 a0_1 a1_1 a2_1 a3_1 a4_1 a5_1) := ⟨by repeat (first | (with_reducible first | exact HI374.out | apply ta | apply tn | apply td | apply t0 | apply t1 | apply t2 | apply t3 | apply t4 | apply t5 | refine tf ?_ NB374_383.out _) | exact HI374.out)⟩
         have n2_ : Aside0 (IsS109 w (((w26.setCell ⟨gb383, 0, none⟩ (.int .i64 ((rd_T102 l1 x20_1).f0))).setCell ⟨gb383, 1, none⟩ (.int .i64 ((rd_T102 l1 x20_1).f1))).setCell ⟨gb383, 2, none⟩ (.int .u64 ((rd_T102 l1 x20_1).f2))) g381 b0_1 b1_1 b2_1 b3_1 b4_1 b5_1) := ⟨by repeat (first | (with_reducible first | exact HI381.out | apply sa | apply sn | apply sd | apply s0 | apply s1 | apply s2 | apply s3 | apply s4 | apply s5 | refine sf ?_ NB381_383.out _) | exact HI381.out)⟩
         have n3_ : Aside0 (Below w.heap.size w (((w26.setCell ⟨gb383, 0, none⟩ (.int .i64 ((rd_T102 l1 x20_1).f0))).setCell ⟨gb383, 1, none⟩ (.int .i64 ((rd_T102 l1 x20_1).f1))).setCell ⟨gb383, 2, none⟩ (.int .u64 ((rd_T102 l1 x20_1).f2)))) := ⟨by repeat (first | (with_reducible first | exact HB.out | apply below_alloc | apply pw_below_drewN | apply below_drew1 | refine below_set ?_ (IsS137.ge HI374.out) | refine below_set ?_ (IsS109.ge HI381.out) | refine below_set ?_ GE383.out) | exact HB.out)⟩
         (try clear BK383)
         (try clear HI374)
         (try clear HI381)
         (try clear HB)
         generalize (((w26.setCell ⟨gb383, 0, none⟩ (.int .i64 ((rd_T102 l1 x20_1).f0))).setCell ⟨gb383, 1, none⟩ (.int .i64 ((rd_T102 l1 x20_1).f1))).setCell ⟨gb383, 2, none⟩ (.int .u64 ((rd_T102 l1 x20_1).f2))) = w30 at n0_ n1_ n2_ n3_ ⊢
         have BK383 := n0_
         have HI374 := n1_
         have HI381 := n2_
         have HB := n3_
         clear n0_ n1_ n2_ n3_
         have n0_ := Aside0.mk (blk_drew BK383.out)
         have n1_ := Aside0.mk (IsS137.drew HI374.out)
         have n2_ := Aside0.mk (IsS109.drew HI381.out)
         have n3_ := Aside0.mk (below_drew1 HB.out)
         clear BK383
         clear HI374
         clear HI381
         clear HB
         have BK383 := n0_
         have HI374 := n1_
         have HI381 := n2_
         have HB := n3_
         clear n0_ n1_ n2_ n3_
         refine start_ (n := 7) (S := fun w' => w'.cell? ⟨gb383, 0, none⟩ = some (.int .i64 ((rd_T102 l1 x20_1).f0)) ∧ w'.cell? ⟨gb383, 1, none⟩ = some (.int .i64 ((rd_T102 l1 x20_1).f1)) ∧ w'.cell? ⟨gb383, 2, none⟩ = some (.int .u64 ((rd_T102 l1 x20_1).f2))) (ds := []) #[false, false, false, false, false, false, false] (by kernel_rfl) rfl rfl ⟨(blk_cell BK383.out 0).trans rfl, (blk_cell BK383.out 1).trans rfl, (blk_cell BK383.out 2).trans rfl⟩ (fun hHeld => ?_)
         generalize w30.drew = w31 at BK383 HI374 HI381 HB hHeld ⊢
         refine pure_ (i := 0) (N := some 24) (v := ?_) (a' := ?_) #[true, false, false, false, false, false, false] rfl rfl (by kernel_rfl) (fun _ _ _ h => h) (Or.inl ⟨by rfl, ?_⟩) ?_ ?_
         rotate_left
         ·intro w'
          go_simp
          with_reducible rfl
         rotate_left
         ·simp only [Act.put, List.setIfInBounds_toArray, List.set_cons_zero, List.set_cons_succ, i64_w, i32_w]
          rfl
         refine pure_ (i := 3) (N := some 27) (v := ?_) (a' := ?_) #[true, false, false, true, false, false, false] rfl rfl (by kernel_rfl) (fun _ _ _ h => h) (Or.inl ⟨by rfl, ?_⟩) ?_ ?_
         rotate_left
         ·intro w'
          go_simp
          with_reducible rfl
         rotate_left
         ·simp only [Act.put, List.setIfInBounds_toArray, List.set_cons_zero, List.set_cons_succ, i64_w, i32_w]
          rfl
         refine take_ (i := 1) (N := some 25) (v := ?_) (a' := ?_) #[true, true, false, true, false, false, false] rfl rfl (by kernel_rfl) (fun _ _ _ h => h) (Or.inl ⟨by rfl, ?_⟩) hHeld ?_ ?_
         rotate_left
         ·rintro w' ⟨s0, s1, s2⟩
          go_simp
          with_reducible rfl
         rotate_left
         ·simp only [Act.put, List.setIfInBounds_toArray, List.set_cons_zero, List.set_cons_succ, i64_w, i32_w]
          rfl
         refine take_ (i := 4) (N := some 28) (v := ?_) (a' := ?_) #[true, true, false, true, true, false, false] rfl rfl (by kernel_rfl) (fun _ _ _ h => h) (Or.inl ⟨by rfl, ?_⟩) hHeld ?_ ?_
         rotate_left
         ·rintro w' ⟨s0, s1, s2⟩
          go_simp
          with_reducible rfl
         rotate_left
         ·simp only [Act.put, List.setIfInBounds_toArray, List.set_cons_zero, List.set_cons_succ, i64_w, i32_w]
          rfl
         refine one_ (i := 2) (N := some 26) #[true, true, true, true, true, false, false] rfl rfl (by kernel_rfl) (by decide) (fun K hK => ?_)
         refine goes_ Try.func53 (by kernel_rfl) rfl #[.pointer (some ⟨g374, 0, none⟩), .agg #[.int .i64 ((rd_T102 l1 x20_1).f0), .int .i64 ((rd_T102 l1 x20_1).f1), .int .u64 ((rd_T102 l1 x20_1).f2)]] (by rfl) rfl rfl (by (try simp only [List.map_toArray, List.map_cons, List.map_nil]); first | done | rfl | (simp only [List.length_drop, List.length_take]; rfl)) ?_
         with_reducible refine (signalmanlaw09_do.calls k1 g374 a0_1 a1_1 a2_1 a3_1 a4_1 a5_1 ((rd_T102 l1 x20_1).f0) ((rd_T102 l1 x20_1).f1) ((rd_T102 l1 x20_1).f2) t384 t385 t386 t387 t388 t389 t390 t391 t392 w _ ?side1 ?side2 (by first | exact A14.out | (have h_ := A14.out; exact h_))).mono ?_
         (case side1 => repeat (first | (with_reducible first | exact HI374.out | apply ta | apply tn | apply td | apply t0 | apply t1 | apply t2 | apply t3 | apply t4 | apply t5 | refine tf ?_ NB374_383.out _) | exact HI374.out))
         (case side2 => repeat (first | (with_reducible first | exact HB.out | apply below_alloc | apply pw_below_drewN | apply below_drew1 | refine below_set ?_ (IsS137.ge HI374.out) | refine below_set ?_ (IsS109.ge HI381.out) | refine below_set ?_ GE383.out) | exact HB.out))
         rintro e w32 ⟨rfl, hi, hb, hk⟩
         refine ⟨_, rfl, ?_⟩
         have n0_ := Aside0.mk ((IsS109.but (show IsS109 w _ g381 b0_1 b1_1 b2_1 b3_1 b4_1 b5_1 from by repeat (first | (with_reducible first | exact HI381.out | apply sa | apply sn | apply sd | apply s0 | apply s1 | apply s2 | apply s3 | apply s4 | apply s5 | refine sf ?_ NB381_383.out _) | exact HI381.out)) (show IsS137 w _ g374 a0_1 a1_1 a2_1 a3_1 a4_1 a5_1 from by repeat (first | (with_reducible first | exact HI374.out | apply ta | apply tn | apply td | apply t0 | apply t1 | apply t2 | apply t3 | apply t4 | apply t5 | refine tf ?_ NB374_383.out _) | exact HI374.out)).1 (by decide) hk (by simp)))
         have n1_ := Aside0.mk (KeepBut.blk hk (g' := gb383) (o := .cells #[.int .i64 ((rd_T102 l1 x20_1).f0), .int .i64 ((rd_T102 l1 x20_1).f1), .int .u64 ((rd_T102 l1 x20_1).f2)] 102 (0, 0)) (by (with_reducible repeat (first | refine blk_drewN ?_ _ | refine blk_drew ?_ | refine blk_alloc ?_ _)); exact BK383.out) NB383_374.out (by simp))
         have n2_ := Aside0.mk (hb)
         have n3_ := Aside0.mk (hi)
         clear HI381
         clear BK383
         clear HB
         clear HI374
         have HI381 := n0_
         have BK383 := n1_
         have HB := n2_
         have HI374 := n3_
         clear n0_ n1_ n2_ n3_
         (try clear hb)
         (try clear hb2)
         (try clear hk)
         (try clear hi)
         refine hK.out _ _ ⟨(blk_cell BK383.out 0).trans rfl, (blk_cell BK383.out 1).trans rfl, (blk_cell BK383.out 2).trans rfl⟩ (fun hHeld => ?_)
         clear hK K
         refine norm_ (a' := ?_) ?_ ?_
         rotate_left
         ·show Act.put _ (some 26) _ = _
          simp only [Act.put, List.setIfInBounds_toArray, List.set_cons_zero, List.set_cons_succ, i64_w, i32_w]
          rfl
         refine one_ (i := 5) (N := some 29) #[true, true, true, true, true, true, false] rfl rfl (by kernel_rfl) (by decide) (fun K hK => ?_)
         refine goes_ Try.func54 (by kernel_rfl) rfl #[.pointer (some ⟨g381, 0, none⟩), .agg #[.int .i64 ((rd_T102 l1 x20_1).f0), .int .i64 ((rd_T102 l1 x20_1).f1), .int .u64 ((rd_T102 l1 x20_1).f2)]] (by rfl) rfl rfl (by (try simp only [List.map_toArray, List.map_cons, List.map_nil]); first | done | rfl | (simp only [List.length_drop, List.length_take]; rfl)) ?_
         with_reducible refine (signalmanlaw09_own.calls k1 g381 b0_1 b1_1 b2_1 b3_1 b4_1 b5_1 ((rd_T102 l1 x20_1).f0) ((rd_T102 l1 x20_1).f1) ((rd_T102 l1 x20_1).f2) t393 t394 t395 t396 t397 t398 t399 t400 t401 w _ ?side1 ?side2 (by first | exact A15.out | (have h_ := A15.out; exact h_))).mono ?_
         (case side1 => repeat (first | (with_reducible first | exact HI381.out | apply sa | apply sn | apply sd | apply s0 | apply s1 | apply s2 | apply s3 | apply s4 | apply s5 | refine sf ?_ NB381_383.out _) | exact HI381.out))
         (case side2 => repeat (first | (with_reducible first | exact HB.out | apply below_alloc | apply pw_below_drewN | apply below_drew1 | refine below_set ?_ (IsS137.ge HI374.out) | refine below_set ?_ (IsS109.ge HI381.out) | refine below_set ?_ GE383.out) | exact HB.out))
         rintro e w33 ⟨rfl, hi, hb, hk⟩
         refine ⟨_, rfl, ?_⟩
         have n0_ := Aside0.mk ((IsS137.but (show IsS137 w _ g374 t387 t388 t389 t390 t391 t392 from by repeat (first | (with_reducible first | exact HI374.out | apply ta | apply tn | apply td | apply t0 | apply t1 | apply t2 | apply t3 | apply t4 | apply t5 | refine tf ?_ NB374_383.out _) | exact HI374.out)) (show IsS109 w _ g381 b0_1 b1_1 b2_1 b3_1 b4_1 b5_1 from by repeat (first | (with_reducible first | exact HI381.out | apply sa | apply sn | apply sd | apply s0 | apply s1 | apply s2 | apply s3 | apply s4 | apply s5 | refine sf ?_ NB381_383.out _) | exact HI381.out)).1 (by decide) hk (by simp)))
         have n1_ := Aside0.mk (KeepBut.blk hk (g' := gb383) (o := .cells #[.int .i64 ((rd_T102 l1 x20_1).f0), .int .i64 ((rd_T102 l1 x20_1).f1), .int .u64 ((rd_T102 l1 x20_1).f2)] 102 (0, 0)) (by (with_reducible repeat (first | refine blk_drewN ?_ _ | refine blk_drew ?_ | refine blk_alloc ?_ _)); exact BK383.out) NB383_381.out (by simp))
         have n2_ := Aside0.mk (hb)
         have n3_ := Aside0.mk (hi)
         clear HI374
         clear BK383
         clear HB
         clear HI381
         have HI374 := n0_
         have BK383 := n1_
         have HB := n2_
         have HI381 := n3_
         clear n0_ n1_ n2_ n3_
         (try clear hb)
         (try clear hb2)
         (try clear hk)
         (try clear hi)
         refine hK.out _ _ ⟨(blk_cell BK383.out 0).trans rfl, (blk_cell BK383.out 1).trans rfl, (blk_cell BK383.out 2).trans rfl⟩ (fun hHeld => ?_)
         clear hK K
         refine norm_ (a' := ?_) ?_ ?_
         rotate_left
         ·show Act.put _ (some 29) _ = _
          simp only [Act.put, List.setIfInBounds_toArray, List.set_cons_zero, List.set_cons_succ, i64_w, i32_w]
          rfl
         refine pure_ (i := 6) (N := some 30) (v := ?_) (a' := ?_) #[true, true, true, true, true, true, true] rfl rfl (by kernel_rfl) (fun _ _ _ h => h) (Or.inl ⟨by rfl, ?_⟩) ?_ ?_
         rotate_left
         ·intro w'
          go_simp
          with_reducible rfl
         rotate_left
         ·simp only [Act.put, List.setIfInBounds_toArray, List.set_cons_zero, List.set_cons_succ, i64_w, i32_w]
          rfl
         refine done_ (by kernel_rfl) ?_
         go_upto_region 11 with (fail)
         go_cut [73] (fun v73 wc => ∃ (kq : Nat) (x73_24 : Bool) (a0_24 : Int) (a1_24 : Int) (a2_24 : Int) (a3_24 : Int) (a4_24 : Bool) (a5_24 : Bool), v73 = .bool x73_24 ∧ Aside0 (signalmanlaw09_ConnDoes.j1 kq l1 (l1.length : Int) x20_1 x73_24 a0_24 a1_24 a2_24 a3_24 a4_24 a5_24 t396 t397 t398 t399 t400 t401 = some r) ∧ Aside0 (kq ≤ k1) ∧ Aside0 (wc.heap[gb383]? = some (.cells #[.int .i64 ((rd_T102 l1 x20_1).f0), .int .i64 ((rd_T102 l1 x20_1).f1), .int .u64 ((rd_T102 l1 x20_1).f2)] 102 (0, 0))) ∧ Aside0 (IsS137 w wc g374 a0_24 a1_24 a2_24 a3_24 a4_24 a5_24) ∧ Aside0 (IsS109 w wc g381 t396 t397 t398 t399 t400 t401) ∧ Aside0 (Below w.heap.size w wc))
         case first =>
          have H := HC25.out
          clear HC25
          replace H := Option.bind_eq_some_iff.mp H
          obtain ⟨⟨t402, t403, t404, t405, t406, t407, t408⟩, A340, H⟩ := H
          replace H : (if t402 = t397 then ((conn_Conn_Owner.f t403 t404 t405 t406 t407 t408).bind fun bt409 => (if bt409.1 = t398 then ((conn_Conn_Flight.f bt409.2.1 bt409.2.2.1 bt409.2.2.2.1 bt409.2.2.2.2.1 bt409.2.2.2.2.2.1 bt409.2.2.2.2.2.2).bind fun bt416 => (if bt416.1 = t399 then ((conn_Conn_Sent.f bt416.2.1 bt416.2.2.1 bt416.2.2.2.1 bt416.2.2.2.2.1 bt416.2.2.2.2.2.1 bt416.2.2.2.2.2.2).bind fun bt423 => (if bt423.1 = t401 then ((conn_Conn_Epoch.f bt423.2.1 bt423.2.2.1 bt423.2.2.2.1 bt423.2.2.2.2.1 bt423.2.2.2.2.2.1 bt423.2.2.2.2.2.2).bind fun bt430 => (signalmanlaw09_ConnDoes.j1 k1 l1 (l1.length : Int) x20_1 (bt430.1 != t396) bt430.2.1 bt430.2.2.1 bt430.2.2.2.1 bt430.2.2.2.2.1 bt430.2.2.2.2.2.1 bt430.2.2.2.2.2.2 t396 t397 t398 t399 t400 t401)) else (signalmanlaw09_ConnDoes.j1 k1 l1 (l1.length : Int) x20_1 true bt423.2.1 bt423.2.2.1 bt423.2.2.2.1 bt423.2.2.2.2.1 bt423.2.2.2.2.2.1 bt423.2.2.2.2.2.2 t396 t397 t398 t399 t400 t401))) else (signalmanlaw09_ConnDoes.j1 k1 l1 (l1.length : Int) x20_1 true bt416.2.1 bt416.2.2.1 bt416.2.2.2.1 bt416.2.2.2.2.1 bt416.2.2.2.2.2.1 bt416.2.2.2.2.2.2 t396 t397 t398 t399 t400 t401))) else (signalmanlaw09_ConnDoes.j1 k1 l1 (l1.length : Int) x20_1 true bt409.2.1 bt409.2.2.1 bt409.2.2.2.1 bt409.2.2.2.2.1 bt409.2.2.2.2.2.1 bt409.2.2.2.2.2.2 t396 t397 t398 t399 t400 t401))) else (signalmanlaw09_ConnDoes.j1 k1 l1 (l1.length : Int) x20_1 true t403 t404 t405 t406 t407 t408 t396 t397 t398 t399 t400 t401)) = some r := H
          have A34 := Aside0.mk A340
          clear A340
          by_cases c35 : t402 = t397
          ·rw [if_pos c35] at H
           have c35b0 : (t402 == t397) = true := beq_iff_eq.mpr c35
           have c35b1 : (t402 != t397) = false := bne_eq_false_iff_eq.mpr c35
           clear c35
           (first | rw [c35b0] | (simp only [i64_w, i32_w]; rw [c35b0]) | skip)
           replace H := Option.bind_eq_some_iff.mp H
           obtain ⟨⟨t409, t410, t411, t412, t413, t414, t415⟩, A360, H⟩ := H
           replace H : (if t409 = t398 then ((conn_Conn_Flight.f t410 t411 t412 t413 t414 t415).bind fun bt416 => (if bt416.1 = t399 then ((conn_Conn_Sent.f bt416.2.1 bt416.2.2.1 bt416.2.2.2.1 bt416.2.2.2.2.1 bt416.2.2.2.2.2.1 bt416.2.2.2.2.2.2).bind fun bt423 => (if bt423.1 = t401 then ((conn_Conn_Epoch.f bt423.2.1 bt423.2.2.1 bt423.2.2.2.1 bt423.2.2.2.2.1 bt423.2.2.2.2.2.1 bt423.2.2.2.2.2.2).bind fun bt430 => (signalmanlaw09_ConnDoes.j1 k1 l1 (l1.length : Int) x20_1 (bt430.1 != t396) bt430.2.1 bt430.2.2.1 bt430.2.2.2.1 bt430.2.2.2.2.1 bt430.2.2.2.2.2.1 bt430.2.2.2.2.2.2 t396 t397 t398 t399 t400 t401)) else (signalmanlaw09_ConnDoes.j1 k1 l1 (l1.length : Int) x20_1 true bt423.2.1 bt423.2.2.1 bt423.2.2.2.1 bt423.2.2.2.2.1 bt423.2.2.2.2.2.1 bt423.2.2.2.2.2.2 t396 t397 t398 t399 t400 t401))) else (signalmanlaw09_ConnDoes.j1 k1 l1 (l1.length : Int) x20_1 true bt416.2.1 bt416.2.2.1 bt416.2.2.2.1 bt416.2.2.2.2.1 bt416.2.2.2.2.2.1 bt416.2.2.2.2.2.2 t396 t397 t398 t399 t400 t401))) else (signalmanlaw09_ConnDoes.j1 k1 l1 (l1.length : Int) x20_1 true t410 t411 t412 t413 t414 t415 t396 t397 t398 t399 t400 t401)) = some r := H
           have A36 := Aside0.mk A360
           clear A360
           by_cases c37 : t409 = t398
           ·rw [if_pos c37] at H
            have c37b0 : (t409 == t398) = true := beq_iff_eq.mpr c37
            have c37b1 : (t409 != t398) = false := bne_eq_false_iff_eq.mpr c37
            clear c37
            replace H := Option.bind_eq_some_iff.mp H
            obtain ⟨⟨t416, t417, t418, t419, t420, t421, t422⟩, A380, H⟩ := H
            replace H : (if t416 = t399 then ((conn_Conn_Sent.f t417 t418 t419 t420 t421 t422).bind fun bt423 => (if bt423.1 = t401 then ((conn_Conn_Epoch.f bt423.2.1 bt423.2.2.1 bt423.2.2.2.1 bt423.2.2.2.2.1 bt423.2.2.2.2.2.1 bt423.2.2.2.2.2.2).bind fun bt430 => (signalmanlaw09_ConnDoes.j1 k1 l1 (l1.length : Int) x20_1 (bt430.1 != t396) bt430.2.1 bt430.2.2.1 bt430.2.2.2.1 bt430.2.2.2.2.1 bt430.2.2.2.2.2.1 bt430.2.2.2.2.2.2 t396 t397 t398 t399 t400 t401)) else (signalmanlaw09_ConnDoes.j1 k1 l1 (l1.length : Int) x20_1 true bt423.2.1 bt423.2.2.1 bt423.2.2.2.1 bt423.2.2.2.2.1 bt423.2.2.2.2.2.1 bt423.2.2.2.2.2.2 t396 t397 t398 t399 t400 t401))) else (signalmanlaw09_ConnDoes.j1 k1 l1 (l1.length : Int) x20_1 true t417 t418 t419 t420 t421 t422 t396 t397 t398 t399 t400 t401)) = some r := H
            have A38 := Aside0.mk A380
            clear A380
            by_cases c39 : t416 = t399
            ·rw [if_pos c39] at H
             have c39b0 : (t416 == t399) = true := beq_iff_eq.mpr c39
             have c39b1 : (t416 != t399) = false := bne_eq_false_iff_eq.mpr c39
             clear c39
             replace H := Option.bind_eq_some_iff.mp H
             obtain ⟨⟨t423, t424, t425, t426, t427, t428, t429⟩, A400, H⟩ := H
             replace H : (if t423 = t401 then ((conn_Conn_Epoch.f t424 t425 t426 t427 t428 t429).bind fun bt430 => (signalmanlaw09_ConnDoes.j1 k1 l1 (l1.length : Int) x20_1 (bt430.1 != t396) bt430.2.1 bt430.2.2.1 bt430.2.2.2.1 bt430.2.2.2.2.1 bt430.2.2.2.2.2.1 bt430.2.2.2.2.2.2 t396 t397 t398 t399 t400 t401)) else (signalmanlaw09_ConnDoes.j1 k1 l1 (l1.length : Int) x20_1 true t424 t425 t426 t427 t428 t429 t396 t397 t398 t399 t400 t401)) = some r := H
             have A40 := Aside0.mk A400
             clear A400
             by_cases c41 : t423 = t401
             ·rw [if_pos c41] at H
              have c41b0 : (t423 == t401) = true := beq_iff_eq.mpr c41
              have c41b1 : (t423 != t401) = false := bne_eq_false_iff_eq.mpr c41
              clear c41
              replace H := Option.bind_eq_some_iff.mp H
              obtain ⟨⟨t430, t431, t432, t433, t434, t435, t436⟩, A420, H⟩ := H
              replace H : (signalmanlaw09_ConnDoes.j1 k1 l1 (l1.length : Int) x20_1 (t430 != t396) t431 t432 t433 t434 t435 t436 t396 t397 t398 t399 t400 t401) = some r := H
              have A42 := Aside0.mk A420
              clear A420
              have H' := Aside0.mk H
              clear H
              try go_wp2
              have n0_ := Aside0.mk (blk_drew BK383.out)
              have n1_ := Aside0.mk (IsS137.drew HI374.out)
              have n2_ := Aside0.mk (IsS109.drew HI381.out)
              have n3_ := Aside0.mk (below_drew1 HB.out)
              clear BK383
              clear HI374
              clear HI381
              clear HB
              have BK383 := n0_
              have HI374 := n1_
              have HI381 := n2_
              have HB := n3_
              clear n0_ n1_ n2_ n3_
              refine start_ (n := 43) (S := fun w' => w'.cell? ⟨g381, 0, none⟩ = some (.int .u64 t396) ∧ w'.cell? ⟨g381, 1, none⟩ = some (.int .i64 t397) ∧ w'.cell? ⟨g381, 2, none⟩ = some (.int .i64 t398) ∧ w'.cell? ⟨g381, 3, none⟩ = some (.int .u64 t399) ∧ w'.cell? ⟨g381, 4, none⟩ = some (.bool t400) ∧ w'.cell? ⟨g381, 5, none⟩ = some (.int .i64 t401)) (ds := []) m0 (by kernel_rfl) rfl rfl ⟨(blk_cell (Aside0.mk HI381.out.1).out 0).trans rfl, (blk_cell (Aside0.mk HI381.out.1).out 1).trans rfl, (blk_cell (Aside0.mk HI381.out.1).out 2).trans rfl, (blk_cell (Aside0.mk HI381.out.1).out 3).trans rfl, (blk_cell (Aside0.mk HI381.out.1).out 4).trans rfl, (blk_cell (Aside0.mk HI381.out.1).out 5).trans rfl⟩ (fun hHeld => ?_); refine with_tabW signalmanlaw09_ConnDoes.tab11 signalmanlaw09_ConnDoes.bits11 (fun HT_ HW_ => ?_)
              generalize w33.drew = w43 at BK383 HI374 HI381 HB hHeld ⊢
              refine pure_ (i := 0) (N := some 31) (v := ?_) (a' := ?_) m1 rfl rfl (any_of HT_.out (by kernel_rfl)) (fun _ _ _ h => h) (Or.inl ⟨by rfl, ?_⟩) ?_ ?_
              rotate_left
              ·intro w'
               go_simp
               with_reducible rfl
              rotate_left
              ·simp only [Act.put, List.setIfInBounds_toArray, List.set_cons_zero, List.set_cons_succ, i64_w, i32_w]
               rfl
              refine pure_ (i := 2) (N := some 33) (v := ?_) (a' := ?_) m2 rfl rfl (any_of HT_.out (by kernel_rfl)) (fun _ _ _ h => h) (Or.inl ⟨by rfl, ?_⟩) ?_ ?_
              rotate_left
              ·intro w'
               go_simp
               with_reducible rfl
              rotate_left
              ·simp only [Act.put, List.setIfInBounds_toArray, List.set_cons_zero, List.set_cons_succ, i64_w, i32_w]
               rfl
              refine pure_ (i := 3) (N := some 34) (v := ?_) (a' := ?_) m3 rfl rfl (any_of HT_.out (by kernel_rfl)) (fun _ _ _ h => h) (Or.inl ⟨by rfl, ?_⟩) ?_ ?_
              rotate_left
              ·intro w'
               go_simp
               with_reducible rfl
              rotate_left
              ·simp only [Act.put, List.setIfInBounds_toArray, List.set_cons_zero, List.set_cons_succ, i64_w, i32_w]
               rfl
              refine pure_ (i := 4) (N := some 35) (v := ?_) (a' := ?_) m4 rfl rfl (any_of HT_.out (by kernel_rfl)) (fun _ _ _ h => h) (Or.inl ⟨by rfl, ?_⟩) ?_ ?_
              rotate_left
              ·intro w'
               go_simp
               with_reducible rfl
              rotate_left
              ·simp only [Act.put, List.setIfInBounds_toArray, List.set_cons_zero, List.set_cons_succ, i64_w, i32_w]
               rfl
              refine take_ (i := 5) (N := some 36) (v := ?_) (a' := ?_) m5 rfl rfl (take_ofW HT_.out HW_.out (by kernel_rfl)) (fun _ _ _ h => h) (Or.inl ⟨by rfl, ?_⟩) hHeld ?_ ?_
              rotate_left
              ·rintro w' ⟨s0, s1, s2, s3, s4, s5⟩
               go_simp
               with_reducible rfl
              rotate_left
              ·simp only [Act.put, List.setIfInBounds_toArray, List.set_cons_zero, List.set_cons_succ, i64_w, i32_w]
               rfl
              refine one_ (i := 1) (N := some 32) m6 rfl rfl (one_of HT_.out (by kernel_rfl)) (by decide) (fun K hK => ?_)
              refine goes_ Try.func55 (by kernel_rfl) rfl #[.pointer (some ⟨g374, 0, none⟩)] (by rfl) rfl rfl (by (try simp only [List.map_toArray, List.map_cons, List.map_nil]); first | done | rfl | (simp only [List.length_drop, List.length_take]; rfl)) ?_
              with_reducible refine (conn_Conn_State.calls g374 t387 t388 t389 t390 t391 t392 t402 t403 t404 t405 t406 t407 t408 w _ ?side1 ?side2 (by first | exact A34.out | (have h_ := A34.out; exact h_))).mono ?_
              (case side1 => repeat (first | (with_reducible first | exact HI374.out | apply ta | apply tn | apply td | apply t0 | apply t1 | apply t2 | apply t3 | apply t4 | apply t5 | refine tf ?_ NB374_383.out _) | exact HI374.out))
              (case side2 => repeat (first | (with_reducible first | exact HB.out | apply below_alloc | apply pw_below_drewN | apply below_drew1 | refine below_set ?_ (IsS137.ge HI374.out) | refine below_set ?_ (IsS109.ge HI381.out) | refine below_set ?_ GE383.out) | exact HB.out))
              rintro e w44 ⟨rfl, hi, hb, hk⟩
              refine ⟨_, rfl, ?_⟩
              have n0_ := Aside0.mk ((IsS109.but (show IsS109 w _ g381 t396 t397 t398 t399 t400 t401 from by repeat (first | (with_reducible first | exact HI381.out | apply sa | apply sn | apply sd | apply s0 | apply s1 | apply s2 | apply s3 | apply s4 | apply s5 | refine sf ?_ NB381_383.out _) | exact HI381.out)) (show IsS137 w _ g374 t387 t388 t389 t390 t391 t392 from by repeat (first | (with_reducible first | exact HI374.out | apply ta | apply tn | apply td | apply t0 | apply t1 | apply t2 | apply t3 | apply t4 | apply t5 | refine tf ?_ NB374_383.out _) | exact HI374.out)).1 (by decide) hk (by simp)))
              have n1_ := Aside0.mk (KeepBut.blk hk (g' := gb383) (o := .cells #[.int .i64 ((rd_T102 l1 x20_1).f0), .int .i64 ((rd_T102 l1 x20_1).f1), .int .u64 ((rd_T102 l1 x20_1).f2)] 102 (0, 0)) (by (with_reducible repeat (first | refine blk_drewN ?_ _ | refine blk_drew ?_ | refine blk_alloc ?_ _)); exact BK383.out) NB383_374.out (by simp))
              have n2_ := Aside0.mk (hb)
              have n3_ := Aside0.mk (hi)
              clear HI381
              clear BK383
              clear HB
              clear HI374
              have HI381 := n0_
              have BK383 := n1_
              have HB := n2_
              have HI374 := n3_
              clear n0_ n1_ n2_ n3_
              (try clear hb)
              (try clear hb2)
              (try clear hk)
              (try clear hi)
              refine hK.out _ _ ⟨(blk_cell (Aside0.mk HI381.out.1).out 0).trans rfl, (blk_cell (Aside0.mk HI381.out.1).out 1).trans rfl, (blk_cell (Aside0.mk HI381.out.1).out 2).trans rfl, (blk_cell (Aside0.mk HI381.out.1).out 3).trans rfl, (blk_cell (Aside0.mk HI381.out.1).out 4).trans rfl, (blk_cell (Aside0.mk HI381.out.1).out 5).trans rfl⟩ (fun hHeld => ?_)
              clear hK K
              refine norm_ (a' := ?_) ?_ ?_
              rotate_left
              ·show Act.put _ (some 32) _ = _
               simp only [Act.put, List.setIfInBounds_toArray, List.set_cons_zero, List.set_cons_succ, i64_w, i32_w]
               rfl
              refine pure_ (i := 6) (N := some 37) (v := ?_) (a' := ?_) m7 rfl rfl (any_of HT_.out (by kernel_rfl)) (fun _ _ _ h => h) (Or.inl ⟨by rfl, ?_⟩) ?_ ?_
              rotate_left
              ·intro w'
               go_simp
               with_reducible rfl
              rotate_left
              ·simp only [Act.put, List.setIfInBounds_toArray, List.set_cons_zero, List.set_cons_succ, i64_w, i32_w]
               rfl
              refine pure_ (i := 7) (N := some 38) (v := ?_) (a' := ?_) m8 rfl rfl (any_of HT_.out (by kernel_rfl)) (fun _ _ _ h => h) (Or.inl ⟨by rfl, ?_⟩) ?_ ?_
              rotate_left
              ·intro w'
               go_simp
               with_reducible rfl
              rotate_left
              ·simp only [Act.put, List.setIfInBounds_toArray, List.set_cons_zero, List.set_cons_succ, i64_w, i32_w]
               rfl
              refine pure_ (i := 8) (N := some 39) (v := ?_) (a' := ?_) m9 rfl rfl (any_of HT_.out (by kernel_rfl)) (fun _ _ _ h => h) (Or.inl ⟨by rfl, ?_⟩) ?_ ?_
              rotate_left
              ·intro w'
               go_simp
               with_reducible rfl
              rotate_left
              ·simp only [Act.put, List.setIfInBounds_toArray, List.set_cons_zero, List.set_cons_succ, i64_w, i32_w]
               rfl
              refine pure_ (i := 10) (N := some 41) (v := ?_) (a' := ?_) m10 rfl rfl (any_of HT_.out (by kernel_rfl)) (fun _ _ _ h => h) (Or.inl ⟨by rfl, ?_⟩) ?_ ?_
              rotate_left
              ·intro w'
               go_simp
               with_reducible rfl
              rotate_left
              ·simp only [Act.put, List.setIfInBounds_toArray, List.set_cons_zero, List.set_cons_succ, i64_w, i32_w]
               rfl
              refine pure_ (i := 11) (N := some 42) (v := ?_) (a' := ?_) m11 rfl rfl (any_of HT_.out (by kernel_rfl)) (fun _ _ _ h => h) (Or.inl ⟨by rfl, ?_⟩) ?_ ?_
              rotate_left
              ·intro w'
               go_simp
               with_reducible rfl
              rotate_left
              ·simp only [Act.put, List.setIfInBounds_toArray, List.set_cons_zero, List.set_cons_succ, i64_w, i32_w]
               rfl
              refine pure_ (i := 12) (N := some 43) (v := ?_) (a' := ?_) m12 rfl rfl (any_of HT_.out (by kernel_rfl)) (fun _ _ _ h => h) (Or.inl ⟨by rfl, ?_⟩) ?_ ?_
              rotate_left
              ·intro w'
               go_simp
               with_reducible rfl
              rotate_left
              ·simp only [Act.put, List.setIfInBounds_toArray, List.set_cons_zero, List.set_cons_succ, i64_w, i32_w]
               rfl
              refine take_ (i := 13) (N := some 44) (v := ?_) (a' := ?_) m13 rfl rfl (take_ofW HT_.out HW_.out (by kernel_rfl)) (fun _ _ _ h => h) (Or.inl ⟨by rfl, ?_⟩) hHeld ?_ ?_
              rotate_left
              ·rintro w' ⟨s0, s1, s2, s3, s4, s5⟩
               go_simp
               with_reducible rfl
              rotate_left
              ·simp only [Act.put, List.setIfInBounds_toArray, List.set_cons_zero, List.set_cons_succ, i64_w, i32_w]
               rfl
              refine one_ (i := 9) (N := some 40) m14 rfl rfl (one_of HT_.out (by kernel_rfl)) (by decide) (fun K hK => ?_)
              refine goes_ Try.func56 (by kernel_rfl) rfl #[.pointer (some ⟨g374, 0, none⟩)] (by rfl) rfl rfl (by (try simp only [List.map_toArray, List.map_cons, List.map_nil]); first | done | rfl | (simp only [List.length_drop, List.length_take]; rfl)) ?_
              with_reducible refine (conn_Conn_Owner.calls g374 t403 t404 t405 t406 t407 t408 t409 t410 t411 t412 t413 t414 t415 w _ ?side1 ?side2 (by first | exact A36.out | (have h_ := A36.out; exact h_))).mono ?_
              (case side1 => repeat (first | (with_reducible first | exact HI374.out | apply ta | apply tn | apply td | apply t0 | apply t1 | apply t2 | apply t3 | apply t4 | apply t5 | refine tf ?_ NB374_383.out _) | exact HI374.out))
              (case side2 => repeat (first | (with_reducible first | exact HB.out | apply below_alloc | apply pw_below_drewN | apply below_drew1 | refine below_set ?_ (IsS137.ge HI374.out) | refine below_set ?_ (IsS109.ge HI381.out) | refine below_set ?_ GE383.out) | exact HB.out))
              rintro e w45 ⟨rfl, hi, hb, hk⟩
              refine ⟨_, rfl, ?_⟩
              have n0_ := Aside0.mk ((IsS109.but (show IsS109 w _ g381 t396 t397 t398 t399 t400 t401 from by repeat (first | (with_reducible first | exact HI381.out | apply sa | apply sn | apply sd | apply s0 | apply s1 | apply s2 | apply s3 | apply s4 | apply s5 | refine sf ?_ NB381_383.out _) | exact HI381.out)) (show IsS137 w _ g374 t403 t404 t405 t406 t407 t408 from by repeat (first | (with_reducible first | exact HI374.out | apply ta | apply tn | apply td | apply t0 | apply t1 | apply t2 | apply t3 | apply t4 | apply t5 | refine tf ?_ NB374_383.out _) | exact HI374.out)).1 (by decide) hk (by simp)))
              have n1_ := Aside0.mk (KeepBut.blk hk (g' := gb383) (o := .cells #[.int .i64 ((rd_T102 l1 x20_1).f0), .int .i64 ((rd_T102 l1 x20_1).f1), .int .u64 ((rd_T102 l1 x20_1).f2)] 102 (0, 0)) (by (with_reducible repeat (first | refine blk_drewN ?_ _ | refine blk_drew ?_ | refine blk_alloc ?_ _)); exact BK383.out) NB383_374.out (by simp))
              have n2_ := Aside0.mk (hb)
              have n3_ := Aside0.mk (hi)
              clear HI381
              clear BK383
              clear HB
              clear HI374
              have HI381 := n0_
              have BK383 := n1_
              have HB := n2_
              have HI374 := n3_
              clear n0_ n1_ n2_ n3_
              (try clear hb)
              (try clear hb2)
              (try clear hk)
              (try clear hi)
              refine hK.out _ _ ⟨(blk_cell (Aside0.mk HI381.out.1).out 0).trans rfl, (blk_cell (Aside0.mk HI381.out.1).out 1).trans rfl, (blk_cell (Aside0.mk HI381.out.1).out 2).trans rfl, (blk_cell (Aside0.mk HI381.out.1).out 3).trans rfl, (blk_cell (Aside0.mk HI381.out.1).out 4).trans rfl, (blk_cell (Aside0.mk HI381.out.1).out 5).trans rfl⟩ (fun hHeld => ?_)
              clear hK K
              refine norm_ (a' := ?_) ?_ ?_
              rotate_left
              ·show Act.put _ (some 40) _ = _
               simp only [Act.put, List.setIfInBounds_toArray, List.set_cons_zero, List.set_cons_succ, i64_w, i32_w]
               rfl
              refine pure_ (i := 14) (N := some 45) (v := ?_) (a' := ?_) m15 rfl rfl (any_of HT_.out (by kernel_rfl)) (fun _ _ _ h => h) (Or.inl ⟨by rfl, ?_⟩) ?_ ?_
              rotate_left
              ·intro w'
               go_simp
               with_reducible rfl
              rotate_left
              ·simp only [Act.put, List.setIfInBounds_toArray, List.set_cons_zero, List.set_cons_succ, i64_w, i32_w]
               rfl
              refine pure_ (i := 15) (N := some 46) (v := ?_) (a' := ?_) m16 rfl rfl (any_of HT_.out (by kernel_rfl)) (fun _ _ _ h => h) (Or.inl ⟨by rfl, ?_⟩) ?_ ?_
              rotate_left
              ·intro w'
               go_simp
               with_reducible rfl
              rotate_left
              ·simp only [Act.put, List.setIfInBounds_toArray, List.set_cons_zero, List.set_cons_succ, i64_w, i32_w]
               rfl
              refine pure_ (i := 16) (N := some 47) (v := ?_) (a' := ?_) m17 rfl rfl (any_of HT_.out (by kernel_rfl)) (fun _ _ _ h => h) (Or.inl ⟨by rfl, ?_⟩) ?_ ?_
              rotate_left
              ·intro w'
               go_simp
               with_reducible rfl
              rotate_left
              ·simp only [Act.put, List.setIfInBounds_toArray, List.set_cons_zero, List.set_cons_succ, i64_w, i32_w]
               rfl
              refine pure_ (i := 17) (N := some 48) (v := ?_) (a' := ?_) m18 rfl rfl (any_of HT_.out (by kernel_rfl)) (fun _ _ _ h => h) (Or.inl ⟨by rfl, ?_⟩) ?_ ?_
              rotate_left
              ·intro w'
               go_simp
               with_reducible rfl
              rotate_left
              ·simp only [Act.put, List.setIfInBounds_toArray, List.set_cons_zero, List.set_cons_succ, i64_w, i32_w]
               rfl
              refine pure_ (i := 19) (N := some 50) (v := ?_) (a' := ?_) m19 rfl rfl (any_of HT_.out (by kernel_rfl)) (fun _ _ _ h => h) (Or.inl ⟨by rfl, ?_⟩) ?_ ?_
              rotate_left
              ·intro w'
               go_simp
               with_reducible rfl
              rotate_left
              ·simp only [Act.put, List.setIfInBounds_toArray, List.set_cons_zero, List.set_cons_succ, i64_w, i32_w]
               rfl
              refine pure_ (i := 20) (N := some 51) (v := ?_) (a' := ?_) m20 rfl rfl (any_of HT_.out (by kernel_rfl)) (fun _ _ _ h => h) (Or.inl ⟨by rfl, ?_⟩) ?_ ?_
              rotate_left
              ·intro w'
               go_simp
               with_reducible rfl
              rotate_left
              ·simp only [Act.put, List.setIfInBounds_toArray, List.set_cons_zero, List.set_cons_succ, i64_w, i32_w]
               rfl
              refine pure_ (i := 21) (N := some 52) (v := ?_) (a' := ?_) m21 rfl rfl (any_of HT_.out (by kernel_rfl)) (fun _ _ _ h => h) (Or.inl ⟨by rfl, ?_⟩) ?_ ?_
              rotate_left
              ·intro w'
               go_simp
               with_reducible rfl
              rotate_left
              ·simp only [Act.put, List.setIfInBounds_toArray, List.set_cons_zero, List.set_cons_succ, i64_w, i32_w]
               rfl
              refine take_ (i := 22) (N := some 53) (v := ?_) (a' := ?_) m22 rfl rfl (take_ofW HT_.out HW_.out (by kernel_rfl)) (fun _ _ _ h => h) (Or.inl ⟨by rfl, ?_⟩) hHeld ?_ ?_
              rotate_left
              ·rintro w' ⟨s0, s1, s2, s3, s4, s5⟩
               go_simp
               with_reducible rfl
              rotate_left
              ·simp only [Act.put, List.setIfInBounds_toArray, List.set_cons_zero, List.set_cons_succ, i64_w, i32_w]
               rfl
              refine one_ (i := 18) (N := some 49) m23 rfl rfl (one_of HT_.out (by kernel_rfl)) (by decide) (fun K hK => ?_)
              refine goes_ Try.func57 (by kernel_rfl) rfl #[.pointer (some ⟨g374, 0, none⟩)] (by rfl) rfl rfl (by (try simp only [List.map_toArray, List.map_cons, List.map_nil]); first | done | rfl | (simp only [List.length_drop, List.length_take]; rfl)) ?_
              with_reducible refine (conn_Conn_Flight.calls g374 t410 t411 t412 t413 t414 t415 t416 t417 t418 t419 t420 t421 t422 w _ ?side1 ?side2 (by first | exact A38.out | (have h_ := A38.out; exact h_))).mono ?_
              (case side1 => repeat (first | (with_reducible first | exact HI374.out | apply ta | apply tn | apply td | apply t0 | apply t1 | apply t2 | apply t3 | apply t4 | apply t5 | refine tf ?_ NB374_383.out _) | exact HI374.out))
              (case side2 => repeat (first | (with_reducible first | exact HB.out | apply below_alloc | apply pw_below_drewN | apply below_drew1 | refine below_set ?_ (IsS137.ge HI374.out) | refine below_set ?_ (IsS109.ge HI381.out) | refine below_set ?_ GE383.out) | exact HB.out))
              rintro e w46 ⟨rfl, hi, hb, hk⟩
              refine ⟨_, rfl, ?_⟩
              have n0_ := Aside0.mk ((IsS109.but (show IsS109 w _ g381 t396 t397 t398 t399 t400 t401 from by repeat (first | (with_reducible first | exact HI381.out | apply sa | apply sn | apply sd | apply s0 | apply s1 | apply s2 | apply s3 | apply s4 | apply s5 | refine sf ?_ NB381_383.out _) | exact HI381.out)) (show IsS137 w _ g374 t410 t411 t412 t413 t414 t415 from by repeat (first | (with_reducible first | exact HI374.out | apply ta | apply tn | apply td | apply t0 | apply t1 | apply t2 | apply t3 | apply t4 | apply t5 | refine tf ?_ NB374_383.out _) | exact HI374.out)).1 (by decide) hk (by simp)))
              have n1_ := Aside0.mk (KeepBut.blk hk (g' := gb383) (o := .cells #[.int .i64 ((rd_T102 l1 x20_1).f0), .int .i64 ((rd_T102 l1 x20_1).f1), .int .u64 ((rd_T102 l1 x20_1).f2)] 102 (0, 0)) (by (with_reducible repeat (first | refine blk_drewN ?_ _ | refine blk_drew ?_ | refine blk_alloc ?_ _)); exact BK383.out) NB383_374.out (by simp))
              have n2_ := Aside0.mk (hb)
              have n3_ := Aside0.mk (hi)
              clear HI381
              clear BK383
              clear HB
              clear HI374
              have HI381 := n0_
              have BK383 := n1_
              have HB := n2_
              have HI374 := n3_
              clear n0_ n1_ n2_ n3_
              (try clear hb)
              (try clear hb2)
              (try clear hk)
              (try clear hi)
              refine hK.out _ _ ⟨(blk_cell (Aside0.mk HI381.out.1).out 0).trans rfl, (blk_cell (Aside0.mk HI381.out.1).out 1).trans rfl, (blk_cell (Aside0.mk HI381.out.1).out 2).trans rfl, (blk_cell (Aside0.mk HI381.out.1).out 3).trans rfl, (blk_cell (Aside0.mk HI381.out.1).out 4).trans rfl, (blk_cell (Aside0.mk HI381.out.1).out 5).trans rfl⟩ (fun hHeld => ?_)
              clear hK K
              refine norm_ (a' := ?_) ?_ ?_
              rotate_left
              ·show Act.put _ (some 49) _ = _
               simp only [Act.put, List.setIfInBounds_toArray, List.set_cons_zero, List.set_cons_succ, i64_w, i32_w]
               rfl
              refine pure_ (i := 23) (N := some 54) (v := ?_) (a' := ?_) m24 rfl rfl (any_of HT_.out (by kernel_rfl)) (fun _ _ _ h => h) (Or.inl ⟨by rfl, ?_⟩) ?_ ?_
              rotate_left
              ·intro w'
               go_simp
               with_reducible rfl
              rotate_left
              ·simp only [Act.put, List.setIfInBounds_toArray, List.set_cons_zero, List.set_cons_succ, i64_w, i32_w]
               rfl
              refine pure_ (i := 24) (N := some 55) (v := ?_) (a' := ?_) m25 rfl rfl (any_of HT_.out (by kernel_rfl)) (fun _ _ _ h => h) (Or.inl ⟨by rfl, ?_⟩) ?_ ?_
              rotate_left
              ·intro w'
               go_simp
               with_reducible rfl
              rotate_left
              ·simp only [Act.put, List.setIfInBounds_toArray, List.set_cons_zero, List.set_cons_succ, i64_w, i32_w]
               rfl
              refine pure_ (i := 25) (N := some 56) (v := ?_) (a' := ?_) m26 rfl rfl (any_of HT_.out (by kernel_rfl)) (fun _ _ _ h => h) (Or.inl ⟨by rfl, ?_⟩) ?_ ?_
              rotate_left
              ·intro w'
               go_simp
               with_reducible rfl
              rotate_left
              ·simp only [Act.put, List.setIfInBounds_toArray, List.set_cons_zero, List.set_cons_succ, i64_w, i32_w]
               rfl
              refine pure_ (i := 26) (N := some 57) (v := ?_) (a' := ?_) m27 rfl rfl (any_of HT_.out (by kernel_rfl)) (fun _ _ _ h => h) (Or.inl ⟨by rfl, ?_⟩) ?_ ?_
              rotate_left
              ·intro w'
               go_simp
               with_reducible rfl
              rotate_left
              ·simp only [Act.put, List.setIfInBounds_toArray, List.set_cons_zero, List.set_cons_succ, i64_w, i32_w]
               rfl
              refine pure_ (i := 28) (N := some 59) (v := ?_) (a' := ?_) m28 rfl rfl (any_of HT_.out (by kernel_rfl)) (fun _ _ _ h => h) (Or.inl ⟨by rfl, ?_⟩) ?_ ?_
              rotate_left
              ·intro w'
               go_simp
               with_reducible rfl
              rotate_left
              ·simp only [Act.put, List.setIfInBounds_toArray, List.set_cons_zero, List.set_cons_succ, i64_w, i32_w]
               rfl
              refine pure_ (i := 29) (N := some 60) (v := ?_) (a' := ?_) m29 rfl rfl (any_of HT_.out (by kernel_rfl)) (fun _ _ _ h => h) (Or.inl ⟨by rfl, ?_⟩) ?_ ?_
              rotate_left
              ·intro w'
               go_simp
               with_reducible rfl
              rotate_left
              ·simp only [Act.put, List.setIfInBounds_toArray, List.set_cons_zero, List.set_cons_succ, i64_w, i32_w]
               rfl
              refine pure_ (i := 30) (N := some 61) (v := ?_) (a' := ?_) m30 rfl rfl (any_of HT_.out (by kernel_rfl)) (fun _ _ _ h => h) (Or.inl ⟨by rfl, ?_⟩) ?_ ?_
              rotate_left
              ·intro w'
               go_simp
               with_reducible rfl
              rotate_left
              ·simp only [Act.put, List.setIfInBounds_toArray, List.set_cons_zero, List.set_cons_succ, i64_w, i32_w]
               rfl
              refine take_ (i := 31) (N := some 62) (v := ?_) (a' := ?_) m31 rfl rfl (take_ofW HT_.out HW_.out (by kernel_rfl)) (fun _ _ _ h => h) (Or.inl ⟨by rfl, ?_⟩) hHeld ?_ ?_
              rotate_left
              ·rintro w' ⟨s0, s1, s2, s3, s4, s5⟩
               go_simp
               with_reducible rfl
              rotate_left
              ·simp only [Act.put, List.setIfInBounds_toArray, List.set_cons_zero, List.set_cons_succ, i64_w, i32_w]
               rfl
              refine one_ (i := 27) (N := some 58) m32 rfl rfl (one_of HT_.out (by kernel_rfl)) (by decide) (fun K hK => ?_)
              refine goes_ Try.func58 (by kernel_rfl) rfl #[.pointer (some ⟨g374, 0, none⟩)] (by rfl) rfl rfl (by (try simp only [List.map_toArray, List.map_cons, List.map_nil]); first | done | rfl | (simp only [List.length_drop, List.length_take]; rfl)) ?_
              with_reducible refine (conn_Conn_Sent.calls g374 t417 t418 t419 t420 t421 t422 t423 t424 t425 t426 t427 t428 t429 w _ ?side1 ?side2 (by first | exact A40.out | (have h_ := A40.out; exact h_))).mono ?_
              (case side1 => repeat (first | (with_reducible first | exact HI374.out | apply ta | apply tn | apply td | apply t0 | apply t1 | apply t2 | apply t3 | apply t4 | apply t5 | refine tf ?_ NB374_383.out _) | exact HI374.out))
              (case side2 => repeat (first | (with_reducible first | exact HB.out | apply below_alloc | apply pw_below_drewN | apply below_drew1 | refine below_set ?_ (IsS137.ge HI374.out) | refine below_set ?_ (IsS109.ge HI381.out) | refine below_set ?_ GE383.out) | exact HB.out))
              rintro e w47 ⟨rfl, hi, hb, hk⟩
              refine ⟨_, rfl, ?_⟩
              have n0_ := Aside0.mk ((IsS109.but (show IsS109 w _ g381 t396 t397 t398 t399 t400 t401 from by repeat (first | (with_reducible first | exact HI381.out | apply sa | apply sn | apply sd | apply s0 | apply s1 | apply s2 | apply s3 | apply s4 | apply s5 | refine sf ?_ NB381_383.out _) | exact HI381.out)) (show IsS137 w _ g374 t417 t418 t419 t420 t421 t422 from by repeat (first | (with_reducible first | exact HI374.out | apply ta | apply tn | apply td | apply t0 | apply t1 | apply t2 | apply t3 | apply t4 | apply t5 | refine tf ?_ NB374_383.out _) | exact HI374.out)).1 (by decide) hk (by simp)))
              have n1_ := Aside0.mk (KeepBut.blk hk (g' := gb383) (o := .cells #[.int .i64 ((rd_T102 l1 x20_1).f0), .int .i64 ((rd_T102 l1 x20_1).f1), .int .u64 ((rd_T102 l1 x20_1).f2)] 102 (0, 0)) (by (with_reducible repeat (first | refine blk_drewN ?_ _ | refine blk_drew ?_ | refine blk_alloc ?_ _)); exact BK383.out) NB383_374.out (by simp))
              have n2_ := Aside0.mk (hb)
              have n3_ := Aside0.mk (hi)
              clear HI381
              clear BK383
              clear HB
              clear HI374
              have HI381 := n0_
              have BK383 := n1_
              have HB := n2_
              have HI374 := n3_
              clear n0_ n1_ n2_ n3_
              (try clear hb)
              (try clear hb2)
              (try clear hk)
              (try clear hi)
              refine hK.out _ _ ⟨(blk_cell (Aside0.mk HI381.out.1).out 0).trans rfl, (blk_cell (Aside0.mk HI381.out.1).out 1).trans rfl, (blk_cell (Aside0.mk HI381.out.1).out 2).trans rfl, (blk_cell (Aside0.mk HI381.out.1).out 3).trans rfl, (blk_cell (Aside0.mk HI381.out.1).out 4).trans rfl, (blk_cell (Aside0.mk HI381.out.1).out 5).trans rfl⟩ (fun hHeld => ?_)
              clear hK K
              refine norm_ (a' := ?_) ?_ ?_
              rotate_left
              ·show Act.put _ (some 58) _ = _
               simp only [Act.put, List.setIfInBounds_toArray, List.set_cons_zero, List.set_cons_succ, i64_w, i32_w]
               rfl
              refine pure_ (i := 32) (N := some 63) (v := ?_) (a' := ?_) m33 rfl rfl (any_of HT_.out (by kernel_rfl)) (fun _ _ _ h => h) (Or.inl ⟨by rfl, ?_⟩) ?_ ?_
              rotate_left
              ·intro w'
               go_simp
               with_reducible rfl
              rotate_left
              ·simp only [Act.put, List.setIfInBounds_toArray, List.set_cons_zero, List.set_cons_succ, i64_w, i32_w]
               rfl
              refine pure_ (i := 33) (N := some 64) (v := ?_) (a' := ?_) m34 rfl rfl (any_of HT_.out (by kernel_rfl)) (fun _ _ _ h => h) (Or.inl ⟨by rfl, ?_⟩) ?_ ?_
              rotate_left
              ·intro w'
               go_simp
               with_reducible rfl
              rotate_left
              ·simp only [Act.put, List.setIfInBounds_toArray, List.set_cons_zero, List.set_cons_succ, i64_w, i32_w]
               rfl
              refine pure_ (i := 34) (N := some 65) (v := ?_) (a' := ?_) m35 rfl rfl (any_of HT_.out (by kernel_rfl)) (fun _ _ _ h => h) (Or.inl ⟨by rfl, ?_⟩) ?_ ?_
              rotate_left
              ·intro w'
               go_simp
               with_reducible rfl
              rotate_left
              ·simp only [Act.put, List.setIfInBounds_toArray, List.set_cons_zero, List.set_cons_succ, i64_w, i32_w]
               rfl
              refine pure_ (i := 35) (N := some 66) (v := ?_) (a' := ?_) m36 rfl rfl (any_of HT_.out (by kernel_rfl)) (fun _ _ _ h => h) (Or.inl ⟨by rfl, ?_⟩) ?_ ?_
              rotate_left
              ·intro w'
               go_simp
               with_reducible rfl
              rotate_left
              ·simp only [Act.put, List.setIfInBounds_toArray, List.set_cons_zero, List.set_cons_succ, i64_w, i32_w]
               rfl
              refine pure_ (i := 37) (N := some 68) (v := ?_) (a' := ?_) m37 rfl rfl (any_of HT_.out (by kernel_rfl)) (fun _ _ _ h => h) (Or.inl ⟨by rfl, ?_⟩) ?_ ?_
              rotate_left
              ·intro w'
               go_simp
               with_reducible rfl
              rotate_left
              ·simp only [Act.put, List.setIfInBounds_toArray, List.set_cons_zero, List.set_cons_succ, i64_w, i32_w]
               rfl
              refine pure_ (i := 38) (N := some 69) (v := ?_) (a' := ?_) m38 rfl rfl (any_of HT_.out (by kernel_rfl)) (fun _ _ _ h => h) (Or.inl ⟨by rfl, ?_⟩) ?_ ?_
              rotate_left
              ·intro w'
               go_simp
               with_reducible rfl
              rotate_left
              ·simp only [Act.put, List.setIfInBounds_toArray, List.set_cons_zero, List.set_cons_succ, i64_w, i32_w]
               rfl
              refine pure_ (i := 39) (N := some 70) (v := ?_) (a' := ?_) m39 rfl rfl (any_of HT_.out (by kernel_rfl)) (fun _ _ _ h => h) (Or.inl ⟨by rfl, ?_⟩) ?_ ?_
              rotate_left
              ·intro w'
               go_simp
               with_reducible rfl
              rotate_left
              ·simp only [Act.put, List.setIfInBounds_toArray, List.set_cons_zero, List.set_cons_succ, i64_w, i32_w]
               rfl
              refine take_ (i := 40) (N := some 71) (v := ?_) (a' := ?_) m40 rfl rfl (take_ofW HT_.out HW_.out (by kernel_rfl)) (fun _ _ _ h => h) (Or.inl ⟨by rfl, ?_⟩) hHeld ?_ ?_
              rotate_left
              ·rintro w' ⟨s0, s1, s2, s3, s4, s5⟩
               go_simp
               with_reducible rfl
              rotate_left
              ·simp only [Act.put, List.setIfInBounds_toArray, List.set_cons_zero, List.set_cons_succ, i64_w, i32_w]
               rfl
              refine one_ (i := 36) (N := some 67) m41 rfl rfl (one_of HT_.out (by kernel_rfl)) (by decide) (fun K hK => ?_)
              refine goes_ Try.func59 (by kernel_rfl) rfl #[.pointer (some ⟨g374, 0, none⟩)] (by rfl) rfl rfl (by (try simp only [List.map_toArray, List.map_cons, List.map_nil]); first | done | rfl | (simp only [List.length_drop, List.length_take]; rfl)) ?_
              with_reducible refine (conn_Conn_Epoch.calls g374 t424 t425 t426 t427 t428 t429 t430 t431 t432 t433 t434 t435 t436 w _ ?side1 ?side2 (by first | exact A42.out | (have h_ := A42.out; exact h_))).mono ?_
              (case side1 => repeat (first | (with_reducible first | exact HI374.out | apply ta | apply tn | apply td | apply t0 | apply t1 | apply t2 | apply t3 | apply t4 | apply t5 | refine tf ?_ NB374_383.out _) | exact HI374.out))
              (case side2 => repeat (first | (with_reducible first | exact HB.out | apply below_alloc | apply pw_below_drewN | apply below_drew1 | refine below_set ?_ (IsS137.ge HI374.out) | refine below_set ?_ (IsS109.ge HI381.out) | refine below_set ?_ GE383.out) | exact HB.out))
              rintro e w48 ⟨rfl, hi, hb, hk⟩
              refine ⟨_, rfl, ?_⟩
              have n0_ := Aside0.mk ((IsS109.but (show IsS109 w _ g381 t396 t397 t398 t399 t400 t401 from by repeat (first | (with_reducible first | exact HI381.out | apply sa | apply sn | apply sd | apply s0 | apply s1 | apply s2 | apply s3 | apply s4 | apply s5 | refine sf ?_ NB381_383.out _) | exact HI381.out)) (show IsS137 w _ g374 t424 t425 t426 t427 t428 t429 from by repeat (first | (with_reducible first | exact HI374.out | apply ta | apply tn | apply td | apply t0 | apply t1 | apply t2 | apply t3 | apply t4 | apply t5 | refine tf ?_ NB374_383.out _) | exact HI374.out)).1 (by decide) hk (by simp)))
              have n1_ := Aside0.mk (KeepBut.blk hk (g' := gb383) (o := .cells #[.int .i64 ((rd_T102 l1 x20_1).f0), .int .i64 ((rd_T102 l1 x20_1).f1), .int .u64 ((rd_T102 l1 x20_1).f2)] 102 (0, 0)) (by (with_reducible repeat (first | refine blk_drewN ?_ _ | refine blk_drew ?_ | refine blk_alloc ?_ _)); exact BK383.out) NB383_374.out (by simp))
              have n2_ := Aside0.mk (hb)
              have n3_ := Aside0.mk (hi)
              clear HI381
              clear BK383
              clear HB
              clear HI374
              have HI381 := n0_
              have BK383 := n1_
              have HB := n2_
              have HI374 := n3_
              clear n0_ n1_ n2_ n3_
              (try clear hb)
              (try clear hb2)
              (try clear hk)
              (try clear hi)
              refine hK.out _ _ ⟨(blk_cell (Aside0.mk HI381.out.1).out 0).trans rfl, (blk_cell (Aside0.mk HI381.out.1).out 1).trans rfl, (blk_cell (Aside0.mk HI381.out.1).out 2).trans rfl, (blk_cell (Aside0.mk HI381.out.1).out 3).trans rfl, (blk_cell (Aside0.mk HI381.out.1).out 4).trans rfl, (blk_cell (Aside0.mk HI381.out.1).out 5).trans rfl⟩ (fun hHeld => ?_)
              clear hK K
              refine norm_ (a' := ?_) ?_ ?_
              rotate_left
              ·show Act.put _ (some 67) _ = _
               simp only [Act.put, List.setIfInBounds_toArray, List.set_cons_zero, List.set_cons_succ, i64_w, i32_w]
               rfl
              refine pure_ (i := 41) (N := some 72) (v := ?_) (a' := ?_) m42 rfl rfl (any_of HT_.out (by kernel_rfl)) (fun _ _ _ h => h) (Or.inl ⟨by rfl, ?_⟩) ?_ ?_
              rotate_left
              ·intro w'
               go_simp
               with_reducible rfl
              rotate_left
              ·simp only [Act.put, List.setIfInBounds_toArray, List.set_cons_zero, List.set_cons_succ, i64_w, i32_w]
               rfl
              refine pure_ (i := 42) (N := some 73) (v := ?_) (a' := ?_) m43 rfl rfl (any_of HT_.out (by kernel_rfl)) (fun _ _ _ h => h) (Or.inl ⟨by rfl, ?_⟩) ?_ ?_
              rotate_left
              ·intro w'
               go_simp
               with_reducible rfl
              rotate_left
              ·simp only [Act.put, List.setIfInBounds_toArray, List.set_cons_zero, List.set_cons_succ, i64_w, i32_w]
               rfl
              refine done_ (done_of HT_.out (by kernel_rfl)) ?_
              try go_wp2
              go_meet
              case rel => exact ⟨_, ((t430 != t396)), (t431), (t432), (t433), (t434), (t435), (t436), (by first | rfl | (simp; done) | (simp [*]; done)), H', ⟨by have := HK1.out; first | omega | exact Nat.le_refl _⟩, ⟨by (with_reducible repeat (first | refine blk_drewN ?_ _ | refine blk_drew ?_ | refine blk_alloc ?_ _)); exact BK383.out⟩, ⟨by repeat (first | (with_reducible first | exact HI374.out | apply ta | apply tn | apply td | apply t0 | apply t1 | apply t2 | apply t3 | apply t4 | apply t5 | refine tf ?_ NB374_383.out _) | exact HI374.out)⟩, ⟨by repeat (first | (with_reducible first | exact HI381.out | apply sa | apply sn | apply sd | apply s0 | apply s1 | apply s2 | apply s3 | apply s4 | apply s5 | refine sf ?_ NB381_383.out _) | exact HI381.out)⟩, ⟨by repeat (first | (with_reducible first | exact HB.out | apply below_alloc | apply pw_below_drewN | apply below_drew1 | refine below_set ?_ (IsS137.ge HI374.out) | refine below_set ?_ (IsS109.ge HI381.out) | refine below_set ?_ GE383.out) | exact HB.out)⟩⟩
             ·rw [if_neg c41] at H
              have c41b0 : (t423 == t401) = false := beq_eq_false_iff_ne.mpr c41
              have c41b1 : (t423 != t401) = true := bne_iff_ne.mpr c41
              have H' := Aside0.mk H
              clear H
              try go_wp2
              have n0_ := Aside0.mk (blk_drew BK383.out)
              have n1_ := Aside0.mk (IsS137.drew HI374.out)
              have n2_ := Aside0.mk (IsS109.drew HI381.out)
              have n3_ := Aside0.mk (below_drew1 HB.out)
              clear BK383
              clear HI374
              clear HI381
              clear HB
              have BK383 := n0_
              have HI374 := n1_
              have HI381 := n2_
              have HB := n3_
              clear n0_ n1_ n2_ n3_
              refine start_ (n := 43) (S := fun w' => w'.cell? ⟨g381, 0, none⟩ = some (.int .u64 t396) ∧ w'.cell? ⟨g381, 1, none⟩ = some (.int .i64 t397) ∧ w'.cell? ⟨g381, 2, none⟩ = some (.int .i64 t398) ∧ w'.cell? ⟨g381, 3, none⟩ = some (.int .u64 t399) ∧ w'.cell? ⟨g381, 4, none⟩ = some (.bool t400) ∧ w'.cell? ⟨g381, 5, none⟩ = some (.int .i64 t401)) (ds := []) m0 (by kernel_rfl) rfl rfl ⟨(blk_cell (Aside0.mk HI381.out.1).out 0).trans rfl, (blk_cell (Aside0.mk HI381.out.1).out 1).trans rfl, (blk_cell (Aside0.mk HI381.out.1).out 2).trans rfl, (blk_cell (Aside0.mk HI381.out.1).out 3).trans rfl, (blk_cell (Aside0.mk HI381.out.1).out 4).trans rfl, (blk_cell (Aside0.mk HI381.out.1).out 5).trans rfl⟩ (fun hHeld => ?_); refine with_tabW signalmanlaw09_ConnDoes.tab11 signalmanlaw09_ConnDoes.bits11 (fun HT_ HW_ => ?_)
              generalize w33.drew = w49 at BK383 HI374 HI381 HB hHeld ⊢
              refine pure_ (i := 0) (N := some 31) (v := ?_) (a' := ?_) m1 rfl rfl (any_of HT_.out (by kernel_rfl)) (fun _ _ _ h => h) (Or.inl ⟨by rfl, ?_⟩) ?_ ?_
              rotate_left
              ·intro w'
               go_simp
               with_reducible rfl
              rotate_left
              ·simp only [Act.put, List.setIfInBounds_toArray, List.set_cons_zero, List.set_cons_succ, i64_w, i32_w]
               rfl
              refine pure_ (i := 2) (N := some 33) (v := ?_) (a' := ?_) m2 rfl rfl (any_of HT_.out (by kernel_rfl)) (fun _ _ _ h => h) (Or.inl ⟨by rfl, ?_⟩) ?_ ?_
              rotate_left
              ·intro w'
               go_simp
               with_reducible rfl
              rotate_left
              ·simp only [Act.put, List.setIfInBounds_toArray, List.set_cons_zero, List.set_cons_succ, i64_w, i32_w]
               rfl
              refine pure_ (i := 3) (N := some 34) (v := ?_) (a' := ?_) m3 rfl rfl (any_of HT_.out (by kernel_rfl)) (fun _ _ _ h => h) (Or.inl ⟨by rfl, ?_⟩) ?_ ?_
              rotate_left
              ·intro w'
               go_simp
               with_reducible rfl
              rotate_left
              ·simp only [Act.put, List.setIfInBounds_toArray, List.set_cons_zero, List.set_cons_succ, i64_w, i32_w]
               rfl
              refine pure_ (i := 4) (N := some 35) (v := ?_) (a' := ?_) m4 rfl rfl (any_of HT_.out (by kernel_rfl)) (fun _ _ _ h => h) (Or.inl ⟨by rfl, ?_⟩) ?_ ?_
              rotate_left
              ·intro w'
               go_simp
               with_reducible rfl
              rotate_left
              ·simp only [Act.put, List.setIfInBounds_toArray, List.set_cons_zero, List.set_cons_succ, i64_w, i32_w]
               rfl
              refine take_ (i := 5) (N := some 36) (v := ?_) (a' := ?_) m5 rfl rfl (take_ofW HT_.out HW_.out (by kernel_rfl)) (fun _ _ _ h => h) (Or.inl ⟨by rfl, ?_⟩) hHeld ?_ ?_
              rotate_left
              ·rintro w' ⟨s0, s1, s2, s3, s4, s5⟩
               go_simp
               with_reducible rfl
              rotate_left
              ·simp only [Act.put, List.setIfInBounds_toArray, List.set_cons_zero, List.set_cons_succ, i64_w, i32_w]
               rfl
              refine one_ (i := 1) (N := some 32) m6 rfl rfl (one_of HT_.out (by kernel_rfl)) (by decide) (fun K hK => ?_)
              refine goes_ Try.func55 (by kernel_rfl) rfl #[.pointer (some ⟨g374, 0, none⟩)] (by rfl) rfl rfl (by (try simp only [List.map_toArray, List.map_cons, List.map_nil]); first | done | rfl | (simp only [List.length_drop, List.length_take]; rfl)) ?_
              with_reducible refine (conn_Conn_State.calls g374 t387 t388 t389 t390 t391 t392 t402 t403 t404 t405 t406 t407 t408 w _ ?side1 ?side2 (by first | exact A34.out | (have h_ := A34.out; exact h_))).mono ?_
              (case side1 => repeat (first | (with_reducible first | exact HI374.out | apply ta | apply tn | apply td | apply t0 | apply t1 | apply t2 | apply t3 | apply t4 | apply t5 | refine tf ?_ NB374_383.out _) | exact HI374.out))
              (case side2 => repeat (first | (with_reducible first | exact HB.out | apply below_alloc | apply pw_below_drewN | apply below_drew1 | refine below_set ?_ (IsS137.ge HI374.out) | refine below_set ?_ (IsS109.ge HI381.out) | refine below_set ?_ GE383.out) | exact HB.out))
              rintro e w50 ⟨rfl, hi, hb, hk⟩
              refine ⟨_, rfl, ?_⟩
              have n0_ := Aside0.mk ((IsS109.but (show IsS109 w _ g381 t396 t397 t398 t399 t400 t401 from by repeat (first | (with_reducible first | exact HI381.out | apply sa | apply sn | apply sd | apply s0 | apply s1 | apply s2 | apply s3 | apply s4 | apply s5 | refine sf ?_ NB381_383.out _) | exact HI381.out)) (show IsS137 w _ g374 t387 t388 t389 t390 t391 t392 from by repeat (first | (with_reducible first | exact HI374.out | apply ta | apply tn | apply td | apply t0 | apply t1 | apply t2 | apply t3 | apply t4 | apply t5 | refine tf ?_ NB374_383.out _) | exact HI374.out)).1 (by decide) hk (by simp)))
              have n1_ := Aside0.mk (KeepBut.blk hk (g' := gb383) (o := .cells #[.int .i64 ((rd_T102 l1 x20_1).f0), .int .i64 ((rd_T102 l1 x20_1).f1), .int .u64 ((rd_T102 l1 x20_1).f2)] 102 (0, 0)) (by (with_reducible repeat (first | refine blk_drewN ?_ _ | refine blk_drew ?_ | refine blk_alloc ?_ _)); exact BK383.out) NB383_374.out (by simp))
              have n2_ := Aside0.mk (hb)
              have n3_ := Aside0.mk (hi)
              clear HI381
              clear BK383
              clear HB
              clear HI374
              have HI381 := n0_
              have BK383 := n1_
              have HB := n2_
              have HI374 := n3_
              clear n0_ n1_ n2_ n3_
              (try clear hb)
              (try clear hb2)
              (try clear hk)
              (try clear hi)
              refine hK.out _ _ ⟨(blk_cell (Aside0.mk HI381.out.1).out 0).trans rfl, (blk_cell (Aside0.mk HI381.out.1).out 1).trans rfl, (blk_cell (Aside0.mk HI381.out.1).out 2).trans rfl, (blk_cell (Aside0.mk HI381.out.1).out 3).trans rfl, (blk_cell (Aside0.mk HI381.out.1).out 4).trans rfl, (blk_cell (Aside0.mk HI381.out.1).out 5).trans rfl⟩ (fun hHeld => ?_)
              clear hK K
              refine norm_ (a' := ?_) ?_ ?_
              rotate_left
              ·show Act.put _ (some 32) _ = _
               simp only [Act.put, List.setIfInBounds_toArray, List.set_cons_zero, List.set_cons_succ, i64_w, i32_w]
               rfl
              refine pure_ (i := 6) (N := some 37) (v := ?_) (a' := ?_) m7 rfl rfl (any_of HT_.out (by kernel_rfl)) (fun _ _ _ h => h) (Or.inl ⟨by rfl, ?_⟩) ?_ ?_
              rotate_left
              ·intro w'
               go_simp
               with_reducible rfl
              rotate_left
              ·simp only [Act.put, List.setIfInBounds_toArray, List.set_cons_zero, List.set_cons_succ, i64_w, i32_w]
               rfl
              refine pure_ (i := 7) (N := some 38) (v := ?_) (a' := ?_) m8 rfl rfl (any_of HT_.out (by kernel_rfl)) (fun _ _ _ h => h) (Or.inl ⟨by rfl, ?_⟩) ?_ ?_
              rotate_left
              ·intro w'
               go_simp
               with_reducible rfl
              rotate_left
              ·simp only [Act.put, List.setIfInBounds_toArray, List.set_cons_zero, List.set_cons_succ, i64_w, i32_w]
               rfl
              refine pure_ (i := 8) (N := some 39) (v := ?_) (a' := ?_) m9 rfl rfl (any_of HT_.out (by kernel_rfl)) (fun _ _ _ h => h) (Or.inl ⟨by rfl, ?_⟩) ?_ ?_
              rotate_left
              ·intro w'
               go_simp
               with_reducible rfl
              rotate_left
              ·simp only [Act.put, List.setIfInBounds_toArray, List.set_cons_zero, List.set_cons_succ, i64_w, i32_w]
               rfl
              refine pure_ (i := 10) (N := some 41) (v := ?_) (a' := ?_) m10 rfl rfl (any_of HT_.out (by kernel_rfl)) (fun _ _ _ h => h) (Or.inl ⟨by rfl, ?_⟩) ?_ ?_
              rotate_left
              ·intro w'
               go_simp
               with_reducible rfl
              rotate_left
              ·simp only [Act.put, List.setIfInBounds_toArray, List.set_cons_zero, List.set_cons_succ, i64_w, i32_w]
               rfl
              refine pure_ (i := 11) (N := some 42) (v := ?_) (a' := ?_) m11 rfl rfl (any_of HT_.out (by kernel_rfl)) (fun _ _ _ h => h) (Or.inl ⟨by rfl, ?_⟩) ?_ ?_
              rotate_left
              ·intro w'
               go_simp
               with_reducible rfl
              rotate_left
              ·simp only [Act.put, List.setIfInBounds_toArray, List.set_cons_zero, List.set_cons_succ, i64_w, i32_w]
               rfl
              refine pure_ (i := 12) (N := some 43) (v := ?_) (a' := ?_) m12 rfl rfl (any_of HT_.out (by kernel_rfl)) (fun _ _ _ h => h) (Or.inl ⟨by rfl, ?_⟩) ?_ ?_
              rotate_left
              ·intro w'
               go_simp
               with_reducible rfl
              rotate_left
              ·simp only [Act.put, List.setIfInBounds_toArray, List.set_cons_zero, List.set_cons_succ, i64_w, i32_w]
               rfl
              refine take_ (i := 13) (N := some 44) (v := ?_) (a' := ?_) m13 rfl rfl (take_ofW HT_.out HW_.out (by kernel_rfl)) (fun _ _ _ h => h) (Or.inl ⟨by rfl, ?_⟩) hHeld ?_ ?_
              rotate_left
              ·rintro w' ⟨s0, s1, s2, s3, s4, s5⟩
               go_simp
               with_reducible rfl
              rotate_left
              ·simp only [Act.put, List.setIfInBounds_toArray, List.set_cons_zero, List.set_cons_succ, i64_w, i32_w]
               rfl
              refine one_ (i := 9) (N := some 40) m14 rfl rfl (one_of HT_.out (by kernel_rfl)) (by decide) (fun K hK => ?_)
              refine goes_ Try.func56 (by kernel_rfl) rfl #[.pointer (some ⟨g374, 0, none⟩)] (by rfl) rfl rfl (by (try simp only [List.map_toArray, List.map_cons, List.map_nil]); first | done | rfl | (simp only [List.length_drop, List.length_take]; rfl)) ?_
              with_reducible refine (conn_Conn_Owner.calls g374 t403 t404 t405 t406 t407 t408 t409 t410 t411 t412 t413 t414 t415 w _ ?side1 ?side2 (by first | exact A36.out | (have h_ := A36.out; exact h_))).mono ?_
              (case side1 => repeat (first | (with_reducible first | exact HI374.out | apply ta | apply tn | apply td | apply t0 | apply t1 | apply t2 | apply t3 | apply t4 | apply t5 | refine tf ?_ NB374_383.out _) | exact HI374.out))
              (case side2 => repeat (first | (with_reducible first | exact HB.out | apply below_alloc | apply pw_below_drewN | apply below_drew1 | refine below_set ?_ (IsS137.ge HI374.out) | refine below_set ?_ (IsS109.ge HI381.out) | refine below_set ?_ GE383.out) | exact HB.out))
              rintro e w51 ⟨rfl, hi, hb, hk⟩
              refine ⟨_, rfl, ?_⟩
              have n0_ := Aside0.mk ((IsS109.but (show IsS109 w _ g381 t396 t397 t398 t399 t400 t401 from by repeat (first | (with_reducible first | exact HI381.out | apply sa | apply sn | apply sd | apply s0 | apply s1 | apply s2 | apply s3 | apply s4 | apply s5 | refine sf ?_ NB381_383.out _) | exact HI381.out)) (show IsS137 w _ g374 t403 t404 t405 t406 t407 t408 from by repeat (first | (with_reducible first | exact HI374.out | apply ta | apply tn | apply td | apply t0 | apply t1 | apply t2 | apply t3 | apply t4 | apply t5 | refine tf ?_ NB374_383.out _) | exact HI374.out)).1 (by decide) hk (by simp)))
              have n1_ := Aside0.mk (KeepBut.blk hk (g' := gb383) (o := .cells #[.int .i64 ((rd_T102 l1 x20_1).f0), .int .i64 ((rd_T102 l1 x20_1).f1), .int .u64 ((rd_T102 l1 x20_1).f2)] 102 (0, 0)) (by (with_reducible repeat (first | refine blk_drewN ?_ _ | refine blk_drew ?_ | refine blk_alloc ?_ _)); exact BK383.out) NB383_374.out (by simp))
              have n2_ := Aside0.mk (hb)
              have n3_ := Aside0.mk (hi)
              clear HI381
              clear BK383
              clear HB
              clear HI374
              have HI381 := n0_
              have BK383 := n1_
              have HB := n2_
              have HI374 := n3_
              clear n0_ n1_ n2_ n3_
              (try clear hb)
              (try clear hb2)
              (try clear hk)
              (try clear hi)
              refine hK.out _ _ ⟨(blk_cell (Aside0.mk HI381.out.1).out 0).trans rfl, (blk_cell (Aside0.mk HI381.out.1).out 1).trans rfl, (blk_cell (Aside0.mk HI381.out.1).out 2).trans rfl, (blk_cell (Aside0.mk HI381.out.1).out 3).trans rfl, (blk_cell (Aside0.mk HI381.out.1).out 4).trans rfl, (blk_cell (Aside0.mk HI381.out.1).out 5).trans rfl⟩ (fun hHeld => ?_)
              clear hK K
              refine norm_ (a' := ?_) ?_ ?_
              rotate_left
              ·show Act.put _ (some 40) _ = _
               simp only [Act.put, List.setIfInBounds_toArray, List.set_cons_zero, List.set_cons_succ, i64_w, i32_w]
               rfl
              refine pure_ (i := 14) (N := some 45) (v := ?_) (a' := ?_) m15 rfl rfl (any_of HT_.out (by kernel_rfl)) (fun _ _ _ h => h) (Or.inl ⟨by rfl, ?_⟩) ?_ ?_
              rotate_left
              ·intro w'
               go_simp
               with_reducible rfl
              rotate_left
              ·simp only [Act.put, List.setIfInBounds_toArray, List.set_cons_zero, List.set_cons_succ, i64_w, i32_w]
               rfl
              refine pure_ (i := 15) (N := some 46) (v := ?_) (a' := ?_) m16 rfl rfl (any_of HT_.out (by kernel_rfl)) (fun _ _ _ h => h) (Or.inl ⟨by rfl, ?_⟩) ?_ ?_
              rotate_left
              ·intro w'
               go_simp
               with_reducible rfl
              rotate_left
              ·simp only [Act.put, List.setIfInBounds_toArray, List.set_cons_zero, List.set_cons_succ, i64_w, i32_w]
               rfl
              refine pure_ (i := 16) (N := some 47) (v := ?_) (a' := ?_) m17 rfl rfl (any_of HT_.out (by kernel_rfl)) (fun _ _ _ h => h) (Or.inl ⟨by rfl, ?_⟩) ?_ ?_
              rotate_left
              ·intro w'
               go_simp
               with_reducible rfl
              rotate_left
              ·simp only [Act.put, List.setIfInBounds_toArray, List.set_cons_zero, List.set_cons_succ, i64_w, i32_w]
               rfl
              refine pure_ (i := 17) (N := some 48) (v := ?_) (a' := ?_) m18 rfl rfl (any_of HT_.out (by kernel_rfl)) (fun _ _ _ h => h) (Or.inl ⟨by rfl, ?_⟩) ?_ ?_
              rotate_left
              ·intro w'
               go_simp
               with_reducible rfl
              rotate_left
              ·simp only [Act.put, List.setIfInBounds_toArray, List.set_cons_zero, List.set_cons_succ, i64_w, i32_w]
               rfl
              refine pure_ (i := 19) (N := some 50) (v := ?_) (a' := ?_) m19 rfl rfl (any_of HT_.out (by kernel_rfl)) (fun _ _ _ h => h) (Or.inl ⟨by rfl, ?_⟩) ?_ ?_
              rotate_left
              ·intro w'
               go_simp
               with_reducible rfl
              rotate_left
              ·simp only [Act.put, List.setIfInBounds_toArray, List.set_cons_zero, List.set_cons_succ, i64_w, i32_w]
               rfl
              refine pure_ (i := 20) (N := some 51) (v := ?_) (a' := ?_) m20 rfl rfl (any_of HT_.out (by kernel_rfl)) (fun _ _ _ h => h) (Or.inl ⟨by rfl, ?_⟩) ?_ ?_
              rotate_left
              ·intro w'
               go_simp
               with_reducible rfl
              rotate_left
              ·simp only [Act.put, List.setIfInBounds_toArray, List.set_cons_zero, List.set_cons_succ, i64_w, i32_w]
               rfl
              refine pure_ (i := 21) (N := some 52) (v := ?_) (a' := ?_) m21 rfl rfl (any_of HT_.out (by kernel_rfl)) (fun _ _ _ h => h) (Or.inl ⟨by rfl, ?_⟩) ?_ ?_
              rotate_left
              ·intro w'
               go_simp
               with_reducible rfl
              rotate_left
              ·simp only [Act.put, List.setIfInBounds_toArray, List.set_cons_zero, List.set_cons_succ, i64_w, i32_w]
               rfl
              refine take_ (i := 22) (N := some 53) (v := ?_) (a' := ?_) m22 rfl rfl (take_ofW HT_.out HW_.out (by kernel_rfl)) (fun _ _ _ h => h) (Or.inl ⟨by rfl, ?_⟩) hHeld ?_ ?_
              rotate_left
              ·rintro w' ⟨s0, s1, s2, s3, s4, s5⟩
               go_simp
               with_reducible rfl
              rotate_left
              ·simp only [Act.put, List.setIfInBounds_toArray, List.set_cons_zero, List.set_cons_succ, i64_w, i32_w]
               rfl
              refine one_ (i := 18) (N := some 49) m23 rfl rfl (one_of HT_.out (by kernel_rfl)) (by decide) (fun K hK => ?_)
              refine goes_ Try.func57 (by kernel_rfl) rfl #[.pointer (some ⟨g374, 0, none⟩)] (by rfl) rfl rfl (by (try simp only [List.map_toArray, List.map_cons, List.map_nil]); first | done | rfl | (simp only [List.length_drop, List.length_take]; rfl)) ?_
              with_reducible refine (conn_Conn_Flight.calls g374 t410 t411 t412 t413 t414 t415 t416 t417 t418 t419 t420 t421 t422 w _ ?side1 ?side2 (by first | exact A38.out | (have h_ := A38.out; exact h_))).mono ?_
              (case side1 => repeat (first | (with_reducible first | exact HI374.out | apply ta | apply tn | apply td | apply t0 | apply t1 | apply t2 | apply t3 | apply t4 | apply t5 | refine tf ?_ NB374_383.out _) | exact HI374.out))
              (case side2 => repeat (first | (with_reducible first | exact HB.out | apply below_alloc | apply pw_below_drewN | apply below_drew1 | refine below_set ?_ (IsS137.ge HI374.out) | refine below_set ?_ (IsS109.ge HI381.out) | refine below_set ?_ GE383.out) | exact HB.out))
              rintro e w52 ⟨rfl, hi, hb, hk⟩
              refine ⟨_, rfl, ?_⟩
              have n0_ := Aside0.mk ((IsS109.but (show IsS109 w _ g381 t396 t397 t398 t399 t400 t401 from by repeat (first | (with_reducible first | exact HI381.out | apply sa | apply sn | apply sd | apply s0 | apply s1 | apply s2 | apply s3 | apply s4 | apply s5 | refine sf ?_ NB381_383.out _) | exact HI381.out)) (show IsS137 w _ g374 t410 t411 t412 t413 t414 t415 from by repeat (first | (with_reducible first | exact HI374.out | apply ta | apply tn | apply td | apply t0 | apply t1 | apply t2 | apply t3 | apply t4 | apply t5 | refine tf ?_ NB374_383.out _) | exact HI374.out)).1 (by decide) hk (by simp)))
              have n1_ := Aside0.mk (KeepBut.blk hk (g' := gb383) (o := .cells #[.int .i64 ((rd_T102 l1 x20_1).f0), .int .i64 ((rd_T102 l1 x20_1).f1), .int .u64 ((rd_T102 l1 x20_1).f2)] 102 (0, 0)) (by (with_reducible repeat (first | refine blk_drewN ?_ _ | refine blk_drew ?_ | refine blk_alloc ?_ _)); exact BK383.out) NB383_374.out (by simp))
              have n2_ := Aside0.mk (hb)
              have n3_ := Aside0.mk (hi)
              clear HI381
              clear BK383
              clear HB
              clear HI374
              have HI381 := n0_
              have BK383 := n1_
              have HB := n2_
              have HI374 := n3_
              clear n0_ n1_ n2_ n3_
              (try clear hb)
              (try clear hb2)
              (try clear hk)
              (try clear hi)
              refine hK.out _ _ ⟨(blk_cell (Aside0.mk HI381.out.1).out 0).trans rfl, (blk_cell (Aside0.mk HI381.out.1).out 1).trans rfl, (blk_cell (Aside0.mk HI381.out.1).out 2).trans rfl, (blk_cell (Aside0.mk HI381.out.1).out 3).trans rfl, (blk_cell (Aside0.mk HI381.out.1).out 4).trans rfl, (blk_cell (Aside0.mk HI381.out.1).out 5).trans rfl⟩ (fun hHeld => ?_)
              clear hK K
              refine norm_ (a' := ?_) ?_ ?_
              rotate_left
              ·show Act.put _ (some 49) _ = _
               simp only [Act.put, List.setIfInBounds_toArray, List.set_cons_zero, List.set_cons_succ, i64_w, i32_w]
               rfl
              refine pure_ (i := 23) (N := some 54) (v := ?_) (a' := ?_) m24 rfl rfl (any_of HT_.out (by kernel_rfl)) (fun _ _ _ h => h) (Or.inl ⟨by rfl, ?_⟩) ?_ ?_
              rotate_left
              ·intro w'
               go_simp
               with_reducible rfl
              rotate_left
              ·simp only [Act.put, List.setIfInBounds_toArray, List.set_cons_zero, List.set_cons_succ, i64_w, i32_w]
               rfl
              refine pure_ (i := 24) (N := some 55) (v := ?_) (a' := ?_) m25 rfl rfl (any_of HT_.out (by kernel_rfl)) (fun _ _ _ h => h) (Or.inl ⟨by rfl, ?_⟩) ?_ ?_
              rotate_left
              ·intro w'
               go_simp
               with_reducible rfl
              rotate_left
              ·simp only [Act.put, List.setIfInBounds_toArray, List.set_cons_zero, List.set_cons_succ, i64_w, i32_w]
               rfl
              refine pure_ (i := 25) (N := some 56) (v := ?_) (a' := ?_) m26 rfl rfl (any_of HT_.out (by kernel_rfl)) (fun _ _ _ h => h) (Or.inl ⟨by rfl, ?_⟩) ?_ ?_
              rotate_left
              ·intro w'
               go_simp
               with_reducible rfl
              rotate_left
              ·simp only [Act.put, List.setIfInBounds_toArray, List.set_cons_zero, List.set_cons_succ, i64_w, i32_w]
               rfl
              refine pure_ (i := 26) (N := some 57) (v := ?_) (a' := ?_) m27 rfl rfl (any_of HT_.out (by kernel_rfl)) (fun _ _ _ h => h) (Or.inl ⟨by rfl, ?_⟩) ?_ ?_
              rotate_left
              ·intro w'
               go_simp
               with_reducible rfl
              rotate_left
              ·simp only [Act.put, List.setIfInBounds_toArray, List.set_cons_zero, List.set_cons_succ, i64_w, i32_w]
               rfl
              refine pure_ (i := 28) (N := some 59) (v := ?_) (a' := ?_) m28 rfl rfl (any_of HT_.out (by kernel_rfl)) (fun _ _ _ h => h) (Or.inl ⟨by rfl, ?_⟩) ?_ ?_
              rotate_left
              ·intro w'
               go_simp
               with_reducible rfl
              rotate_left
              ·simp only [Act.put, List.setIfInBounds_toArray, List.set_cons_zero, List.set_cons_succ, i64_w, i32_w]
               rfl
              refine pure_ (i := 29) (N := some 60) (v := ?_) (a' := ?_) m29 rfl rfl (any_of HT_.out (by kernel_rfl)) (fun _ _ _ h => h) (Or.inl ⟨by rfl, ?_⟩) ?_ ?_
              rotate_left
              ·intro w'
               go_simp
               with_reducible rfl
              rotate_left
              ·simp only [Act.put, List.setIfInBounds_toArray, List.set_cons_zero, List.set_cons_succ, i64_w, i32_w]
               rfl
              refine pure_ (i := 30) (N := some 61) (v := ?_) (a' := ?_) m30 rfl rfl (any_of HT_.out (by kernel_rfl)) (fun _ _ _ h => h) (Or.inl ⟨by rfl, ?_⟩) ?_ ?_
              rotate_left
              ·intro w'
               go_simp
               with_reducible rfl
              rotate_left
              ·simp only [Act.put, List.setIfInBounds_toArray, List.set_cons_zero, List.set_cons_succ, i64_w, i32_w]
               rfl
              refine take_ (i := 31) (N := some 62) (v := ?_) (a' := ?_) m31 rfl rfl (take_ofW HT_.out HW_.out (by kernel_rfl)) (fun _ _ _ h => h) (Or.inl ⟨by rfl, ?_⟩) hHeld ?_ ?_
              rotate_left
              ·rintro w' ⟨s0, s1, s2, s3, s4, s5⟩
               go_simp
               with_reducible rfl
              rotate_left
              ·simp only [Act.put, List.setIfInBounds_toArray, List.set_cons_zero, List.set_cons_succ, i64_w, i32_w]
               rfl
              refine one_ (i := 27) (N := some 58) m32 rfl rfl (one_of HT_.out (by kernel_rfl)) (by decide) (fun K hK => ?_)
              refine goes_ Try.func58 (by kernel_rfl) rfl #[.pointer (some ⟨g374, 0, none⟩)] (by rfl) rfl rfl (by (try simp only [List.map_toArray, List.map_cons, List.map_nil]); first | done | rfl | (simp only [List.length_drop, List.length_take]; rfl)) ?_
              with_reducible refine (conn_Conn_Sent.calls g374 t417 t418 t419 t420 t421 t422 t423 t424 t425 t426 t427 t428 t429 w _ ?side1 ?side2 (by first | exact A40.out | (have h_ := A40.out; exact h_))).mono ?_
              (case side1 => repeat (first | (with_reducible first | exact HI374.out | apply ta | apply tn | apply td | apply t0 | apply t1 | apply t2 | apply t3 | apply t4 | apply t5 | refine tf ?_ NB374_383.out _) | exact HI374.out))
              (case side2 => repeat (first | (with_reducible first | exact HB.out | apply below_alloc | apply pw_below_drewN | apply below_drew1 | refine below_set ?_ (IsS137.ge HI374.out) | refine below_set ?_ (IsS109.ge HI381.out) | refine below_set ?_ GE383.out) | exact HB.out))
              rintro e w53 ⟨rfl, hi, hb, hk⟩
              refine ⟨_, rfl, ?_⟩
              have n0_ := Aside0.mk ((IsS109.but (show IsS109 w _ g381 t396 t397 t398 t399 t400 t401 from by repeat (first | (with_reducible first | exact HI381.out | apply sa | apply sn | apply sd | apply s0 | apply s1 | apply s2 | apply s3 | apply s4 | apply s5 | refine sf ?_ NB381_383.out _) | exact HI381.out)) (show IsS137 w _ g374 t417 t418 t419 t420 t421 t422 from by repeat (first | (with_reducible first | exact HI374.out | apply ta | apply tn | apply td | apply t0 | apply t1 | apply t2 | apply t3 | apply t4 | apply t5 | refine tf ?_ NB374_383.out _) | exact HI374.out)).1 (by decide) hk (by simp)))
              have n1_ := Aside0.mk (KeepBut.blk hk (g' := gb383) (o := .cells #[.int .i64 ((rd_T102 l1 x20_1).f0), .int .i64 ((rd_T102 l1 x20_1).f1), .int .u64 ((rd_T102 l1 x20_1).f2)] 102 (0, 0)) (by (with_reducible repeat (first | refine blk_drewN ?_ _ | refine blk_drew ?_ | refine blk_alloc ?_ _)); exact BK383.out) NB383_374.out (by simp))
              have n2_ := Aside0.mk (hb)
              have n3_ := Aside0.mk (hi)
              clear HI381
              clear BK383
              clear HB
              clear HI374
              have HI381 := n0_
              have BK383 := n1_
              have HB := n2_
              have HI374 := n3_
              clear n0_ n1_ n2_ n3_
              (try clear hb)
              (try clear hb2)
              (try clear hk)
              (try clear hi)
              refine hK.out _ _ ⟨(blk_cell (Aside0.mk HI381.out.1).out 0).trans rfl, (blk_cell (Aside0.mk HI381.out.1).out 1).trans rfl, (blk_cell (Aside0.mk HI381.out.1).out 2).trans rfl, (blk_cell (Aside0.mk HI381.out.1).out 3).trans rfl, (blk_cell (Aside0.mk HI381.out.1).out 4).trans rfl, (blk_cell (Aside0.mk HI381.out.1).out 5).trans rfl⟩ (fun hHeld => ?_)
              clear hK K
              refine norm_ (a' := ?_) ?_ ?_
              rotate_left
              ·show Act.put _ (some 58) _ = _
               simp only [Act.put, List.setIfInBounds_toArray, List.set_cons_zero, List.set_cons_succ, i64_w, i32_w]
               rfl
              refine pure_ (i := 32) (N := some 63) (v := ?_) (a' := ?_) m33 rfl rfl (any_of HT_.out (by kernel_rfl)) (fun _ _ _ h => h) (Or.inl ⟨by rfl, ?_⟩) ?_ ?_
              rotate_left
              ·intro w'
               go_simp
               with_reducible rfl
              rotate_left
              ·simp only [Act.put, List.setIfInBounds_toArray, List.set_cons_zero, List.set_cons_succ, i64_w, i32_w]
               rfl
              refine pure_ (i := 33) (N := some 64) (v := ?_) (a' := ?_) m34 rfl rfl (any_of HT_.out (by kernel_rfl)) (fun _ _ _ h => h) (Or.inl ⟨by rfl, ?_⟩) ?_ ?_
              rotate_left
              ·intro w'
               go_simp
               with_reducible rfl
              rotate_left
              ·simp only [Act.put, List.setIfInBounds_toArray, List.set_cons_zero, List.set_cons_succ, i64_w, i32_w]
               rfl
              refine pure_ (i := 34) (N := some 65) (v := ?_) (a' := ?_) m35 rfl rfl (any_of HT_.out (by kernel_rfl)) (fun _ _ _ h => h) (Or.inl ⟨by rfl, ?_⟩) ?_ ?_
              rotate_left
              ·intro w'
               go_simp
               with_reducible rfl
              rotate_left
              ·simp only [Act.put, List.setIfInBounds_toArray, List.set_cons_zero, List.set_cons_succ, i64_w, i32_w]
               rfl
              refine pure_ (i := 35) (N := some 66) (v := undef) (a' := ?_) m36 rfl rfl (any_of HT_.out (by kernel_rfl)) (fun _ _ _ h => h) (Or.inr ⟨by rfl, rfl⟩) ?_ ?_
              rotate_left
              ·simp only [Act.put, List.setIfInBounds_toArray, List.set_cons_zero, List.set_cons_succ, i64_w, i32_w]
               rfl
              refine pure_ (i := 36) (N := some 67) (v := undef) (a' := ?_) m44 rfl rfl (any_of HT_.out (by kernel_rfl)) (fun _ _ _ h => h) (Or.inr ⟨by rfl, rfl⟩) ?_ ?_
              rotate_left
              ·simp only [Act.put, List.setIfInBounds_toArray, List.set_cons_zero, List.set_cons_succ, i64_w, i32_w]
               rfl
              refine pure_ (i := 37) (N := some 68) (v := undef) (a' := ?_) m45 rfl rfl (any_of HT_.out (by kernel_rfl)) (fun _ _ _ h => h) (Or.inr ⟨by rfl, rfl⟩) ?_ ?_
              rotate_left
              ·simp only [Act.put, List.setIfInBounds_toArray, List.set_cons_zero, List.set_cons_succ, i64_w, i32_w]
               rfl
              refine pure_ (i := 38) (N := some 69) (v := undef) (a' := ?_) m46 rfl rfl (any_of HT_.out (by kernel_rfl)) (fun _ _ _ h => h) (Or.inr ⟨by rfl, rfl⟩) ?_ ?_
              rotate_left
              ·simp only [Act.put, List.setIfInBounds_toArray, List.set_cons_zero, List.set_cons_succ, i64_w, i32_w]
               rfl
              refine pure_ (i := 39) (N := some 70) (v := undef) (a' := ?_) m47 rfl rfl (any_of HT_.out (by kernel_rfl)) (fun _ _ _ h => h) (Or.inr ⟨by rfl, rfl⟩) ?_ ?_
              rotate_left
              ·simp only [Act.put, List.setIfInBounds_toArray, List.set_cons_zero, List.set_cons_succ, i64_w, i32_w]
               rfl
              refine pure_ (i := 40) (N := some 71) (v := undef) (a' := ?_) m41 rfl rfl (any_of HT_.out (by kernel_rfl)) (fun _ _ _ h => h) (Or.inr ⟨by rfl, rfl⟩) ?_ ?_
              rotate_left
              ·simp only [Act.put, List.setIfInBounds_toArray, List.set_cons_zero, List.set_cons_succ, i64_w, i32_w]
               rfl
              refine pure_ (i := 41) (N := some 72) (v := undef) (a' := ?_) m42 rfl rfl (any_of HT_.out (by kernel_rfl)) (fun _ _ _ h => h) (Or.inr ⟨by rfl, rfl⟩) ?_ ?_
              rotate_left
              ·simp only [Act.put, List.setIfInBounds_toArray, List.set_cons_zero, List.set_cons_succ, i64_w, i32_w]
               rfl
              refine pure_ (i := 42) (N := some 73) (v := ?_) (a' := ?_) m43 rfl rfl (any_of HT_.out (by kernel_rfl)) (fun _ _ _ h => h) (Or.inl ⟨by rfl, ?_⟩) ?_ ?_
              rotate_left
              ·intro w'
               go_simp
               with_reducible rfl
              rotate_left
              ·simp only [Act.put, List.setIfInBounds_toArray, List.set_cons_zero, List.set_cons_succ, i64_w, i32_w]
               rfl
              refine done_ (done_of HT_.out (by kernel_rfl)) ?_
              try go_wp2
              go_meet
              case rel => exact ⟨_, (true), (t424), (t425), (t426), (t427), (t428), (t429), (by first | rfl | (simp; done) | (simp [*]; done)), H', ⟨by have := HK1.out; first | omega | exact Nat.le_refl _⟩, ⟨by (with_reducible repeat (first | refine blk_drewN ?_ _ | refine blk_drew ?_ | refine blk_alloc ?_ _)); exact BK383.out⟩, ⟨by repeat (first | (with_reducible first | exact HI374.out | apply ta | apply tn | apply td | apply t0 | apply t1 | apply t2 | apply t3 | apply t4 | apply t5 | refine tf ?_ NB374_383.out _) | exact HI374.out)⟩, ⟨by repeat (first | (with_reducible first | exact HI381.out | apply sa | apply sn | apply sd | apply s0 | apply s1 | apply s2 | apply s3 | apply s4 | apply s5 | refine sf ?_ NB381_383.out _) | exact HI381.out)⟩, ⟨by repeat (first | (with_reducible first | exact HB.out | apply below_alloc | apply pw_below_drewN | apply below_drew1 | refine below_set ?_ (IsS137.ge HI374.out) | refine below_set ?_ (IsS109.ge HI381.out) | refine below_set ?_ GE383.out) | exact HB.out)⟩⟩
            ·rw [if_neg c39] at H
             have c39b0 : (t416 == t399) = false := beq_eq_false_iff_ne.mpr c39
             have c39b1 : (t416 != t399) = true := bne_iff_ne.mpr c39
             have H' := Aside0.mk H
             clear H
             try go_wp2
             have n0_ := Aside0.mk (blk_drew BK383.out)
             have n1_ := Aside0.mk (IsS137.drew HI374.out)
             have n2_ := Aside0.mk (IsS109.drew HI381.out)
             have n3_ := Aside0.mk (below_drew1 HB.out)
             clear BK383
             clear HI374
             clear HI381
             clear HB
             have BK383 := n0_
             have HI374 := n1_
             have HI381 := n2_
             have HB := n3_
             clear n0_ n1_ n2_ n3_
             refine start_ (n := 43) (S := fun w' => w'.cell? ⟨g381, 0, none⟩ = some (.int .u64 t396) ∧ w'.cell? ⟨g381, 1, none⟩ = some (.int .i64 t397) ∧ w'.cell? ⟨g381, 2, none⟩ = some (.int .i64 t398) ∧ w'.cell? ⟨g381, 3, none⟩ = some (.int .u64 t399) ∧ w'.cell? ⟨g381, 4, none⟩ = some (.bool t400) ∧ w'.cell? ⟨g381, 5, none⟩ = some (.int .i64 t401)) (ds := []) m0 (by kernel_rfl) rfl rfl ⟨(blk_cell (Aside0.mk HI381.out.1).out 0).trans rfl, (blk_cell (Aside0.mk HI381.out.1).out 1).trans rfl, (blk_cell (Aside0.mk HI381.out.1).out 2).trans rfl, (blk_cell (Aside0.mk HI381.out.1).out 3).trans rfl, (blk_cell (Aside0.mk HI381.out.1).out 4).trans rfl, (blk_cell (Aside0.mk HI381.out.1).out 5).trans rfl⟩ (fun hHeld => ?_); refine with_tabW signalmanlaw09_ConnDoes.tab11 signalmanlaw09_ConnDoes.bits11 (fun HT_ HW_ => ?_)
             generalize w33.drew = w54 at BK383 HI374 HI381 HB hHeld ⊢
             refine pure_ (i := 0) (N := some 31) (v := ?_) (a' := ?_) m1 rfl rfl (any_of HT_.out (by kernel_rfl)) (fun _ _ _ h => h) (Or.inl ⟨by rfl, ?_⟩) ?_ ?_
             rotate_left
             ·intro w'
              go_simp
              with_reducible rfl
             rotate_left
             ·simp only [Act.put, List.setIfInBounds_toArray, List.set_cons_zero, List.set_cons_succ, i64_w, i32_w]
              rfl
             refine pure_ (i := 2) (N := some 33) (v := ?_) (a' := ?_) m2 rfl rfl (any_of HT_.out (by kernel_rfl)) (fun _ _ _ h => h) (Or.inl ⟨by rfl, ?_⟩) ?_ ?_
             rotate_left
             ·intro w'
              go_simp
              with_reducible rfl
             rotate_left
             ·simp only [Act.put, List.setIfInBounds_toArray, List.set_cons_zero, List.set_cons_succ, i64_w, i32_w]
              rfl
             refine pure_ (i := 3) (N := some 34) (v := ?_) (a' := ?_) m3 rfl rfl (any_of HT_.out (by kernel_rfl)) (fun _ _ _ h => h) (Or.inl ⟨by rfl, ?_⟩) ?_ ?_
             rotate_left
             ·intro w'
              go_simp
              with_reducible rfl
             rotate_left
             ·simp only [Act.put, List.setIfInBounds_toArray, List.set_cons_zero, List.set_cons_succ, i64_w, i32_w]
              rfl
             refine pure_ (i := 4) (N := some 35) (v := ?_) (a' := ?_) m4 rfl rfl (any_of HT_.out (by kernel_rfl)) (fun _ _ _ h => h) (Or.inl ⟨by rfl, ?_⟩) ?_ ?_
             rotate_left
             ·intro w'
              go_simp
              with_reducible rfl
             rotate_left
             ·simp only [Act.put, List.setIfInBounds_toArray, List.set_cons_zero, List.set_cons_succ, i64_w, i32_w]
              rfl
             refine take_ (i := 5) (N := some 36) (v := ?_) (a' := ?_) m5 rfl rfl (take_ofW HT_.out HW_.out (by kernel_rfl)) (fun _ _ _ h => h) (Or.inl ⟨by rfl, ?_⟩) hHeld ?_ ?_
             rotate_left
             ·rintro w' ⟨s0, s1, s2, s3, s4, s5⟩
              go_simp
              with_reducible rfl
             rotate_left
             ·simp only [Act.put, List.setIfInBounds_toArray, List.set_cons_zero, List.set_cons_succ, i64_w, i32_w]
              rfl
             refine one_ (i := 1) (N := some 32) m6 rfl rfl (one_of HT_.out (by kernel_rfl)) (by decide) (fun K hK => ?_)
             refine goes_ Try.func55 (by kernel_rfl) rfl #[.pointer (some ⟨g374, 0, none⟩)] (by rfl) rfl rfl (by (try simp only [List.map_toArray, List.map_cons, List.map_nil]); first | done | rfl | (simp only [List.length_drop, List.length_take]; rfl)) ?_
             with_reducible refine (conn_Conn_State.calls g374 t387 t388 t389 t390 t391 t392 t402 t403 t404 t405 t406 t407 t408 w _ ?side1 ?side2 (by first | exact A34.out | (have h_ := A34.out; exact h_))).mono ?_
             (case side1 => repeat (first | (with_reducible first | exact HI374.out | apply ta | apply tn | apply td | apply t0 | apply t1 | apply t2 | apply t3 | apply t4 | apply t5 | refine tf ?_ NB374_383.out _) | exact HI374.out))
             (case side2 => repeat (first | (with_reducible first | exact HB.out | apply below_alloc | apply pw_below_drewN | apply below_drew1 | refine below_set ?_ (IsS137.ge HI374.out) | refine below_set ?_ (IsS109.ge HI381.out) | refine below_set ?_ GE383.out) | exact HB.out))
             rintro e w55 ⟨rfl, hi, hb, hk⟩
             refine ⟨_, rfl, ?_⟩
             have n0_ := Aside0.mk ((IsS109.but (show IsS109 w _ g381 t396 t397 t398 t399 t400 t401 from by repeat (first | (with_reducible first | exact HI381.out | apply sa | apply sn | apply sd | apply s0 | apply s1 | apply s2 | apply s3 | apply s4 | apply s5 | refine sf ?_ NB381_383.out _) | exact HI381.out)) (show IsS137 w _ g374 t387 t388 t389 t390 t391 t392 from by repeat (first | (with_reducible first | exact HI374.out | apply ta | apply tn | apply td | apply t0 | apply t1 | apply t2 | apply t3 | apply t4 | apply t5 | refine tf ?_ NB374_383.out _) | exact HI374.out)).1 (by decide) hk (by simp)))
             have n1_ := Aside0.mk (KeepBut.blk hk (g' := gb383) (o := .cells #[.int .i64 ((rd_T102 l1 x20_1).f0), .int .i64 ((rd_T102 l1 x20_1).f1), .int .u64 ((rd_T102 l1 x20_1).f2)] 102 (0, 0)) (by (with_reducible repeat (first | refine blk_drewN ?_ _ | refine blk_drew ?_ | refine blk_alloc ?_ _)); exact BK383.out) NB383_374.out (by simp))
             have n2_ := Aside0.mk (hb)
             have n3_ := Aside0.mk (hi)
             clear HI381
             clear BK383
             clear HB
             clear HI374
             have HI381 := n0_
             have BK383 := n1_
             have HB := n2_
             have HI374 := n3_
             clear n0_ n1_ n2_ n3_
             (try clear hb)
             (try clear hb2)
             (try clear hk)
             (try clear hi)
             refine hK.out _ _ ⟨(blk_cell (Aside0.mk HI381.out.1).out 0).trans rfl, (blk_cell (Aside0.mk HI381.out.1).out 1).trans rfl, (blk_cell (Aside0.mk HI381.out.1).out 2).trans rfl, (blk_cell (Aside0.mk HI381.out.1).out 3).trans rfl, (blk_cell (Aside0.mk HI381.out.1).out 4).trans rfl, (blk_cell (Aside0.mk HI381.out.1).out 5).trans rfl⟩ (fun hHeld => ?_)
             clear hK K
             refine norm_ (a' := ?_) ?_ ?_
             rotate_left
             ·show Act.put _ (some 32) _ = _
              simp only [Act.put, List.setIfInBounds_toArray, List.set_cons_zero, List.set_cons_succ, i64_w, i32_w]
              rfl
             refine pure_ (i := 6) (N := some 37) (v := ?_) (a' := ?_) m7 rfl rfl (any_of HT_.out (by kernel_rfl)) (fun _ _ _ h => h) (Or.inl ⟨by rfl, ?_⟩) ?_ ?_
             rotate_left
             ·intro w'
              go_simp
              with_reducible rfl
             rotate_left
             ·simp only [Act.put, List.setIfInBounds_toArray, List.set_cons_zero, List.set_cons_succ, i64_w, i32_w]
              rfl
             refine pure_ (i := 7) (N := some 38) (v := ?_) (a' := ?_) m8 rfl rfl (any_of HT_.out (by kernel_rfl)) (fun _ _ _ h => h) (Or.inl ⟨by rfl, ?_⟩) ?_ ?_
             rotate_left
             ·intro w'
              go_simp
              with_reducible rfl
             rotate_left
             ·simp only [Act.put, List.setIfInBounds_toArray, List.set_cons_zero, List.set_cons_succ, i64_w, i32_w]
              rfl
             refine pure_ (i := 8) (N := some 39) (v := ?_) (a' := ?_) m9 rfl rfl (any_of HT_.out (by kernel_rfl)) (fun _ _ _ h => h) (Or.inl ⟨by rfl, ?_⟩) ?_ ?_
             rotate_left
             ·intro w'
              go_simp
              with_reducible rfl
             rotate_left
             ·simp only [Act.put, List.setIfInBounds_toArray, List.set_cons_zero, List.set_cons_succ, i64_w, i32_w]
              rfl
             refine pure_ (i := 10) (N := some 41) (v := ?_) (a' := ?_) m10 rfl rfl (any_of HT_.out (by kernel_rfl)) (fun _ _ _ h => h) (Or.inl ⟨by rfl, ?_⟩) ?_ ?_
             rotate_left
             ·intro w'
              go_simp
              with_reducible rfl
             rotate_left
             ·simp only [Act.put, List.setIfInBounds_toArray, List.set_cons_zero, List.set_cons_succ, i64_w, i32_w]
              rfl
             refine pure_ (i := 11) (N := some 42) (v := ?_) (a' := ?_) m11 rfl rfl (any_of HT_.out (by kernel_rfl)) (fun _ _ _ h => h) (Or.inl ⟨by rfl, ?_⟩) ?_ ?_
             rotate_left
             ·intro w'
              go_simp
              with_reducible rfl
             rotate_left
             ·simp only [Act.put, List.setIfInBounds_toArray, List.set_cons_zero, List.set_cons_succ, i64_w, i32_w]
              rfl
             refine pure_ (i := 12) (N := some 43) (v := ?_) (a' := ?_) m12 rfl rfl (any_of HT_.out (by kernel_rfl)) (fun _ _ _ h => h) (Or.inl ⟨by rfl, ?_⟩) ?_ ?_
             rotate_left
             ·intro w'
              go_simp
              with_reducible rfl
             rotate_left
             ·simp only [Act.put, List.setIfInBounds_toArray, List.set_cons_zero, List.set_cons_succ, i64_w, i32_w]
              rfl
             refine take_ (i := 13) (N := some 44) (v := ?_) (a' := ?_) m13 rfl rfl (take_ofW HT_.out HW_.out (by kernel_rfl)) (fun _ _ _ h => h) (Or.inl ⟨by rfl, ?_⟩) hHeld ?_ ?_
             rotate_left
             ·rintro w' ⟨s0, s1, s2, s3, s4, s5⟩
              go_simp
              with_reducible rfl
             rotate_left
             ·simp only [Act.put, List.setIfInBounds_toArray, List.set_cons_zero, List.set_cons_succ, i64_w, i32_w]
              rfl
             refine one_ (i := 9) (N := some 40) m14 rfl rfl (one_of HT_.out (by kernel_rfl)) (by decide) (fun K hK => ?_)
             refine goes_ Try.func56 (by kernel_rfl) rfl #[.pointer (some ⟨g374, 0, none⟩)] (by rfl) rfl rfl (by (try simp only [List.map_toArray, List.map_cons, List.map_nil]); first | done | rfl | (simp only [List.length_drop, List.length_take]; rfl)) ?_
             with_reducible refine (conn_Conn_Owner.calls g374 t403 t404 t405 t406 t407 t408 t409 t410 t411 t412 t413 t414 t415 w _ ?side1 ?side2 (by first | exact A36.out | (have h_ := A36.out; exact h_))).mono ?_
             (case side1 => repeat (first | (with_reducible first | exact HI374.out | apply ta | apply tn | apply td | apply t0 | apply t1 | apply t2 | apply t3 | apply t4 | apply t5 | refine tf ?_ NB374_383.out _) | exact HI374.out))
             (case side2 => repeat (first | (with_reducible first | exact HB.out | apply below_alloc | apply pw_below_drewN | apply below_drew1 | refine below_set ?_ (IsS137.ge HI374.out) | refine below_set ?_ (IsS109.ge HI381.out) | refine below_set ?_ GE383.out) | exact HB.out))
             rintro e w56 ⟨rfl, hi, hb, hk⟩
             refine ⟨_, rfl, ?_⟩
             have n0_ := Aside0.mk ((IsS109.but (show IsS109 w _ g381 t396 t397 t398 t399 t400 t401 from by repeat (first | (with_reducible first | exact HI381.out | apply sa | apply sn | apply sd | apply s0 | apply s1 | apply s2 | apply s3 | apply s4 | apply s5 | refine sf ?_ NB381_383.out _) | exact HI381.out)) (show IsS137 w _ g374 t403 t404 t405 t406 t407 t408 from by repeat (first | (with_reducible first | exact HI374.out | apply ta | apply tn | apply td | apply t0 | apply t1 | apply t2 | apply t3 | apply t4 | apply t5 | refine tf ?_ NB374_383.out _) | exact HI374.out)).1 (by decide) hk (by simp)))
             have n1_ := Aside0.mk (KeepBut.blk hk (g' := gb383) (o := .cells #[.int .i64 ((rd_T102 l1 x20_1).f0), .int .i64 ((rd_T102 l1 x20_1).f1), .int .u64 ((rd_T102 l1 x20_1).f2)] 102 (0, 0)) (by (with_reducible repeat (first | refine blk_drewN ?_ _ | refine blk_drew ?_ | refine blk_alloc ?_ _)); exact BK383.out) NB383_374.out (by simp))
             have n2_ := Aside0.mk (hb)
             have n3_ := Aside0.mk (hi)
             clear HI381
             clear BK383
             clear HB
             clear HI374
             have HI381 := n0_
             have BK383 := n1_
             have HB := n2_
             have HI374 := n3_
             clear n0_ n1_ n2_ n3_
             (try clear hb)
             (try clear hb2)
             (try clear hk)
             (try clear hi)
             refine hK.out _ _ ⟨(blk_cell (Aside0.mk HI381.out.1).out 0).trans rfl, (blk_cell (Aside0.mk HI381.out.1).out 1).trans rfl, (blk_cell (Aside0.mk HI381.out.1).out 2).trans rfl, (blk_cell (Aside0.mk HI381.out.1).out 3).trans rfl, (blk_cell (Aside0.mk HI381.out.1).out 4).trans rfl, (blk_cell (Aside0.mk HI381.out.1).out 5).trans rfl⟩ (fun hHeld => ?_)
             clear hK K
             refine norm_ (a' := ?_) ?_ ?_
             rotate_left
             ·show Act.put _ (some 40) _ = _
              simp only [Act.put, List.setIfInBounds_toArray, List.set_cons_zero, List.set_cons_succ, i64_w, i32_w]
              rfl
             refine pure_ (i := 14) (N := some 45) (v := ?_) (a' := ?_) m15 rfl rfl (any_of HT_.out (by kernel_rfl)) (fun _ _ _ h => h) (Or.inl ⟨by rfl, ?_⟩) ?_ ?_
             rotate_left
             ·intro w'
              go_simp
              with_reducible rfl
             rotate_left
             ·simp only [Act.put, List.setIfInBounds_toArray, List.set_cons_zero, List.set_cons_succ, i64_w, i32_w]
              rfl
             refine pure_ (i := 15) (N := some 46) (v := ?_) (a' := ?_) m16 rfl rfl (any_of HT_.out (by kernel_rfl)) (fun _ _ _ h => h) (Or.inl ⟨by rfl, ?_⟩) ?_ ?_
             rotate_left
             ·intro w'
              go_simp
              with_reducible rfl
             rotate_left
             ·simp only [Act.put, List.setIfInBounds_toArray, List.set_cons_zero, List.set_cons_succ, i64_w, i32_w]
              rfl
             refine pure_ (i := 16) (N := some 47) (v := ?_) (a' := ?_) m17 rfl rfl (any_of HT_.out (by kernel_rfl)) (fun _ _ _ h => h) (Or.inl ⟨by rfl, ?_⟩) ?_ ?_
             rotate_left
             ·intro w'
              go_simp
              with_reducible rfl
             rotate_left
             ·simp only [Act.put, List.setIfInBounds_toArray, List.set_cons_zero, List.set_cons_succ, i64_w, i32_w]
              rfl
             refine pure_ (i := 17) (N := some 48) (v := ?_) (a' := ?_) m18 rfl rfl (any_of HT_.out (by kernel_rfl)) (fun _ _ _ h => h) (Or.inl ⟨by rfl, ?_⟩) ?_ ?_
             rotate_left
             ·intro w'
              go_simp
              with_reducible rfl
             rotate_left
             ·simp only [Act.put, List.setIfInBounds_toArray, List.set_cons_zero, List.set_cons_succ, i64_w, i32_w]
              rfl
             refine pure_ (i := 19) (N := some 50) (v := ?_) (a' := ?_) m19 rfl rfl (any_of HT_.out (by kernel_rfl)) (fun _ _ _ h => h) (Or.inl ⟨by rfl, ?_⟩) ?_ ?_
             rotate_left
             ·intro w'
              go_simp
              with_reducible rfl
             rotate_left
             ·simp only [Act.put, List.setIfInBounds_toArray, List.set_cons_zero, List.set_cons_succ, i64_w, i32_w]
              rfl
             refine pure_ (i := 20) (N := some 51) (v := ?_) (a' := ?_) m20 rfl rfl (any_of HT_.out (by kernel_rfl)) (fun _ _ _ h => h) (Or.inl ⟨by rfl, ?_⟩) ?_ ?_
             rotate_left
             ·intro w'
              go_simp
              with_reducible rfl
             rotate_left
             ·simp only [Act.put, List.setIfInBounds_toArray, List.set_cons_zero, List.set_cons_succ, i64_w, i32_w]
              rfl
             refine pure_ (i := 21) (N := some 52) (v := ?_) (a' := ?_) m21 rfl rfl (any_of HT_.out (by kernel_rfl)) (fun _ _ _ h => h) (Or.inl ⟨by rfl, ?_⟩) ?_ ?_
             rotate_left
             ·intro w'
              go_simp
              with_reducible rfl
             rotate_left
             ·simp only [Act.put, List.setIfInBounds_toArray, List.set_cons_zero, List.set_cons_succ, i64_w, i32_w]
              rfl
             refine take_ (i := 22) (N := some 53) (v := ?_) (a' := ?_) m22 rfl rfl (take_ofW HT_.out HW_.out (by kernel_rfl)) (fun _ _ _ h => h) (Or.inl ⟨by rfl, ?_⟩) hHeld ?_ ?_
             rotate_left
             ·rintro w' ⟨s0, s1, s2, s3, s4, s5⟩
              go_simp
              with_reducible rfl
             rotate_left
             ·simp only [Act.put, List.setIfInBounds_toArray, List.set_cons_zero, List.set_cons_succ, i64_w, i32_w]
              rfl
             refine one_ (i := 18) (N := some 49) m23 rfl rfl (one_of HT_.out (by kernel_rfl)) (by decide) (fun K hK => ?_)
             refine goes_ Try.func57 (by kernel_rfl) rfl #[.pointer (some ⟨g374, 0, none⟩)] (by rfl) rfl rfl (by (try simp only [List.map_toArray, List.map_cons, List.map_nil]); first | done | rfl | (simp only [List.length_drop, List.length_take]; rfl)) ?_
             with_reducible refine (conn_Conn_Flight.calls g374 t410 t411 t412 t413 t414 t415 t416 t417 t418 t419 t420 t421 t422 w _ ?side1 ?side2 (by first | exact A38.out | (have h_ := A38.out; exact h_))).mono ?_
             (case side1 => repeat (first | (with_reducible first | exact HI374.out | apply ta | apply tn | apply td | apply t0 | apply t1 | apply t2 | apply t3 | apply t4 | apply t5 | refine tf ?_ NB374_383.out _) | exact HI374.out))
             (case side2 => repeat (first | (with_reducible first | exact HB.out | apply below_alloc | apply pw_below_drewN | apply below_drew1 | refine below_set ?_ (IsS137.ge HI374.out) | refine below_set ?_ (IsS109.ge HI381.out) | refine below_set ?_ GE383.out) | exact HB.out))
             rintro e w57 ⟨rfl, hi, hb, hk⟩
             refine ⟨_, rfl, ?_⟩
             have n0_ := Aside0.mk ((IsS109.but (show IsS109 w _ g381 t396 t397 t398 t399 t400 t401 from by repeat (first | (with_reducible first | exact HI381.out | apply sa | apply sn | apply sd | apply s0 | apply s1 | apply s2 | apply s3 | apply s4 | apply s5 | refine sf ?_ NB381_383.out _) | exact HI381.out)) (show IsS137 w _ g374 t410 t411 t412 t413 t414 t415 from by repeat (first | (with_reducible first | exact HI374.out | apply ta | apply tn | apply td | apply t0 | apply t1 | apply t2 | apply t3 | apply t4 | apply t5 | refine tf ?_ NB374_383.out _) | exact HI374.out)).1 (by decide) hk (by simp)))
             have n1_ := Aside0.mk (KeepBut.blk hk (g' := gb383) (o := .cells #[.int .i64 ((rd_T102 l1 x20_1).f0), .int .i64 ((rd_T102 l1 x20_1).f1), .int .u64 ((rd_T102 l1 x20_1).f2)] 102 (0, 0)) (by (with_reducible repeat (first | refine blk_drewN ?_ _ | refine blk_drew ?_ | refine blk_alloc ?_ _)); exact BK383.out) NB383_374.out (by simp))
             have n2_ := Aside0.mk (hb)
             have n3_ := Aside0.mk (hi)
             clear HI381
             clear BK383
             clear HB
             clear HI374
             have HI381 := n0_
             have BK383 := n1_
             have HB := n2_
             have HI374 := n3_
             clear n0_ n1_ n2_ n3_
             (try clear hb)
             (try clear hb2)
             (try clear hk)
             (try clear hi)
             refine hK.out _ _ ⟨(blk_cell (Aside0.mk HI381.out.1).out 0).trans rfl, (blk_cell (Aside0.mk HI381.out.1).out 1).trans rfl, (blk_cell (Aside0.mk HI381.out.1).out 2).trans rfl, (blk_cell (Aside0.mk HI381.out.1).out 3).trans rfl, (blk_cell (Aside0.mk HI381.out.1).out 4).trans rfl, (blk_cell (Aside0.mk HI381.out.1).out 5).trans rfl⟩ (fun hHeld => ?_)
             clear hK K
             refine norm_ (a' := ?_) ?_ ?_
             rotate_left
             ·show Act.put _ (some 49) _ = _
              simp only [Act.put, List.setIfInBounds_toArray, List.set_cons_zero, List.set_cons_succ, i64_w, i32_w]
              rfl
             refine pure_ (i := 23) (N := some 54) (v := ?_) (a' := ?_) m24 rfl rfl (any_of HT_.out (by kernel_rfl)) (fun _ _ _ h => h) (Or.inl ⟨by rfl, ?_⟩) ?_ ?_
             rotate_left
             ·intro w'
              go_simp
              with_reducible rfl
             rotate_left
             ·simp only [Act.put, List.setIfInBounds_toArray, List.set_cons_zero, List.set_cons_succ, i64_w, i32_w]
              rfl
             refine pure_ (i := 24) (N := some 55) (v := ?_) (a' := ?_) m25 rfl rfl (any_of HT_.out (by kernel_rfl)) (fun _ _ _ h => h) (Or.inl ⟨by rfl, ?_⟩) ?_ ?_
             rotate_left
             ·intro w'
              go_simp
              with_reducible rfl
             rotate_left
             ·simp only [Act.put, List.setIfInBounds_toArray, List.set_cons_zero, List.set_cons_succ, i64_w, i32_w]
              rfl
             refine pure_ (i := 25) (N := some 56) (v := ?_) (a' := ?_) m26 rfl rfl (any_of HT_.out (by kernel_rfl)) (fun _ _ _ h => h) (Or.inl ⟨by rfl, ?_⟩) ?_ ?_
             rotate_left
             ·intro w'
              go_simp
              with_reducible rfl
             rotate_left
             ·simp only [Act.put, List.setIfInBounds_toArray, List.set_cons_zero, List.set_cons_succ, i64_w, i32_w]
              rfl
             refine pure_ (i := 26) (N := some 57) (v := undef) (a' := ?_) m27 rfl rfl (any_of HT_.out (by kernel_rfl)) (fun _ _ _ h => h) (Or.inr ⟨by rfl, rfl⟩) ?_ ?_
             rotate_left
             ·simp only [Act.put, List.setIfInBounds_toArray, List.set_cons_zero, List.set_cons_succ, i64_w, i32_w]
              rfl
             refine pure_ (i := 27) (N := some 58) (v := undef) (a' := ?_) m48 rfl rfl (any_of HT_.out (by kernel_rfl)) (fun _ _ _ h => h) (Or.inr ⟨by rfl, rfl⟩) ?_ ?_
             rotate_left
             ·simp only [Act.put, List.setIfInBounds_toArray, List.set_cons_zero, List.set_cons_succ, i64_w, i32_w]
              rfl
             refine pure_ (i := 28) (N := some 59) (v := undef) (a' := ?_) m49 rfl rfl (any_of HT_.out (by kernel_rfl)) (fun _ _ _ h => h) (Or.inr ⟨by rfl, rfl⟩) ?_ ?_
             rotate_left
             ·simp only [Act.put, List.setIfInBounds_toArray, List.set_cons_zero, List.set_cons_succ, i64_w, i32_w]
              rfl
             refine pure_ (i := 29) (N := some 60) (v := undef) (a' := ?_) m50 rfl rfl (any_of HT_.out (by kernel_rfl)) (fun _ _ _ h => h) (Or.inr ⟨by rfl, rfl⟩) ?_ ?_
             rotate_left
             ·simp only [Act.put, List.setIfInBounds_toArray, List.set_cons_zero, List.set_cons_succ, i64_w, i32_w]
              rfl
             refine pure_ (i := 30) (N := some 61) (v := undef) (a' := ?_) m51 rfl rfl (any_of HT_.out (by kernel_rfl)) (fun _ _ _ h => h) (Or.inr ⟨by rfl, rfl⟩) ?_ ?_
             rotate_left
             ·simp only [Act.put, List.setIfInBounds_toArray, List.set_cons_zero, List.set_cons_succ, i64_w, i32_w]
              rfl
             refine pure_ (i := 31) (N := some 62) (v := undef) (a' := ?_) m32 rfl rfl (any_of HT_.out (by kernel_rfl)) (fun _ _ _ h => h) (Or.inr ⟨by rfl, rfl⟩) ?_ ?_
             rotate_left
             ·simp only [Act.put, List.setIfInBounds_toArray, List.set_cons_zero, List.set_cons_succ, i64_w, i32_w]
              rfl
             refine pure_ (i := 32) (N := some 63) (v := undef) (a' := ?_) m33 rfl rfl (any_of HT_.out (by kernel_rfl)) (fun _ _ _ h => h) (Or.inr ⟨by rfl, rfl⟩) ?_ ?_
             rotate_left
             ·simp only [Act.put, List.setIfInBounds_toArray, List.set_cons_zero, List.set_cons_succ, i64_w, i32_w]
              rfl
             refine pure_ (i := 33) (N := some 64) (v := ?_) (a' := ?_) m34 rfl rfl (any_of HT_.out (by kernel_rfl)) (fun _ _ _ h => h) (Or.inl ⟨by rfl, ?_⟩) ?_ ?_
             rotate_left
             ·intro w'
              go_simp
              with_reducible rfl
             rotate_left
             ·simp only [Act.put, List.setIfInBounds_toArray, List.set_cons_zero, List.set_cons_succ, i64_w, i32_w]
              rfl
             refine pure_ (i := 34) (N := some 65) (v := ?_) (a' := ?_) m35 rfl rfl (any_of HT_.out (by kernel_rfl)) (fun _ _ _ h => h) (Or.inl ⟨by rfl, ?_⟩) ?_ ?_
             rotate_left
             ·intro w'
              go_simp
              with_reducible rfl
             rotate_left
             ·simp only [Act.put, List.setIfInBounds_toArray, List.set_cons_zero, List.set_cons_succ, i64_w, i32_w]
              rfl
             refine pure_ (i := 35) (N := some 66) (v := undef) (a' := ?_) m36 rfl rfl (any_of HT_.out (by kernel_rfl)) (fun _ _ _ h => h) (Or.inr ⟨by rfl, rfl⟩) ?_ ?_
             rotate_left
             ·simp only [Act.put, List.setIfInBounds_toArray, List.set_cons_zero, List.set_cons_succ, i64_w, i32_w]
              rfl
             refine pure_ (i := 36) (N := some 67) (v := undef) (a' := ?_) m44 rfl rfl (any_of HT_.out (by kernel_rfl)) (fun _ _ _ h => h) (Or.inr ⟨by rfl, rfl⟩) ?_ ?_
             rotate_left
             ·simp only [Act.put, List.setIfInBounds_toArray, List.set_cons_zero, List.set_cons_succ, i64_w, i32_w]
              rfl
             refine pure_ (i := 37) (N := some 68) (v := undef) (a' := ?_) m45 rfl rfl (any_of HT_.out (by kernel_rfl)) (fun _ _ _ h => h) (Or.inr ⟨by rfl, rfl⟩) ?_ ?_
             rotate_left
             ·simp only [Act.put, List.setIfInBounds_toArray, List.set_cons_zero, List.set_cons_succ, i64_w, i32_w]
              rfl
             refine pure_ (i := 38) (N := some 69) (v := undef) (a' := ?_) m46 rfl rfl (any_of HT_.out (by kernel_rfl)) (fun _ _ _ h => h) (Or.inr ⟨by rfl, rfl⟩) ?_ ?_
             rotate_left
             ·simp only [Act.put, List.setIfInBounds_toArray, List.set_cons_zero, List.set_cons_succ, i64_w, i32_w]
              rfl
             refine pure_ (i := 39) (N := some 70) (v := undef) (a' := ?_) m47 rfl rfl (any_of HT_.out (by kernel_rfl)) (fun _ _ _ h => h) (Or.inr ⟨by rfl, rfl⟩) ?_ ?_
             rotate_left
             ·simp only [Act.put, List.setIfInBounds_toArray, List.set_cons_zero, List.set_cons_succ, i64_w, i32_w]
              rfl
             refine pure_ (i := 40) (N := some 71) (v := undef) (a' := ?_) m41 rfl rfl (any_of HT_.out (by kernel_rfl)) (fun _ _ _ h => h) (Or.inr ⟨by rfl, rfl⟩) ?_ ?_
             rotate_left
             ·simp only [Act.put, List.setIfInBounds_toArray, List.set_cons_zero, List.set_cons_succ, i64_w, i32_w]
              rfl
             refine pure_ (i := 41) (N := some 72) (v := undef) (a' := ?_) m42 rfl rfl (any_of HT_.out (by kernel_rfl)) (fun _ _ _ h => h) (Or.inr ⟨by rfl, rfl⟩) ?_ ?_
             rotate_left
             ·simp only [Act.put, List.setIfInBounds_toArray, List.set_cons_zero, List.set_cons_succ, i64_w, i32_w]
              rfl
             refine pure_ (i := 42) (N := some 73) (v := ?_) (a' := ?_) m43 rfl rfl (any_of HT_.out (by kernel_rfl)) (fun _ _ _ h => h) (Or.inl ⟨by rfl, ?_⟩) ?_ ?_
             rotate_left
             ·intro w'
              go_simp
              with_reducible rfl
             rotate_left
             ·simp only [Act.put, List.setIfInBounds_toArray, List.set_cons_zero, List.set_cons_succ, i64_w, i32_w]
              rfl
             refine done_ (done_of HT_.out (by kernel_rfl)) ?_
             try go_wp2
             go_meet
             case rel => exact ⟨_, (true), (t417), (t418), (t419), (t420), (t421), (t422), (by first | rfl | (simp; done) | (simp [*]; done)), H', ⟨by have := HK1.out; first | omega | exact Nat.le_refl _⟩, ⟨by (with_reducible repeat (first | refine blk_drewN ?_ _ | refine blk_drew ?_ | refine blk_alloc ?_ _)); exact BK383.out⟩, ⟨by repeat (first | (with_reducible first | exact HI374.out | apply ta | apply tn | apply td | apply t0 | apply t1 | apply t2 | apply t3 | apply t4 | apply t5 | refine tf ?_ NB374_383.out _) | exact HI374.out)⟩, ⟨by repeat (first | (with_reducible first | exact HI381.out | apply sa | apply sn | apply sd | apply s0 | apply s1 | apply s2 | apply s3 | apply s4 | apply s5 | refine sf ?_ NB381_383.out _) | exact HI381.out)⟩, ⟨by repeat (first | (with_reducible first | exact HB.out | apply below_alloc | apply pw_below_drewN | apply below_drew1 | refine below_set ?_ (IsS137.ge HI374.out) | refine below_set ?_ (IsS109.ge HI381.out) | refine below_set ?_ GE383.out) | exact HB.out)⟩⟩
           ·rw [if_neg c37] at H
            have c37b0 : (t409 == t398) = false := beq_eq_false_iff_ne.mpr c37
            have c37b1 : (t409 != t398) = true := bne_iff_ne.mpr c37
            have H' := Aside0.mk H
            clear H
            try go_wp2
            have n0_ := Aside0.mk (blk_drew BK383.out)
            have n1_ := Aside0.mk (IsS137.drew HI374.out)
            have n2_ := Aside0.mk (IsS109.drew HI381.out)
            have n3_ := Aside0.mk (below_drew1 HB.out)
            clear BK383
            clear HI374
            clear HI381
            clear HB
            have BK383 := n0_
            have HI374 := n1_
            have HI381 := n2_
            have HB := n3_
            clear n0_ n1_ n2_ n3_
            refine start_ (n := 43) (S := fun w' => w'.cell? ⟨g381, 0, none⟩ = some (.int .u64 t396) ∧ w'.cell? ⟨g381, 1, none⟩ = some (.int .i64 t397) ∧ w'.cell? ⟨g381, 2, none⟩ = some (.int .i64 t398) ∧ w'.cell? ⟨g381, 3, none⟩ = some (.int .u64 t399) ∧ w'.cell? ⟨g381, 4, none⟩ = some (.bool t400) ∧ w'.cell? ⟨g381, 5, none⟩ = some (.int .i64 t401)) (ds := []) m0 (by kernel_rfl) rfl rfl ⟨(blk_cell (Aside0.mk HI381.out.1).out 0).trans rfl, (blk_cell (Aside0.mk HI381.out.1).out 1).trans rfl, (blk_cell (Aside0.mk HI381.out.1).out 2).trans rfl, (blk_cell (Aside0.mk HI381.out.1).out 3).trans rfl, (blk_cell (Aside0.mk HI381.out.1).out 4).trans rfl, (blk_cell (Aside0.mk HI381.out.1).out 5).trans rfl⟩ (fun hHeld => ?_); refine with_tabW signalmanlaw09_ConnDoes.tab11 signalmanlaw09_ConnDoes.bits11 (fun HT_ HW_ => ?_)
            generalize w33.drew = w58 at BK383 HI374 HI381 HB hHeld ⊢
            refine pure_ (i := 0) (N := some 31) (v := ?_) (a' := ?_) m1 rfl rfl (any_of HT_.out (by kernel_rfl)) (fun _ _ _ h => h) (Or.inl ⟨by rfl, ?_⟩) ?_ ?_
            rotate_left
            ·intro w'
             go_simp
             with_reducible rfl
            rotate_left
            ·simp only [Act.put, List.setIfInBounds_toArray, List.set_cons_zero, List.set_cons_succ, i64_w, i32_w]
             rfl
            refine pure_ (i := 2) (N := some 33) (v := ?_) (a' := ?_) m2 rfl rfl (any_of HT_.out (by kernel_rfl)) (fun _ _ _ h => h) (Or.inl ⟨by rfl, ?_⟩) ?_ ?_
            rotate_left
            ·intro w'
             go_simp
             with_reducible rfl
            rotate_left
            ·simp only [Act.put, List.setIfInBounds_toArray, List.set_cons_zero, List.set_cons_succ, i64_w, i32_w]
             rfl
            refine pure_ (i := 3) (N := some 34) (v := ?_) (a' := ?_) m3 rfl rfl (any_of HT_.out (by kernel_rfl)) (fun _ _ _ h => h) (Or.inl ⟨by rfl, ?_⟩) ?_ ?_
            rotate_left
            ·intro w'
             go_simp
             with_reducible rfl
            rotate_left
            ·simp only [Act.put, List.setIfInBounds_toArray, List.set_cons_zero, List.set_cons_succ, i64_w, i32_w]
             rfl
            refine pure_ (i := 4) (N := some 35) (v := ?_) (a' := ?_) m4 rfl rfl (any_of HT_.out (by kernel_rfl)) (fun _ _ _ h => h) (Or.inl ⟨by rfl, ?_⟩) ?_ ?_
            rotate_left
            ·intro w'
             go_simp
             with_reducible rfl
            rotate_left
            ·simp only [Act.put, List.setIfInBounds_toArray, List.set_cons_zero, List.set_cons_succ, i64_w, i32_w]
             rfl
            refine take_ (i := 5) (N := some 36) (v := ?_) (a' := ?_) m5 rfl rfl (take_ofW HT_.out HW_.out (by kernel_rfl)) (fun _ _ _ h => h) (Or.inl ⟨by rfl, ?_⟩) hHeld ?_ ?_
            rotate_left
            ·rintro w' ⟨s0, s1, s2, s3, s4, s5⟩
             go_simp
             with_reducible rfl
            rotate_left
            ·simp only [Act.put, List.setIfInBounds_toArray, List.set_cons_zero, List.set_cons_succ, i64_w, i32_w]
             rfl
            refine one_ (i := 1) (N := some 32) m6 rfl rfl (one_of HT_.out (by kernel_rfl)) (by decide) (fun K hK => ?_)
            refine goes_ Try.func55 (by kernel_rfl) rfl #[.pointer (some ⟨g374, 0, none⟩)] (by rfl) rfl rfl (by (try simp only [List.map_toArray, List.map_cons, List.map_nil]); first | done | rfl | (simp only [List.length_drop, List.length_take]; rfl)) ?_
            with_reducible refine (conn_Conn_State.calls g374 t387 t388 t389 t390 t391 t392 t402 t403 t404 t405 t406 t407 t408 w _ ?side1 ?side2 (by first | exact A34.out | (have h_ := A34.out; exact h_))).mono ?_
            (case side1 => repeat (first | (with_reducible first | exact HI374.out | apply ta | apply tn | apply td | apply t0 | apply t1 | apply t2 | apply t3 | apply t4 | apply t5 | refine tf ?_ NB374_383.out _) | exact HI374.out))
            (case side2 => repeat (first | (with_reducible first | exact HB.out | apply below_alloc | apply pw_below_drewN | apply below_drew1 | refine below_set ?_ (IsS137.ge HI374.out) | refine below_set ?_ (IsS109.ge HI381.out) | refine below_set ?_ GE383.out) | exact HB.out))
            rintro e w59 ⟨rfl, hi, hb, hk⟩
            refine ⟨_, rfl, ?_⟩
            have n0_ := Aside0.mk ((IsS109.but (show IsS109 w _ g381 t396 t397 t398 t399 t400 t401 from by repeat (first | (with_reducible first | exact HI381.out | apply sa | apply sn | apply sd | apply s0 | apply s1 | apply s2 | apply s3 | apply s4 | apply s5 | refine sf ?_ NB381_383.out _) | exact HI381.out)) (show IsS137 w _ g374 t387 t388 t389 t390 t391 t392 from by repeat (first | (with_reducible first | exact HI374.out | apply ta | apply tn | apply td | apply t0 | apply t1 | apply t2 | apply t3 | apply t4 | apply t5 | refine tf ?_ NB374_383.out _) | exact HI374.out)).1 (by decide) hk (by simp)))
            have n1_ := Aside0.mk (KeepBut.blk hk (g' := gb383) (o := .cells #[.int .i64 ((rd_T102 l1 x20_1).f0), .int .i64 ((rd_T102 l1 x20_1).f1), .int .u64 ((rd_T102 l1 x20_1).f2)] 102 (0, 0)) (by (with_reducible repeat (first | refine blk_drewN ?_ _ | refine blk_drew ?_ | refine blk_alloc ?_ _)); exact BK383.out) NB383_374.out (by simp))
            have n2_ := Aside0.mk (hb)
            have n3_ := Aside0.mk (hi)
            clear HI381
            clear BK383
            clear HB
            clear HI374
            have HI381 := n0_
            have BK383 := n1_
            have HB := n2_
            have HI374 := n3_
            clear n0_ n1_ n2_ n3_
            (try clear hb)
            (try clear hb2)
            (try clear hk)
            (try clear hi)
            refine hK.out _ _ ⟨(blk_cell (Aside0.mk HI381.out.1).out 0).trans rfl, (blk_cell (Aside0.mk HI381.out.1).out 1).trans rfl, (blk_cell (Aside0.mk HI381.out.1).out 2).trans rfl, (blk_cell (Aside0.mk HI381.out.1).out 3).trans rfl, (blk_cell (Aside0.mk HI381.out.1).out 4).trans rfl, (blk_cell (Aside0.mk HI381.out.1).out 5).trans rfl⟩ (fun hHeld => ?_)
            clear hK K
            refine norm_ (a' := ?_) ?_ ?_
            rotate_left
            ·show Act.put _ (some 32) _ = _
             simp only [Act.put, List.setIfInBounds_toArray, List.set_cons_zero, List.set_cons_succ, i64_w, i32_w]
             rfl
            refine pure_ (i := 6) (N := some 37) (v := ?_) (a' := ?_) m7 rfl rfl (any_of HT_.out (by kernel_rfl)) (fun _ _ _ h => h) (Or.inl ⟨by rfl, ?_⟩) ?_ ?_
            rotate_left
            ·intro w'
             go_simp
             with_reducible rfl
            rotate_left
            ·simp only [Act.put, List.setIfInBounds_toArray, List.set_cons_zero, List.set_cons_succ, i64_w, i32_w]
             rfl
            refine pure_ (i := 7) (N := some 38) (v := ?_) (a' := ?_) m8 rfl rfl (any_of HT_.out (by kernel_rfl)) (fun _ _ _ h => h) (Or.inl ⟨by rfl, ?_⟩) ?_ ?_
            rotate_left
            ·intro w'
             go_simp
             with_reducible rfl
            rotate_left
            ·simp only [Act.put, List.setIfInBounds_toArray, List.set_cons_zero, List.set_cons_succ, i64_w, i32_w]
             rfl
            refine pure_ (i := 8) (N := some 39) (v := ?_) (a' := ?_) m9 rfl rfl (any_of HT_.out (by kernel_rfl)) (fun _ _ _ h => h) (Or.inl ⟨by rfl, ?_⟩) ?_ ?_
            rotate_left
            ·intro w'
             go_simp
             with_reducible rfl
            rotate_left
            ·simp only [Act.put, List.setIfInBounds_toArray, List.set_cons_zero, List.set_cons_succ, i64_w, i32_w]
             rfl
            refine pure_ (i := 10) (N := some 41) (v := ?_) (a' := ?_) m10 rfl rfl (any_of HT_.out (by kernel_rfl)) (fun _ _ _ h => h) (Or.inl ⟨by rfl, ?_⟩) ?_ ?_
            rotate_left
            ·intro w'
             go_simp
             with_reducible rfl
            rotate_left
            ·simp only [Act.put, List.setIfInBounds_toArray, List.set_cons_zero, List.set_cons_succ, i64_w, i32_w]
             rfl
            refine pure_ (i := 11) (N := some 42) (v := ?_) (a' := ?_) m11 rfl rfl (any_of HT_.out (by kernel_rfl)) (fun _ _ _ h => h) (Or.inl ⟨by rfl, ?_⟩) ?_ ?_
            rotate_left
            ·intro w'
             go_simp
             with_reducible rfl
            rotate_left
            ·simp only [Act.put, List.setIfInBounds_toArray, List.set_cons_zero, List.set_cons_succ, i64_w, i32_w]
             rfl
            refine pure_ (i := 12) (N := some 43) (v := ?_) (a' := ?_) m12 rfl rfl (any_of HT_.out (by kernel_rfl)) (fun _ _ _ h => h) (Or.inl ⟨by rfl, ?_⟩) ?_ ?_
            rotate_left
            ·intro w'
             go_simp
             with_reducible rfl
            rotate_left
            ·simp only [Act.put, List.setIfInBounds_toArray, List.set_cons_zero, List.set_cons_succ, i64_w, i32_w]
             rfl
            refine take_ (i := 13) (N := some 44) (v := ?_) (a' := ?_) m13 rfl rfl (take_ofW HT_.out HW_.out (by kernel_rfl)) (fun _ _ _ h => h) (Or.inl ⟨by rfl, ?_⟩) hHeld ?_ ?_
            rotate_left
            ·rintro w' ⟨s0, s1, s2, s3, s4, s5⟩
             go_simp
             with_reducible rfl
            rotate_left
            ·simp only [Act.put, List.setIfInBounds_toArray, List.set_cons_zero, List.set_cons_succ, i64_w, i32_w]
             rfl
            refine one_ (i := 9) (N := some 40) m14 rfl rfl (one_of HT_.out (by kernel_rfl)) (by decide) (fun K hK => ?_)
            refine goes_ Try.func56 (by kernel_rfl) rfl #[.pointer (some ⟨g374, 0, none⟩)] (by rfl) rfl rfl (by (try simp only [List.map_toArray, List.map_cons, List.map_nil]); first | done | rfl | (simp only [List.length_drop, List.length_take]; rfl)) ?_
            with_reducible refine (conn_Conn_Owner.calls g374 t403 t404 t405 t406 t407 t408 t409 t410 t411 t412 t413 t414 t415 w _ ?side1 ?side2 (by first | exact A36.out | (have h_ := A36.out; exact h_))).mono ?_
            (case side1 => repeat (first | (with_reducible first | exact HI374.out | apply ta | apply tn | apply td | apply t0 | apply t1 | apply t2 | apply t3 | apply t4 | apply t5 | refine tf ?_ NB374_383.out _) | exact HI374.out))
            (case side2 => repeat (first | (with_reducible first | exact HB.out | apply below_alloc | apply pw_below_drewN | apply below_drew1 | refine below_set ?_ (IsS137.ge HI374.out) | refine below_set ?_ (IsS109.ge HI381.out) | refine below_set ?_ GE383.out) | exact HB.out))
            rintro e w60 ⟨rfl, hi, hb, hk⟩
            refine ⟨_, rfl, ?_⟩
            have n0_ := Aside0.mk ((IsS109.but (show IsS109 w _ g381 t396 t397 t398 t399 t400 t401 from by repeat (first | (with_reducible first | exact HI381.out | apply sa | apply sn | apply sd | apply s0 | apply s1 | apply s2 | apply s3 | apply s4 | apply s5 | refine sf ?_ NB381_383.out _) | exact HI381.out)) (show IsS137 w _ g374 t403 t404 t405 t406 t407 t408 from by repeat (first | (with_reducible first | exact HI374.out | apply ta | apply tn | apply td | apply t0 | apply t1 | apply t2 | apply t3 | apply t4 | apply t5 | refine tf ?_ NB374_383.out _) | exact HI374.out)).1 (by decide) hk (by simp)))
            have n1_ := Aside0.mk (KeepBut.blk hk (g' := gb383) (o := .cells #[.int .i64 ((rd_T102 l1 x20_1).f0), .int .i64 ((rd_T102 l1 x20_1).f1), .int .u64 ((rd_T102 l1 x20_1).f2)] 102 (0, 0)) (by (with_reducible repeat (first | refine blk_drewN ?_ _ | refine blk_drew ?_ | refine blk_alloc ?_ _)); exact BK383.out) NB383_374.out (by simp))
            have n2_ := Aside0.mk (hb)
            have n3_ := Aside0.mk (hi)
            clear HI381
            clear BK383
            clear HB
            clear HI374
            have HI381 := n0_
            have BK383 := n1_
            have HB := n2_
            have HI374 := n3_
            clear n0_ n1_ n2_ n3_
            (try clear hb)
            (try clear hb2)
            (try clear hk)
            (try clear hi)
            refine hK.out _ _ ⟨(blk_cell (Aside0.mk HI381.out.1).out 0).trans rfl, (blk_cell (Aside0.mk HI381.out.1).out 1).trans rfl, (blk_cell (Aside0.mk HI381.out.1).out 2).trans rfl, (blk_cell (Aside0.mk HI381.out.1).out 3).trans rfl, (blk_cell (Aside0.mk HI381.out.1).out 4).trans rfl, (blk_cell (Aside0.mk HI381.out.1).out 5).trans rfl⟩ (fun hHeld => ?_)
            clear hK K
            refine norm_ (a' := ?_) ?_ ?_
            rotate_left
            ·show Act.put _ (some 40) _ = _
             simp only [Act.put, List.setIfInBounds_toArray, List.set_cons_zero, List.set_cons_succ, i64_w, i32_w]
             rfl
            refine pure_ (i := 14) (N := some 45) (v := ?_) (a' := ?_) m15 rfl rfl (any_of HT_.out (by kernel_rfl)) (fun _ _ _ h => h) (Or.inl ⟨by rfl, ?_⟩) ?_ ?_
            rotate_left
            ·intro w'
             go_simp
             with_reducible rfl
            rotate_left
            ·simp only [Act.put, List.setIfInBounds_toArray, List.set_cons_zero, List.set_cons_succ, i64_w, i32_w]
             rfl
            refine pure_ (i := 15) (N := some 46) (v := ?_) (a' := ?_) m16 rfl rfl (any_of HT_.out (by kernel_rfl)) (fun _ _ _ h => h) (Or.inl ⟨by rfl, ?_⟩) ?_ ?_
            rotate_left
            ·intro w'
             go_simp
             with_reducible rfl
            rotate_left
            ·simp only [Act.put, List.setIfInBounds_toArray, List.set_cons_zero, List.set_cons_succ, i64_w, i32_w]
             rfl
            refine pure_ (i := 16) (N := some 47) (v := ?_) (a' := ?_) m17 rfl rfl (any_of HT_.out (by kernel_rfl)) (fun _ _ _ h => h) (Or.inl ⟨by rfl, ?_⟩) ?_ ?_
            rotate_left
            ·intro w'
             go_simp
             with_reducible rfl
            rotate_left
            ·simp only [Act.put, List.setIfInBounds_toArray, List.set_cons_zero, List.set_cons_succ, i64_w, i32_w]
             rfl
            refine pure_ (i := 17) (N := some 48) (v := undef) (a' := ?_) m18 rfl rfl (any_of HT_.out (by kernel_rfl)) (fun _ _ _ h => h) (Or.inr ⟨by rfl, rfl⟩) ?_ ?_
            rotate_left
            ·simp only [Act.put, List.setIfInBounds_toArray, List.set_cons_zero, List.set_cons_succ, i64_w, i32_w]
             rfl
            refine pure_ (i := 18) (N := some 49) (v := undef) (a' := ?_) m52 rfl rfl (any_of HT_.out (by kernel_rfl)) (fun _ _ _ h => h) (Or.inr ⟨by rfl, rfl⟩) ?_ ?_
            rotate_left
            ·simp only [Act.put, List.setIfInBounds_toArray, List.set_cons_zero, List.set_cons_succ, i64_w, i32_w]
             rfl
            refine pure_ (i := 19) (N := some 50) (v := undef) (a' := ?_) m53 rfl rfl (any_of HT_.out (by kernel_rfl)) (fun _ _ _ h => h) (Or.inr ⟨by rfl, rfl⟩) ?_ ?_
            rotate_left
            ·simp only [Act.put, List.setIfInBounds_toArray, List.set_cons_zero, List.set_cons_succ, i64_w, i32_w]
             rfl
            refine pure_ (i := 20) (N := some 51) (v := undef) (a' := ?_) m54 rfl rfl (any_of HT_.out (by kernel_rfl)) (fun _ _ _ h => h) (Or.inr ⟨by rfl, rfl⟩) ?_ ?_
            rotate_left
            ·simp only [Act.put, List.setIfInBounds_toArray, List.set_cons_zero, List.set_cons_succ, i64_w, i32_w]
             rfl
            refine pure_ (i := 21) (N := some 52) (v := undef) (a' := ?_) m55 rfl rfl (any_of HT_.out (by kernel_rfl)) (fun _ _ _ h => h) (Or.inr ⟨by rfl, rfl⟩) ?_ ?_
            rotate_left
            ·simp only [Act.put, List.setIfInBounds_toArray, List.set_cons_zero, List.set_cons_succ, i64_w, i32_w]
             rfl
            refine pure_ (i := 22) (N := some 53) (v := undef) (a' := ?_) m23 rfl rfl (any_of HT_.out (by kernel_rfl)) (fun _ _ _ h => h) (Or.inr ⟨by rfl, rfl⟩) ?_ ?_
            rotate_left
            ·simp only [Act.put, List.setIfInBounds_toArray, List.set_cons_zero, List.set_cons_succ, i64_w, i32_w]
             rfl
            refine pure_ (i := 23) (N := some 54) (v := undef) (a' := ?_) m24 rfl rfl (any_of HT_.out (by kernel_rfl)) (fun _ _ _ h => h) (Or.inr ⟨by rfl, rfl⟩) ?_ ?_
            rotate_left
            ·simp only [Act.put, List.setIfInBounds_toArray, List.set_cons_zero, List.set_cons_succ, i64_w, i32_w]
             rfl
            refine pure_ (i := 24) (N := some 55) (v := ?_) (a' := ?_) m25 rfl rfl (any_of HT_.out (by kernel_rfl)) (fun _ _ _ h => h) (Or.inl ⟨by rfl, ?_⟩) ?_ ?_
            rotate_left
            ·intro w'
             go_simp
             with_reducible rfl
            rotate_left
            ·simp only [Act.put, List.setIfInBounds_toArray, List.set_cons_zero, List.set_cons_succ, i64_w, i32_w]
             rfl
            refine pure_ (i := 25) (N := some 56) (v := ?_) (a' := ?_) m26 rfl rfl (any_of HT_.out (by kernel_rfl)) (fun _ _ _ h => h) (Or.inl ⟨by rfl, ?_⟩) ?_ ?_
            rotate_left
            ·intro w'
             go_simp
             with_reducible rfl
            rotate_left
            ·simp only [Act.put, List.setIfInBounds_toArray, List.set_cons_zero, List.set_cons_succ, i64_w, i32_w]
             rfl
            refine pure_ (i := 26) (N := some 57) (v := undef) (a' := ?_) m27 rfl rfl (any_of HT_.out (by kernel_rfl)) (fun _ _ _ h => h) (Or.inr ⟨by rfl, rfl⟩) ?_ ?_
            rotate_left
            ·simp only [Act.put, List.setIfInBounds_toArray, List.set_cons_zero, List.set_cons_succ, i64_w, i32_w]
             rfl
            refine pure_ (i := 27) (N := some 58) (v := undef) (a' := ?_) m48 rfl rfl (any_of HT_.out (by kernel_rfl)) (fun _ _ _ h => h) (Or.inr ⟨by rfl, rfl⟩) ?_ ?_
            rotate_left
            ·simp only [Act.put, List.setIfInBounds_toArray, List.set_cons_zero, List.set_cons_succ, i64_w, i32_w]
             rfl
            refine pure_ (i := 28) (N := some 59) (v := undef) (a' := ?_) m49 rfl rfl (any_of HT_.out (by kernel_rfl)) (fun _ _ _ h => h) (Or.inr ⟨by rfl, rfl⟩) ?_ ?_
            rotate_left
            ·simp only [Act.put, List.setIfInBounds_toArray, List.set_cons_zero, List.set_cons_succ, i64_w, i32_w]
             rfl
            refine pure_ (i := 29) (N := some 60) (v := undef) (a' := ?_) m50 rfl rfl (any_of HT_.out (by kernel_rfl)) (fun _ _ _ h => h) (Or.inr ⟨by rfl, rfl⟩) ?_ ?_
            rotate_left
            ·simp only [Act.put, List.setIfInBounds_toArray, List.set_cons_zero, List.set_cons_succ, i64_w, i32_w]
             rfl
            refine pure_ (i := 30) (N := some 61) (v := undef) (a' := ?_) m51 rfl rfl (any_of HT_.out (by kernel_rfl)) (fun _ _ _ h => h) (Or.inr ⟨by rfl, rfl⟩) ?_ ?_
            rotate_left
            ·simp only [Act.put, List.setIfInBounds_toArray, List.set_cons_zero, List.set_cons_succ, i64_w, i32_w]
             rfl
            refine pure_ (i := 31) (N := some 62) (v := undef) (a' := ?_) m32 rfl rfl (any_of HT_.out (by kernel_rfl)) (fun _ _ _ h => h) (Or.inr ⟨by rfl, rfl⟩) ?_ ?_
            rotate_left
            ·simp only [Act.put, List.setIfInBounds_toArray, List.set_cons_zero, List.set_cons_succ, i64_w, i32_w]
             rfl
            refine pure_ (i := 32) (N := some 63) (v := undef) (a' := ?_) m33 rfl rfl (any_of HT_.out (by kernel_rfl)) (fun _ _ _ h => h) (Or.inr ⟨by rfl, rfl⟩) ?_ ?_
            rotate_left
            ·simp only [Act.put, List.setIfInBounds_toArray, List.set_cons_zero, List.set_cons_succ, i64_w, i32_w]
             rfl
            refine pure_ (i := 33) (N := some 64) (v := ?_) (a' := ?_) m34 rfl rfl (any_of HT_.out (by kernel_rfl)) (fun _ _ _ h => h) (Or.inl ⟨by rfl, ?_⟩) ?_ ?_
            rotate_left
            ·intro w'
             go_simp
             with_reducible rfl
            rotate_left
            ·simp only [Act.put, List.setIfInBounds_toArray, List.set_cons_zero, List.set_cons_succ, i64_w, i32_w]
             rfl
            refine pure_ (i := 34) (N := some 65) (v := ?_) (a' := ?_) m35 rfl rfl (any_of HT_.out (by kernel_rfl)) (fun _ _ _ h => h) (Or.inl ⟨by rfl, ?_⟩) ?_ ?_
            rotate_left
            ·intro w'
             go_simp
             with_reducible rfl
            rotate_left
            ·simp only [Act.put, List.setIfInBounds_toArray, List.set_cons_zero, List.set_cons_succ, i64_w, i32_w]
             rfl
            refine pure_ (i := 35) (N := some 66) (v := undef) (a' := ?_) m36 rfl rfl (any_of HT_.out (by kernel_rfl)) (fun _ _ _ h => h) (Or.inr ⟨by rfl, rfl⟩) ?_ ?_
            rotate_left
            ·simp only [Act.put, List.setIfInBounds_toArray, List.set_cons_zero, List.set_cons_succ, i64_w, i32_w]
             rfl
            refine pure_ (i := 36) (N := some 67) (v := undef) (a' := ?_) m44 rfl rfl (any_of HT_.out (by kernel_rfl)) (fun _ _ _ h => h) (Or.inr ⟨by rfl, rfl⟩) ?_ ?_
            rotate_left
            ·simp only [Act.put, List.setIfInBounds_toArray, List.set_cons_zero, List.set_cons_succ, i64_w, i32_w]
             rfl
            refine pure_ (i := 37) (N := some 68) (v := undef) (a' := ?_) m45 rfl rfl (any_of HT_.out (by kernel_rfl)) (fun _ _ _ h => h) (Or.inr ⟨by rfl, rfl⟩) ?_ ?_
            rotate_left
            ·simp only [Act.put, List.setIfInBounds_toArray, List.set_cons_zero, List.set_cons_succ, i64_w, i32_w]
             rfl
            refine pure_ (i := 38) (N := some 69) (v := undef) (a' := ?_) m46 rfl rfl (any_of HT_.out (by kernel_rfl)) (fun _ _ _ h => h) (Or.inr ⟨by rfl, rfl⟩) ?_ ?_
            rotate_left
            ·simp only [Act.put, List.setIfInBounds_toArray, List.set_cons_zero, List.set_cons_succ, i64_w, i32_w]
             rfl
            refine pure_ (i := 39) (N := some 70) (v := undef) (a' := ?_) m47 rfl rfl (any_of HT_.out (by kernel_rfl)) (fun _ _ _ h => h) (Or.inr ⟨by rfl, rfl⟩) ?_ ?_
            rotate_left
            ·simp only [Act.put, List.setIfInBounds_toArray, List.set_cons_zero, List.set_cons_succ, i64_w, i32_w]
             rfl
            refine pure_ (i := 40) (N := some 71) (v := undef) (a' := ?_) m41 rfl rfl (any_of HT_.out (by kernel_rfl)) (fun _ _ _ h => h) (Or.inr ⟨by rfl, rfl⟩) ?_ ?_
            rotate_left
            ·simp only [Act.put, List.setIfInBounds_toArray, List.set_cons_zero, List.set_cons_succ, i64_w, i32_w]
             rfl
            refine pure_ (i := 41) (N := some 72) (v := undef) (a' := ?_) m42 rfl rfl (any_of HT_.out (by kernel_rfl)) (fun _ _ _ h => h) (Or.inr ⟨by rfl, rfl⟩) ?_ ?_
            rotate_left
            ·simp only [Act.put, List.setIfInBounds_toArray, List.set_cons_zero, List.set_cons_succ, i64_w, i32_w]
             rfl
            refine pure_ (i := 42) (N := some 73) (v := ?_) (a' := ?_) m43 rfl rfl (any_of HT_.out (by kernel_rfl)) (fun _ _ _ h => h) (Or.inl ⟨by rfl, ?_⟩) ?_ ?_
            rotate_left
            ·intro w'
             go_simp
             with_reducible rfl
            rotate_left
            ·simp only [Act.put, List.setIfInBounds_toArray, List.set_cons_zero, List.set_cons_succ, i64_w, i32_w]
             rfl
            refine done_ (done_of HT_.out (by kernel_rfl)) ?_
            try go_wp2
            go_meet
            case rel => exact ⟨_, (true), (t410), (t411), (t412), (t413), (t414), (t415), (by first | rfl | (simp; done) | (simp [*]; done)), H', ⟨by have := HK1.out; first | omega | exact Nat.le_refl _⟩, ⟨by (with_reducible repeat (first | refine blk_drewN ?_ _ | refine blk_drew ?_ | refine blk_alloc ?_ _)); exact BK383.out⟩, ⟨by repeat (first | (with_reducible first | exact HI374.out | apply ta | apply tn | apply td | apply t0 | apply t1 | apply t2 | apply t3 | apply t4 | apply t5 | refine tf ?_ NB374_383.out _) | exact HI374.out)⟩, ⟨by repeat (first | (with_reducible first | exact HI381.out | apply sa | apply sn | apply sd | apply s0 | apply s1 | apply s2 | apply s3 | apply s4 | apply s5 | refine sf ?_ NB381_383.out _) | exact HI381.out)⟩, ⟨by repeat (first | (with_reducible first | exact HB.out | apply below_alloc | apply pw_below_drewN | apply below_drew1 | refine below_set ?_ (IsS137.ge HI374.out) | refine below_set ?_ (IsS109.ge HI381.out) | refine below_set ?_ GE383.out) | exact HB.out)⟩⟩
          ·rw [if_neg c35] at H
           have c35b0 : (t402 == t397) = false := beq_eq_false_iff_ne.mpr c35
           have c35b1 : (t402 != t397) = true := bne_iff_ne.mpr c35
           (first | rw [c35b0] | (simp only [i64_w, i32_w]; rw [c35b0]) | skip)
           have H' := Aside0.mk H
           clear H
           try go_wp2
           have n0_ := Aside0.mk (blk_drew BK383.out)
           have n1_ := Aside0.mk (IsS137.drew HI374.out)
           have n2_ := Aside0.mk (IsS109.drew HI381.out)
           have n3_ := Aside0.mk (below_drew1 HB.out)
           clear BK383
           clear HI374
           clear HI381
           clear HB
           have BK383 := n0_
           have HI374 := n1_
           have HI381 := n2_
           have HB := n3_
           clear n0_ n1_ n2_ n3_
           refine start_ (n := 43) (S := fun w' => w'.cell? ⟨g381, 0, none⟩ = some (.int .u64 t396) ∧ w'.cell? ⟨g381, 1, none⟩ = some (.int .i64 t397) ∧ w'.cell? ⟨g381, 2, none⟩ = some (.int .i64 t398) ∧ w'.cell? ⟨g381, 3, none⟩ = some (.int .u64 t399) ∧ w'.cell? ⟨g381, 4, none⟩ = some (.bool t400) ∧ w'.cell? ⟨g381, 5, none⟩ = some (.int .i64 t401)) (ds := []) m0 (by kernel_rfl) rfl rfl ⟨(blk_cell (Aside0.mk HI381.out.1).out 0).trans rfl, (blk_cell (Aside0.mk HI381.out.1).out 1).trans rfl, (blk_cell (Aside0.mk HI381.out.1).out 2).trans rfl, (blk_cell (Aside0.mk HI381.out.1).out 3).trans rfl, (blk_cell (Aside0.mk HI381.out.1).out 4).trans rfl, (blk_cell (Aside0.mk HI381.out.1).out 5).trans rfl⟩ (fun hHeld => ?_); refine with_tabW signalmanlaw09_ConnDoes.tab11 signalmanlaw09_ConnDoes.bits11 (fun HT_ HW_ => ?_)
           generalize w33.drew = w61 at BK383 HI374 HI381 HB hHeld ⊢
           refine pure_ (i := 0) (N := some 31) (v := ?_) (a' := ?_) m1 rfl rfl (any_of HT_.out (by kernel_rfl)) (fun _ _ _ h => h) (Or.inl ⟨by rfl, ?_⟩) ?_ ?_
           rotate_left
           ·intro w'
            go_simp
            with_reducible rfl
           rotate_left
           ·simp only [Act.put, List.setIfInBounds_toArray, List.set_cons_zero, List.set_cons_succ, i64_w, i32_w]
            rfl
           refine pure_ (i := 2) (N := some 33) (v := ?_) (a' := ?_) m2 rfl rfl (any_of HT_.out (by kernel_rfl)) (fun _ _ _ h => h) (Or.inl ⟨by rfl, ?_⟩) ?_ ?_
           rotate_left
           ·intro w'
            go_simp
            with_reducible rfl
           rotate_left
           ·simp only [Act.put, List.setIfInBounds_toArray, List.set_cons_zero, List.set_cons_succ, i64_w, i32_w]
            rfl
           refine pure_ (i := 3) (N := some 34) (v := ?_) (a' := ?_) m3 rfl rfl (any_of HT_.out (by kernel_rfl)) (fun _ _ _ h => h) (Or.inl ⟨by rfl, ?_⟩) ?_ ?_
           rotate_left
           ·intro w'
            go_simp
            with_reducible rfl
           rotate_left
           ·simp only [Act.put, List.setIfInBounds_toArray, List.set_cons_zero, List.set_cons_succ, i64_w, i32_w]
            rfl
           refine pure_ (i := 4) (N := some 35) (v := ?_) (a' := ?_) m4 rfl rfl (any_of HT_.out (by kernel_rfl)) (fun _ _ _ h => h) (Or.inl ⟨by rfl, ?_⟩) ?_ ?_
           rotate_left
           ·intro w'
            go_simp
            with_reducible rfl
           rotate_left
           ·simp only [Act.put, List.setIfInBounds_toArray, List.set_cons_zero, List.set_cons_succ, i64_w, i32_w]
            rfl
           refine take_ (i := 5) (N := some 36) (v := ?_) (a' := ?_) m5 rfl rfl (take_ofW HT_.out HW_.out (by kernel_rfl)) (fun _ _ _ h => h) (Or.inl ⟨by rfl, ?_⟩) hHeld ?_ ?_
           rotate_left
           ·rintro w' ⟨s0, s1, s2, s3, s4, s5⟩
            go_simp
            with_reducible rfl
           rotate_left
           ·simp only [Act.put, List.setIfInBounds_toArray, List.set_cons_zero, List.set_cons_succ, i64_w, i32_w]
            rfl
           refine one_ (i := 1) (N := some 32) m6 rfl rfl (one_of HT_.out (by kernel_rfl)) (by decide) (fun K hK => ?_)
           refine goes_ Try.func55 (by kernel_rfl) rfl #[.pointer (some ⟨g374, 0, none⟩)] (by rfl) rfl rfl (by (try simp only [List.map_toArray, List.map_cons, List.map_nil]); first | done | rfl | (simp only [List.length_drop, List.length_take]; rfl)) ?_
           with_reducible refine (conn_Conn_State.calls g374 t387 t388 t389 t390 t391 t392 t402 t403 t404 t405 t406 t407 t408 w _ ?side1 ?side2 (by first | exact A34.out | (have h_ := A34.out; exact h_))).mono ?_
           (case side1 => repeat (first | (with_reducible first | exact HI374.out | apply ta | apply tn | apply td | apply t0 | apply t1 | apply t2 | apply t3 | apply t4 | apply t5 | refine tf ?_ NB374_383.out _) | exact HI374.out))
           (case side2 => repeat (first | (with_reducible first | exact HB.out | apply below_alloc | apply pw_below_drewN | apply below_drew1 | refine below_set ?_ (IsS137.ge HI374.out) | refine below_set ?_ (IsS109.ge HI381.out) | refine below_set ?_ GE383.out) | exact HB.out))
           rintro e w62 ⟨rfl, hi, hb, hk⟩
           refine ⟨_, rfl, ?_⟩
           have n0_ := Aside0.mk ((IsS109.but (show IsS109 w _ g381 t396 t397 t398 t399 t400 t401 from by repeat (first | (with_reducible first | exact HI381.out | apply sa | apply sn | apply sd | apply s0 | apply s1 | apply s2 | apply s3 | apply s4 | apply s5 | refine sf ?_ NB381_383.out _) | exact HI381.out)) (show IsS137 w _ g374 t387 t388 t389 t390 t391 t392 from by repeat (first | (with_reducible first | exact HI374.out | apply ta | apply tn | apply td | apply t0 | apply t1 | apply t2 | apply t3 | apply t4 | apply t5 | refine tf ?_ NB374_383.out _) | exact HI374.out)).1 (by decide) hk (by simp)))
           have n1_ := Aside0.mk (KeepBut.blk hk (g' := gb383) (o := .cells #[.int .i64 ((rd_T102 l1 x20_1).f0), .int .i64 ((rd_T102 l1 x20_1).f1), .int .u64 ((rd_T102 l1 x20_1).f2)] 102 (0, 0)) (by (with_reducible repeat (first | refine blk_drewN ?_ _ | refine blk_drew ?_ | refine blk_alloc ?_ _)); exact BK383.out) NB383_374.out (by simp))
           have n2_ := Aside0.mk (hb)
           have n3_ := Aside0.mk (hi)
           clear HI381
           clear BK383
           clear HB
           clear HI374
           have HI381 := n0_
           have BK383 := n1_
           have HB := n2_
           have HI374 := n3_
           clear n0_ n1_ n2_ n3_
           (try clear hb)
           (try clear hb2)
           (try clear hk)
           (try clear hi)
           refine hK.out _ _ ⟨(blk_cell (Aside0.mk HI381.out.1).out 0).trans rfl, (blk_cell (Aside0.mk HI381.out.1).out 1).trans rfl, (blk_cell (Aside0.mk HI381.out.1).out 2).trans rfl, (blk_cell (Aside0.mk HI381.out.1).out 3).trans rfl, (blk_cell (Aside0.mk HI381.out.1).out 4).trans rfl, (blk_cell (Aside0.mk HI381.out.1).out 5).trans rfl⟩ (fun hHeld => ?_)
           clear hK K
           refine norm_ (a' := ?_) ?_ ?_
           rotate_left
           ·show Act.put _ (some 32) _ = _
            simp only [Act.put, List.setIfInBounds_toArray, List.set_cons_zero, List.set_cons_succ, i64_w, i32_w]
            rfl
           refine pure_ (i := 6) (N := some 37) (v := ?_) (a' := ?_) m7 rfl rfl (any_of HT_.out (by kernel_rfl)) (fun _ _ _ h => h) (Or.inl ⟨by rfl, ?_⟩) ?_ ?_
           rotate_left
           ·intro w'
            go_simp
            with_reducible rfl
           rotate_left
           ·simp only [Act.put, List.setIfInBounds_toArray, List.set_cons_zero, List.set_cons_succ, i64_w, i32_w]
            rfl
           refine pure_ (i := 7) (N := some 38) (v := ?_) (a' := ?_) m8 rfl rfl (any_of HT_.out (by kernel_rfl)) (fun _ _ _ h => h) (Or.inl ⟨by rfl, ?_⟩) ?_ ?_
           rotate_left
           ·intro w'
            go_simp
            with_reducible rfl
           rotate_left
           ·simp only [Act.put, List.setIfInBounds_toArray, List.set_cons_zero, List.set_cons_succ, i64_w, i32_w]
            rfl
           refine pure_ (i := 8) (N := some 39) (v := undef) (a' := ?_) m9 rfl rfl (any_of HT_.out (by kernel_rfl)) (fun _ _ _ h => h) (Or.inr ⟨by rfl, rfl⟩) ?_ ?_
           rotate_left
           ·simp only [Act.put, List.setIfInBounds_toArray, List.set_cons_zero, List.set_cons_succ, i64_w, i32_w]
            rfl
           refine pure_ (i := 9) (N := some 40) (v := undef) (a' := ?_) m56 rfl rfl (any_of HT_.out (by kernel_rfl)) (fun _ _ _ h => h) (Or.inr ⟨by rfl, rfl⟩) ?_ ?_
           rotate_left
           ·simp only [Act.put, List.setIfInBounds_toArray, List.set_cons_zero, List.set_cons_succ, i64_w, i32_w]
            rfl
           refine pure_ (i := 10) (N := some 41) (v := undef) (a' := ?_) m57 rfl rfl (any_of HT_.out (by kernel_rfl)) (fun _ _ _ h => h) (Or.inr ⟨by rfl, rfl⟩) ?_ ?_
           rotate_left
           ·simp only [Act.put, List.setIfInBounds_toArray, List.set_cons_zero, List.set_cons_succ, i64_w, i32_w]
            rfl
           refine pure_ (i := 11) (N := some 42) (v := undef) (a' := ?_) m58 rfl rfl (any_of HT_.out (by kernel_rfl)) (fun _ _ _ h => h) (Or.inr ⟨by rfl, rfl⟩) ?_ ?_
           rotate_left
           ·simp only [Act.put, List.setIfInBounds_toArray, List.set_cons_zero, List.set_cons_succ, i64_w, i32_w]
            rfl
           refine pure_ (i := 12) (N := some 43) (v := undef) (a' := ?_) m59 rfl rfl (any_of HT_.out (by kernel_rfl)) (fun _ _ _ h => h) (Or.inr ⟨by rfl, rfl⟩) ?_ ?_
           rotate_left
           ·simp only [Act.put, List.setIfInBounds_toArray, List.set_cons_zero, List.set_cons_succ, i64_w, i32_w]
            rfl
           refine pure_ (i := 13) (N := some 44) (v := undef) (a' := ?_) m14 rfl rfl (any_of HT_.out (by kernel_rfl)) (fun _ _ _ h => h) (Or.inr ⟨by rfl, rfl⟩) ?_ ?_
           rotate_left
           ·simp only [Act.put, List.setIfInBounds_toArray, List.set_cons_zero, List.set_cons_succ, i64_w, i32_w]
            rfl
           refine pure_ (i := 14) (N := some 45) (v := undef) (a' := ?_) m15 rfl rfl (any_of HT_.out (by kernel_rfl)) (fun _ _ _ h => h) (Or.inr ⟨by rfl, rfl⟩) ?_ ?_
           rotate_left
           ·simp only [Act.put, List.setIfInBounds_toArray, List.set_cons_zero, List.set_cons_succ, i64_w, i32_w]
            rfl
           refine pure_ (i := 15) (N := some 46) (v := ?_) (a' := ?_) m16 rfl rfl (any_of HT_.out (by kernel_rfl)) (fun _ _ _ h => h) (Or.inl ⟨by rfl, ?_⟩) ?_ ?_
           rotate_left
           ·intro w'
            go_simp
            with_reducible rfl
           rotate_left
           ·simp only [Act.put, List.setIfInBounds_toArray, List.set_cons_zero, List.set_cons_succ, i64_w, i32_w]
            rfl
           refine pure_ (i := 16) (N := some 47) (v := ?_) (a' := ?_) m17 rfl rfl (any_of HT_.out (by kernel_rfl)) (fun _ _ _ h => h) (Or.inl ⟨by rfl, ?_⟩) ?_ ?_
           rotate_left
           ·intro w'
            go_simp
            with_reducible rfl
           rotate_left
           ·simp only [Act.put, List.setIfInBounds_toArray, List.set_cons_zero, List.set_cons_succ, i64_w, i32_w]
            rfl
           refine pure_ (i := 17) (N := some 48) (v := undef) (a' := ?_) m18 rfl rfl (any_of HT_.out (by kernel_rfl)) (fun _ _ _ h => h) (Or.inr ⟨by rfl, rfl⟩) ?_ ?_
           rotate_left
           ·simp only [Act.put, List.setIfInBounds_toArray, List.set_cons_zero, List.set_cons_succ, i64_w, i32_w]
            rfl
           refine pure_ (i := 18) (N := some 49) (v := undef) (a' := ?_) m52 rfl rfl (any_of HT_.out (by kernel_rfl)) (fun _ _ _ h => h) (Or.inr ⟨by rfl, rfl⟩) ?_ ?_
           rotate_left
           ·simp only [Act.put, List.setIfInBounds_toArray, List.set_cons_zero, List.set_cons_succ, i64_w, i32_w]
            rfl
           refine pure_ (i := 19) (N := some 50) (v := undef) (a' := ?_) m53 rfl rfl (any_of HT_.out (by kernel_rfl)) (fun _ _ _ h => h) (Or.inr ⟨by rfl, rfl⟩) ?_ ?_
           rotate_left
           ·simp only [Act.put, List.setIfInBounds_toArray, List.set_cons_zero, List.set_cons_succ, i64_w, i32_w]
            rfl
           refine pure_ (i := 20) (N := some 51) (v := undef) (a' := ?_) m54 rfl rfl (any_of HT_.out (by kernel_rfl)) (fun _ _ _ h => h) (Or.inr ⟨by rfl, rfl⟩) ?_ ?_
           rotate_left
           ·simp only [Act.put, List.setIfInBounds_toArray, List.set_cons_zero, List.set_cons_succ, i64_w, i32_w]
            rfl
           refine pure_ (i := 21) (N := some 52) (v := undef) (a' := ?_) m55 rfl rfl (any_of HT_.out (by kernel_rfl)) (fun _ _ _ h => h) (Or.inr ⟨by rfl, rfl⟩) ?_ ?_
           rotate_left
           ·simp only [Act.put, List.setIfInBounds_toArray, List.set_cons_zero, List.set_cons_succ, i64_w, i32_w]
            rfl
           refine pure_ (i := 22) (N := some 53) (v := undef) (a' := ?_) m23 rfl rfl (any_of HT_.out (by kernel_rfl)) (fun _ _ _ h => h) (Or.inr ⟨by rfl, rfl⟩) ?_ ?_
           rotate_left
           ·simp only [Act.put, List.setIfInBounds_toArray, List.set_cons_zero, List.set_cons_succ, i64_w, i32_w]
            rfl
           refine pure_ (i := 23) (N := some 54) (v := undef) (a' := ?_) m24 rfl rfl (any_of HT_.out (by kernel_rfl)) (fun _ _ _ h => h) (Or.inr ⟨by rfl, rfl⟩) ?_ ?_
           rotate_left
           ·simp only [Act.put, List.setIfInBounds_toArray, List.set_cons_zero, List.set_cons_succ, i64_w, i32_w]
            rfl
           refine pure_ (i := 24) (N := some 55) (v := ?_) (a' := ?_) m25 rfl rfl (any_of HT_.out (by kernel_rfl)) (fun _ _ _ h => h) (Or.inl ⟨by rfl, ?_⟩) ?_ ?_
           rotate_left
           ·intro w'
            go_simp
            with_reducible rfl
           rotate_left
           ·simp only [Act.put, List.setIfInBounds_toArray, List.set_cons_zero, List.set_cons_succ, i64_w, i32_w]
            rfl
           refine pure_ (i := 25) (N := some 56) (v := ?_) (a' := ?_) m26 rfl rfl (any_of HT_.out (by kernel_rfl)) (fun _ _ _ h => h) (Or.inl ⟨by rfl, ?_⟩) ?_ ?_
           rotate_left
           ·intro w'
            go_simp
            with_reducible rfl
           rotate_left
           ·simp only [Act.put, List.setIfInBounds_toArray, List.set_cons_zero, List.set_cons_succ, i64_w, i32_w]
            rfl
           refine pure_ (i := 26) (N := some 57) (v := undef) (a' := ?_) m27 rfl rfl (any_of HT_.out (by kernel_rfl)) (fun _ _ _ h => h) (Or.inr ⟨by rfl, rfl⟩) ?_ ?_
           rotate_left
           ·simp only [Act.put, List.setIfInBounds_toArray, List.set_cons_zero, List.set_cons_succ, i64_w, i32_w]
            rfl
           refine pure_ (i := 27) (N := some 58) (v := undef) (a' := ?_) m48 rfl rfl (any_of HT_.out (by kernel_rfl)) (fun _ _ _ h => h) (Or.inr ⟨by rfl, rfl⟩) ?_ ?_
           rotate_left
           ·simp only [Act.put, List.setIfInBounds_toArray, List.set_cons_zero, List.set_cons_succ, i64_w, i32_w]
            rfl
           refine pure_ (i := 28) (N := some 59) (v := undef) (a' := ?_) m49 rfl rfl (any_of HT_.out (by kernel_rfl)) (fun _ _ _ h => h) (Or.inr ⟨by rfl, rfl⟩) ?_ ?_
           rotate_left
           ·simp only [Act.put, List.setIfInBounds_toArray, List.set_cons_zero, List.set_cons_succ, i64_w, i32_w]
            rfl
           refine pure_ (i := 29) (N := some 60) (v := undef) (a' := ?_) m50 rfl rfl (any_of HT_.out (by kernel_rfl)) (fun _ _ _ h => h) (Or.inr ⟨by rfl, rfl⟩) ?_ ?_
           rotate_left
           ·simp only [Act.put, List.setIfInBounds_toArray, List.set_cons_zero, List.set_cons_succ, i64_w, i32_w]
            rfl
           refine pure_ (i := 30) (N := some 61) (v := undef) (a' := ?_) m51 rfl rfl (any_of HT_.out (by kernel_rfl)) (fun _ _ _ h => h) (Or.inr ⟨by rfl, rfl⟩) ?_ ?_
           rotate_left
           ·simp only [Act.put, List.setIfInBounds_toArray, List.set_cons_zero, List.set_cons_succ, i64_w, i32_w]
            rfl
           refine pure_ (i := 31) (N := some 62) (v := undef) (a' := ?_) m32 rfl rfl (any_of HT_.out (by kernel_rfl)) (fun _ _ _ h => h) (Or.inr ⟨by rfl, rfl⟩) ?_ ?_
           rotate_left
           ·simp only [Act.put, List.setIfInBounds_toArray, List.set_cons_zero, List.set_cons_succ, i64_w, i32_w]
            rfl
           refine pure_ (i := 32) (N := some 63) (v := undef) (a' := ?_) m33 rfl rfl (any_of HT_.out (by kernel_rfl)) (fun _ _ _ h => h) (Or.inr ⟨by rfl, rfl⟩) ?_ ?_
           rotate_left
           ·simp only [Act.put, List.setIfInBounds_toArray, List.set_cons_zero, List.set_cons_succ, i64_w, i32_w]
            rfl
           refine pure_ (i := 33) (N := some 64) (v := ?_) (a' := ?_) m34 rfl rfl (any_of HT_.out (by kernel_rfl)) (fun _ _ _ h => h) (Or.inl ⟨by rfl, ?_⟩) ?_ ?_
           rotate_left
           ·intro w'
            go_simp
            with_reducible rfl
           rotate_left
           ·simp only [Act.put, List.setIfInBounds_toArray, List.set_cons_zero, List.set_cons_succ, i64_w, i32_w]
            rfl
           refine pure_ (i := 34) (N := some 65) (v := ?_) (a' := ?_) m35 rfl rfl (any_of HT_.out (by kernel_rfl)) (fun _ _ _ h => h) (Or.inl ⟨by rfl, ?_⟩) ?_ ?_
           rotate_left
           ·intro w'
            go_simp
            with_reducible rfl
           rotate_left
           ·simp only [Act.put, List.setIfInBounds_toArray, List.set_cons_zero, List.set_cons_succ, i64_w, i32_w]
            rfl
           refine pure_ (i := 35) (N := some 66) (v := undef) (a' := ?_) m36 rfl rfl (any_of HT_.out (by kernel_rfl)) (fun _ _ _ h => h) (Or.inr ⟨by rfl, rfl⟩) ?_ ?_
           rotate_left
           ·simp only [Act.put, List.setIfInBounds_toArray, List.set_cons_zero, List.set_cons_succ, i64_w, i32_w]
            rfl
           refine pure_ (i := 36) (N := some 67) (v := undef) (a' := ?_) m44 rfl rfl (any_of HT_.out (by kernel_rfl)) (fun _ _ _ h => h) (Or.inr ⟨by rfl, rfl⟩) ?_ ?_
           rotate_left
           ·simp only [Act.put, List.setIfInBounds_toArray, List.set_cons_zero, List.set_cons_succ, i64_w, i32_w]
            rfl
           refine pure_ (i := 37) (N := some 68) (v := undef) (a' := ?_) m45 rfl rfl (any_of HT_.out (by kernel_rfl)) (fun _ _ _ h => h) (Or.inr ⟨by rfl, rfl⟩) ?_ ?_
           rotate_left
           ·simp only [Act.put, List.setIfInBounds_toArray, List.set_cons_zero, List.set_cons_succ, i64_w, i32_w]
            rfl
           refine pure_ (i := 38) (N := some 69) (v := undef) (a' := ?_) m46 rfl rfl (any_of HT_.out (by kernel_rfl)) (fun _ _ _ h => h) (Or.inr ⟨by rfl, rfl⟩) ?_ ?_
           rotate_left
           ·simp only [Act.put, List.setIfInBounds_toArray, List.set_cons_zero, List.set_cons_succ, i64_w, i32_w]
            rfl
           refine pure_ (i := 39) (N := some 70) (v := undef) (a' := ?_) m47 rfl rfl (any_of HT_.out (by kernel_rfl)) (fun _ _ _ h => h) (Or.inr ⟨by rfl, rfl⟩) ?_ ?_
           rotate_left
           ·simp only [Act.put, List.setIfInBounds_toArray, List.set_cons_zero, List.set_cons_succ, i64_w, i32_w]
            rfl
           refine pure_ (i := 40) (N := some 71) (v := undef) (a' := ?_) m41 rfl rfl (any_of HT_.out (by kernel_rfl)) (fun _ _ _ h => h) (Or.inr ⟨by rfl, rfl⟩) ?_ ?_
           rotate_left
           ·simp only [Act.put, List.setIfInBounds_toArray, List.set_cons_zero, List.set_cons_succ, i64_w, i32_w]
            rfl
           refine pure_ (i := 41) (N := some 72) (v := undef) (a' := ?_) m42 rfl rfl (any_of HT_.out (by kernel_rfl)) (fun _ _ _ h => h) (Or.inr ⟨by rfl, rfl⟩) ?_ ?_
           rotate_left
           ·simp only [Act.put, List.setIfInBounds_toArray, List.set_cons_zero, List.set_cons_succ, i64_w, i32_w]
            rfl
           refine pure_ (i := 42) (N := some 73) (v := ?_) (a' := ?_) m43 rfl rfl (any_of HT_.out (by kernel_rfl)) (fun _ _ _ h => h) (Or.inl ⟨by rfl, ?_⟩) ?_ ?_
           rotate_left
           ·intro w'
            go_simp
            with_reducible rfl
           rotate_left
           ·simp only [Act.put, List.setIfInBounds_toArray, List.set_cons_zero, List.set_cons_succ, i64_w, i32_w]
            rfl
           refine done_ (done_of HT_.out (by kernel_rfl)) ?_
           try go_wp2
           go_meet
           case rel => exact ⟨_, (true), (t403), (t404), (t405), (t406), (t407), (t408), (by first | rfl | (simp; done) | (simp [*]; done)), H', ⟨by have := HK1.out; first | omega | exact Nat.le_refl _⟩, ⟨by (with_reducible repeat (first | refine blk_drewN ?_ _ | refine blk_drew ?_ | refine blk_alloc ?_ _)); exact BK383.out⟩, ⟨by repeat (first | (with_reducible first | exact HI374.out | apply ta | apply tn | apply td | apply t0 | apply t1 | apply t2 | apply t3 | apply t4 | apply t5 | refine tf ?_ NB374_383.out _) | exact HI374.out)⟩, ⟨by repeat (first | (with_reducible first | exact HI381.out | apply sa | apply sn | apply sd | apply s0 | apply s1 | apply s2 | apply s3 | apply s4 | apply s5 | refine sf ?_ NB381_383.out _) | exact HI381.out)⟩, ⟨by repeat (first | (with_reducible first | exact HB.out | apply below_alloc | apply pw_below_drewN | apply below_drew1 | refine below_set ?_ (IsS137.ge HI374.out) | refine below_set ?_ (IsS109.ge HI381.out) | refine below_set ?_ GE383.out) | exact HB.out)⟩⟩
         case rest =>
          clear HC25
          try clear p2
          try clear c3
          try clear c5
          try clear c35
          try clear c35b0
          try clear c35b1
          try clear c55
          try clear c56
          obtain ⟨kq, x73_24, a0_24, a1_24, a2_24, a3_24, a4_24, a5_24, rfl, HA, HJ24, BK383, HI374, HI381, HB⟩ := hcut
          cases kq with
          | zero => exact absurd HA.out (by simp [signalmanlaw09_ConnDoes.j1])
          | succ kj24 =>
           have H := HA.out
           clear HA
           simp only [signalmanlaw09_ConnDoes.j1] at H
           by_cases c63 : x73_24 = true
           ·subst c63
            have H1 : (some false) = some r := by rw [if_pos rfl] at H; exact H
            clear H
            have H := H1
            clear H1
            obtain rfl := Option.some.inj H
            go_wp2
            go_ret
            exact ⟨by first | rfl | (simp [errW_none, errW_some] <;> rfl) | (simp [*, errW_none, errW_some] <;> rfl), by repeat (first | (with_reducible first | exact HB.out | apply below_alloc | apply pw_below_drewN | apply below_drew1 | refine below_set ?_ (IsS137.ge HI374.out) | refine below_set ?_ (IsS109.ge HI381.out) | refine below_set ?_ GE383.out) | exact HB.out)⟩
           ·replace c63 := Bool.eq_false_iff.mpr c63
            subst c63
            have H1 : (signalmanlaw09_ConnDoes.l0 kj24 l1 (l1.length : Int) (wrap64 (x20_1 + 1)) a0_24 a1_24 a2_24 a3_24 a4_24 a5_24 t396 t397 t398 t399 t400 t401) = some r := by rw [if_neg (show ¬ (false = true) by decide)] at H; exact H
            clear H
            have H := H1
            clear H1
            have H' := Aside0.mk H
            clear H
            go_wp2
            go_roundg kj24
            case measure => have := HK1.out; have := HJ24.out; omega
            case rel => exact ⟨(wrap64 (x20_1 + 1)), (a0_24), (a1_24), (a2_24), (a3_24), (a4_24), (a5_24), (t396), (t397), (t398), (t399), (t400), (t401), (by first | rfl | (simp; done) | (simp [*]; done)), H', ⟨by have := HK1.out; have := HJ24.out; omega⟩, ⟨by repeat (first | (with_reducible first | exact HI374.out | apply ta | apply tn | apply td | apply t0 | apply t1 | apply t2 | apply t3 | apply t4 | apply t5 | refine tf ?_ NB374_383.out _) | exact HI374.out)⟩, ⟨by repeat (first | (with_reducible first | exact HI381.out | apply sa | apply sn | apply sd | apply s0 | apply s1 | apply s2 | apply s3 | apply s4 | apply s5 | refine sf ?_ NB381_383.out _) | exact HI381.out)⟩, ⟨by repeat (first | (with_reducible first | exact HB.out | apply below_alloc | apply pw_below_drewN | apply below_drew1 | refine below_set ?_ (IsS137.ge HI374.out) | refine below_set ?_ (IsS109.ge HI381.out) | refine below_set ?_ GE383.out) | exact HB.out)⟩⟩
       ·rw [if_neg c13] at H
        exact absurd H (by simp)
      ·rw [if_neg c12] at H
       exact absurd H (by simp)
     ·rw [if_neg c11] at H
      have c11b0 : decide (x20_1 < (l1.length : Int)) = false := decide_eq_false c11
      clear c11
      obtain rfl := Option.some.inj H
      go_wp2
      go_ret
      exact ⟨by first | rfl | (simp [errW_none, errW_some] <;> rfl) | (simp [*, errW_none, errW_some] <;> rfl), by repeat (first | (with_reducible first | exact HB.out | apply below_alloc | apply pw_below_drewN | apply below_drew1 | refine below_set ?_ (IsS137.ge HI374.out) | refine below_set ?_ (IsS109.ge HI381.out)) | exact HB.out)⟩

end Go.Proofs.Ytagmefjpnmjcjaa.Co
