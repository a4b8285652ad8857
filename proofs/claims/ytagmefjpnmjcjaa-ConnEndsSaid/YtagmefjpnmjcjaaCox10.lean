-- By a program of this session (wip/pp: a turned copy of the kit's print) out of the translation; Lean checks it.
import Derived.Test.YtagmefjpnmjcjaaCox0
import Derived.Test.YtagmefjpnmjcjaaCox1
import Derived.Test.YtagmefjpnmjcjaaCox2
import Derived.Test.YtagmefjpnmjcjaaCox4
import Derived.Test.YtagmefjpnmjcjaaCox6
import Derived.Test.YtagmefjpnmjcjaaCox7
import Derived.Test.YtagmefjpnmjcjaaCoHand
namespace Go.Proofs.Ytagmefjpnmjcjaa.Co
open Go.RowKit Go.Proofs.YtagmefjpnmjcjaaW.PrintWords Go.Proofs.YtagmefjpnmjcjaaW.PrintLast Go.Proofs.YtagmefjpnmjcjaaW.PrintMore
attribute [local go_sem] max2_int min2_int max_two min_two max_three min_three max_four min_four   -- for this text's walks alone
set_option linter.unusedVariables false
set_option linter.unusedSimpArgs false

/-! ### signalmanlaw09_ConnEnds: function 14 -/
mutual
def signalmanlaw09_ConnEnds.j0 : Nat → List (S102) → List (S102) → Bool → Bool → Option (Bool)
  | 0, _, _, _, _ => none
  | k + 1, x0, x1, x2, x24 => if x24 = true then (some true) else ((conn_New.f 1).bind fun bt535 => (signalmanlaw09_ConnEnds.l0 k x1 x2 x0 (x0.length : Int) 0 bt535.1 bt535.2.1 bt535.2.2.1 bt535.2.2.2.1 bt535.2.2.2.2.1 bt535.2.2.2.2.2))
def signalmanlaw09_ConnEnds.l0 : Nat → List (S102) → Bool → List (S102) → Int → Int → Int → Int → Int → Int → Bool → Bool → Option (Bool)
  | 0, _, _, _, _, _, _, _, _, _, _, _ => none
  | k + 1, x1, x2, x26, x27, x28, x542000, x542001, x542002, x542003, x542004, x542005 => if x28 < x27 then (if 0 ≤ x28 then (if x28 < (x26.length : Int) then ((signalmanlaw09_do.f k x542000 x542001 x542002 x542003 x542004 x542005 ((rd_T102 x26 x28).f0) ((rd_T102 x26 x28).f1) ((rd_T102 x26 x28).f2)).bind fun bt544 => (signalmanlaw09_ConnEnds.l0 k x1 x2 x26 x27 (wrap64 (x28 + 1)) bt544.2.2.2.1 bt544.2.2.2.2.1 bt544.2.2.2.2.2.1 bt544.2.2.2.2.2.2.1 bt544.2.2.2.2.2.2.2.1 bt544.2.2.2.2.2.2.2.2)) else (none)) else (none)) else (if x2 = true then ((conn_Conn_Soil.f x542000 x542001 x542002 x542003 x542004 x542005).bind fun bt553 => (signalmanlaw09_ConnEnds.j2 k x1 x2 bt553.1 bt553.2.1 bt553.2.2.1 bt553.2.2.2.1 bt553.2.2.2.2.1 bt553.2.2.2.2.2.1 bt553.2.2.2.2.2.2)) else (signalmanlaw09_ConnEnds.j2 k x1 x2 false x542000 x542001 x542002 x542003 x542004 x542005))
def signalmanlaw09_ConnEnds.j2 : Nat → List (S102) → Bool → Bool → Int → Int → Int → Int → Bool → Bool → Option (Bool)
  | 0, _, _, _, _, _, _, _, _, _ => none
  | k + 1, x1, x2, x10, x542000, x542001, x542002, x542003, x542004, x542005 => if x2 = true then (signalmanlaw09_ConnEnds.j4 k x1 x2 x10 x542000 x542001 x542002 x542003 x542004 x542005) else ((conn_Conn_Drain.f x542000 x542001 x542002 x542003 x542004 x542005).bind fun bt560 => ((conn_Conn_State.f bt560.1 bt560.2.1 bt560.2.2.1 bt560.2.2.2.1 bt560.2.2.2.2.1 bt560.2.2.2.2.2).bind fun bt566 => (if bt566.1 = 3 then ((conn_Conn_State.f bt566.2.1 bt566.2.2.1 bt566.2.2.2.1 bt566.2.2.2.2.1 bt566.2.2.2.2.2.1 bt566.2.2.2.2.2.2).bind fun bt573 => ((conn_Conn_Flight.f bt573.2.1 bt573.2.2.1 bt573.2.2.2.1 bt573.2.2.2.2.1 bt573.2.2.2.2.2.1 bt573.2.2.2.2.2.2).bind fun bt580 => (signalmanlaw09_ConnEnds.j3 k x1 x2 x10 ((bt573.1 == 3) != (bt580.1 != 0)) bt580.2.1 bt580.2.2.1 bt580.2.2.2.1 bt580.2.2.2.2.1 bt580.2.2.2.2.2.1 bt580.2.2.2.2.2.2))) else ((conn_Conn_State.f bt566.2.1 bt566.2.2.1 bt566.2.2.2.1 bt566.2.2.2.2.1 bt566.2.2.2.2.2.1 bt566.2.2.2.2.2.2).bind fun bt587 => (if bt587.1 = 4 then ((conn_Conn_State.f bt587.2.1 bt587.2.2.1 bt587.2.2.2.1 bt587.2.2.2.2.1 bt587.2.2.2.2.2.1 bt587.2.2.2.2.2.2).bind fun bt594 => ((conn_Conn_Flight.f bt594.2.1 bt594.2.2.1 bt594.2.2.2.1 bt594.2.2.2.2.1 bt594.2.2.2.2.2.1 bt594.2.2.2.2.2.2).bind fun bt601 => (signalmanlaw09_ConnEnds.j3 k x1 x2 x10 ((bt594.1 == 3) != (bt601.1 != 0)) bt601.2.1 bt601.2.2.1 bt601.2.2.2.1 bt601.2.2.2.2.1 bt601.2.2.2.2.2.1 bt601.2.2.2.2.2.2))) else (signalmanlaw09_ConnEnds.j3 k x1 x2 x10 true bt587.2.1 bt587.2.2.1 bt587.2.2.2.1 bt587.2.2.2.2.1 bt587.2.2.2.2.2.1 bt587.2.2.2.2.2.2))))))
def signalmanlaw09_ConnEnds.j4 : Nat → List (S102) → Bool → Bool → Int → Int → Int → Int → Bool → Bool → Option (Bool)
  | 0, _, _, _, _, _, _, _, _, _ => none
  | k + 1, x1, x2, x10, x542000, x542001, x542002, x542003, x542004, x542005 => (conn_Conn_State.f x542000 x542001 x542002 x542003 x542004 x542005).bind fun bt608 => (signalmanlaw09_ConnEnds.l1 k x2 x10 (bt608.1 == 4) x1 (x1.length : Int) 0 bt608.2.1 bt608.2.2.1 bt608.2.2.2.1 bt608.2.2.2.2.1 bt608.2.2.2.2.2.1 bt608.2.2.2.2.2.2)
def signalmanlaw09_ConnEnds.l1 : Nat → Bool → Bool → Bool → List (S102) → Int → Int → Int → Int → Int → Int → Bool → Bool → Option (Bool)
  | 0, _, _, _, _, _, _, _, _, _, _, _, _ => none
  | k + 1, x2, x10, x11, x65, x66, x67, x542000, x542001, x542002, x542003, x542004, x542005 => if x67 < x66 then (if 0 ≤ x67 then (if x67 < (x65.length : Int) then ((signalmanlaw09_do.f k x542000 x542001 x542002 x542003 x542004 x542005 ((rd_T102 x65 x67).f0) ((rd_T102 x65 x67).f1) ((rd_T102 x65 x67).f2)).bind fun bt617 => (if x2 = true then (if x11 = true then ((conn_Conn_State.f bt617.2.2.2.1 bt617.2.2.2.2.1 bt617.2.2.2.2.2.1 bt617.2.2.2.2.2.2.1 bt617.2.2.2.2.2.2.2.1 bt617.2.2.2.2.2.2.2.2).bind fun bt627 => (if bt627.1 = 4 then (if x10 = true then ((conn_Conn_State.f bt627.2.1 bt627.2.2.1 bt627.2.2.2.1 bt627.2.2.2.2.1 bt627.2.2.2.2.2.1 bt627.2.2.2.2.2.2).bind fun bt634 => (signalmanlaw09_ConnEnds.j6 k x2 x10 x65 x66 x67 (bt634.1 == 1) bt634.2.1 bt634.2.2.1 bt634.2.2.2.1 bt634.2.2.2.2.1 bt634.2.2.2.2.2.1 bt634.2.2.2.2.2.2)) else (signalmanlaw09_ConnEnds.j6 k x2 x10 x65 x66 x67 false bt627.2.1 bt627.2.2.1 bt627.2.2.2.1 bt627.2.2.2.2.1 bt627.2.2.2.2.2.1 bt627.2.2.2.2.2.2)) else (signalmanlaw09_ConnEnds.j6 k x2 x10 x65 x66 x67 true bt627.2.1 bt627.2.2.1 bt627.2.2.2.1 bt627.2.2.2.2.1 bt627.2.2.2.2.2.1 bt627.2.2.2.2.2.2))) else (if x10 = true then ((conn_Conn_State.f bt617.2.2.2.1 bt617.2.2.2.2.1 bt617.2.2.2.2.2.1 bt617.2.2.2.2.2.2.1 bt617.2.2.2.2.2.2.2.1 bt617.2.2.2.2.2.2.2.2).bind fun bt641 => (signalmanlaw09_ConnEnds.j6 k x2 x10 x65 x66 x67 (bt641.1 == 1) bt641.2.1 bt641.2.2.1 bt641.2.2.2.1 bt641.2.2.2.2.1 bt641.2.2.2.2.2.1 bt641.2.2.2.2.2.2)) else (signalmanlaw09_ConnEnds.j6 k x2 x10 x65 x66 x67 false bt617.2.2.2.1 bt617.2.2.2.2.1 bt617.2.2.2.2.2.1 bt617.2.2.2.2.2.2.1 bt617.2.2.2.2.2.2.2.1 bt617.2.2.2.2.2.2.2.2))) else (if ((rd_T102 x65 x67).f0) = 1 then (if bt617.2.1 = 0 then (signalmanlaw09_ConnEnds.j6 k x2 x10 x65 x66 x67 true bt617.2.2.2.1 bt617.2.2.2.2.1 bt617.2.2.2.2.2.1 bt617.2.2.2.2.2.2.1 bt617.2.2.2.2.2.2.2.1 bt617.2.2.2.2.2.2.2.2) else (if x11 = true then ((conn_Conn_State.f bt617.2.2.2.1 bt617.2.2.2.2.1 bt617.2.2.2.2.2.1 bt617.2.2.2.2.2.2.1 bt617.2.2.2.2.2.2.2.1 bt617.2.2.2.2.2.2.2.2).bind fun bt648 => (if bt648.1 = 4 then (if x10 = true then ((conn_Conn_State.f bt648.2.1 bt648.2.2.1 bt648.2.2.2.1 bt648.2.2.2.2.1 bt648.2.2.2.2.2.1 bt648.2.2.2.2.2.2).bind fun bt655 => (signalmanlaw09_ConnEnds.j6 k x2 x10 x65 x66 x67 (bt655.1 == 1) bt655.2.1 bt655.2.2.1 bt655.2.2.2.1 bt655.2.2.2.2.1 bt655.2.2.2.2.2.1 bt655.2.2.2.2.2.2)) else (signalmanlaw09_ConnEnds.j6 k x2 x10 x65 x66 x67 false bt648.2.1 bt648.2.2.1 bt648.2.2.2.1 bt648.2.2.2.2.1 bt648.2.2.2.2.2.1 bt648.2.2.2.2.2.2)) else (signalmanlaw09_ConnEnds.j6 k x2 x10 x65 x66 x67 true bt648.2.1 bt648.2.2.1 bt648.2.2.2.1 bt648.2.2.2.2.1 bt648.2.2.2.2.2.1 bt648.2.2.2.2.2.2))) else (if x10 = true then ((conn_Conn_State.f bt617.2.2.2.1 bt617.2.2.2.2.1 bt617.2.2.2.2.2.1 bt617.2.2.2.2.2.2.1 bt617.2.2.2.2.2.2.2.1 bt617.2.2.2.2.2.2.2.2).bind fun bt662 => (signalmanlaw09_ConnEnds.j6 k x2 x10 x65 x66 x67 (bt662.1 == 1) bt662.2.1 bt662.2.2.1 bt662.2.2.2.1 bt662.2.2.2.2.1 bt662.2.2.2.2.2.1 bt662.2.2.2.2.2.2)) else (signalmanlaw09_ConnEnds.j6 k x2 x10 x65 x66 x67 false bt617.2.2.2.1 bt617.2.2.2.2.1 bt617.2.2.2.2.2.1 bt617.2.2.2.2.2.2.1 bt617.2.2.2.2.2.2.2.1 bt617.2.2.2.2.2.2.2.2)))) else (if x11 = true then ((conn_Conn_State.f bt617.2.2.2.1 bt617.2.2.2.2.1 bt617.2.2.2.2.2.1 bt617.2.2.2.2.2.2.1 bt617.2.2.2.2.2.2.2.1 bt617.2.2.2.2.2.2.2.2).bind fun bt669 => (if bt669.1 = 4 then (if x10 = true then ((conn_Conn_State.f bt669.2.1 bt669.2.2.1 bt669.2.2.2.1 bt669.2.2.2.2.1 bt669.2.2.2.2.2.1 bt669.2.2.2.2.2.2).bind fun bt676 => (signalmanlaw09_ConnEnds.j6 k x2 x10 x65 x66 x67 (bt676.1 == 1) bt676.2.1 bt676.2.2.1 bt676.2.2.2.1 bt676.2.2.2.2.1 bt676.2.2.2.2.2.1 bt676.2.2.2.2.2.2)) else (signalmanlaw09_ConnEnds.j6 k x2 x10 x65 x66 x67 false bt669.2.1 bt669.2.2.1 bt669.2.2.2.1 bt669.2.2.2.2.1 bt669.2.2.2.2.2.1 bt669.2.2.2.2.2.2)) else (signalmanlaw09_ConnEnds.j6 k x2 x10 x65 x66 x67 true bt669.2.1 bt669.2.2.1 bt669.2.2.2.1 bt669.2.2.2.2.1 bt669.2.2.2.2.2.1 bt669.2.2.2.2.2.2))) else (if x10 = true then ((conn_Conn_State.f bt617.2.2.2.1 bt617.2.2.2.2.1 bt617.2.2.2.2.2.1 bt617.2.2.2.2.2.2.1 bt617.2.2.2.2.2.2.2.1 bt617.2.2.2.2.2.2.2.2).bind fun bt683 => (signalmanlaw09_ConnEnds.j6 k x2 x10 x65 x66 x67 (bt683.1 == 1) bt683.2.1 bt683.2.2.1 bt683.2.2.2.1 bt683.2.2.2.2.1 bt683.2.2.2.2.2.1 bt683.2.2.2.2.2.2)) else (signalmanlaw09_ConnEnds.j6 k x2 x10 x65 x66 x67 false bt617.2.2.2.1 bt617.2.2.2.2.1 bt617.2.2.2.2.2.1 bt617.2.2.2.2.2.2.1 bt617.2.2.2.2.2.2.2.1 bt617.2.2.2.2.2.2.2.2)))))) else (none)) else (none)) else (some true)
def signalmanlaw09_ConnEnds.j6 : Nat → Bool → Bool → List (S102) → Int → Int → Bool → Int → Int → Int → Int → Bool → Bool → Option (Bool)
  | 0, _, _, _, _, _, _, _, _, _, _, _, _ => none
  | k + 1, x2, x10, x65, x66, x67, x101, x542000, x542001, x542002, x542003, x542004, x542005 => if x101 = true then (some false) else ((conn_Conn_State.f x542000 x542001 x542002 x542003 x542004 x542005).bind fun bt690 => (signalmanlaw09_ConnEnds.l1 k x2 x10 (bt690.1 == 4) x65 x66 (wrap64 (x67 + 1)) bt690.2.1 bt690.2.2.1 bt690.2.2.2.1 bt690.2.2.2.2.1 bt690.2.2.2.2.2.1 bt690.2.2.2.2.2.2))
def signalmanlaw09_ConnEnds.j3 : Nat → List (S102) → Bool → Bool → Bool → Int → Int → Int → Int → Bool → Bool → Option (Bool)
  | 0, _, _, _, _, _, _, _, _, _, _ => none
  | k + 1, x1, x2, x10, x61, x542000, x542001, x542002, x542003, x542004, x542005 => if x61 = true then (some false) else (signalmanlaw09_ConnEnds.j4 k x1 x2 x10 x542000 x542001 x542002 x542003 x542004 x542005)
end
def signalmanlaw09_ConnEnds.f (k : Nat) (l0 : List (S102)) (l1 : List (S102)) (a2 : Bool) : Option (Bool) := (signalmanlaw09_awake.f k).bind fun _ => (if (l0.length : Int) > 200 then (signalmanlaw09_ConnEnds.j0 k l0 l1 a2 true) else (signalmanlaw09_ConnEnds.j0 k l0 l1 a2 (decide ((l1.length : Int) > 200))))
theorem signalmanlaw09_ConnEnds.mono_l : ∀ k, (∀ y0 y1 y2 y3, LeO (signalmanlaw09_ConnEnds.j0 k y0 y1 y2 y3) (signalmanlaw09_ConnEnds.j0 (k + 1) y0 y1 y2 y3)) ∧ (∀ y0 y1 y2 y3 y4 y5 y6 y7 y8 y9 y10, LeO (signalmanlaw09_ConnEnds.l0 k y0 y1 y2 y3 y4 y5 y6 y7 y8 y9 y10) (signalmanlaw09_ConnEnds.l0 (k + 1) y0 y1 y2 y3 y4 y5 y6 y7 y8 y9 y10)) ∧ (∀ y0 y1 y2 y3 y4 y5 y6 y7 y8, LeO (signalmanlaw09_ConnEnds.j2 k y0 y1 y2 y3 y4 y5 y6 y7 y8) (signalmanlaw09_ConnEnds.j2 (k + 1) y0 y1 y2 y3 y4 y5 y6 y7 y8)) ∧ (∀ y0 y1 y2 y3 y4 y5 y6 y7 y8, LeO (signalmanlaw09_ConnEnds.j4 k y0 y1 y2 y3 y4 y5 y6 y7 y8) (signalmanlaw09_ConnEnds.j4 (k + 1) y0 y1 y2 y3 y4 y5 y6 y7 y8)) ∧ (∀ y0 y1 y2 y3 y4 y5 y6 y7 y8 y9 y10 y11, LeO (signalmanlaw09_ConnEnds.l1 k y0 y1 y2 y3 y4 y5 y6 y7 y8 y9 y10 y11) (signalmanlaw09_ConnEnds.l1 (k + 1) y0 y1 y2 y3 y4 y5 y6 y7 y8 y9 y10 y11)) ∧ (∀ y0 y1 y2 y3 y4 y5 y6 y7 y8 y9 y10 y11, LeO (signalmanlaw09_ConnEnds.j6 k y0 y1 y2 y3 y4 y5 y6 y7 y8 y9 y10 y11) (signalmanlaw09_ConnEnds.j6 (k + 1) y0 y1 y2 y3 y4 y5 y6 y7 y8 y9 y10 y11)) ∧ (∀ y0 y1 y2 y3 y4 y5 y6 y7 y8 y9, LeO (signalmanlaw09_ConnEnds.j3 k y0 y1 y2 y3 y4 y5 y6 y7 y8 y9) (signalmanlaw09_ConnEnds.j3 (k + 1) y0 y1 y2 y3 y4 y5 y6 y7 y8 y9))
  | 0 => ⟨fun _ _ _ _ r h => by simp [signalmanlaw09_ConnEnds.j0] at h, fun _ _ _ _ _ _ _ _ _ _ _ r h => by simp [signalmanlaw09_ConnEnds.l0] at h, fun _ _ _ _ _ _ _ _ _ r h => by simp [signalmanlaw09_ConnEnds.j2] at h, fun _ _ _ _ _ _ _ _ _ r h => by simp [signalmanlaw09_ConnEnds.j4] at h, fun _ _ _ _ _ _ _ _ _ _ _ _ r h => by simp [signalmanlaw09_ConnEnds.l1] at h, fun _ _ _ _ _ _ _ _ _ _ _ _ r h => by simp [signalmanlaw09_ConnEnds.j6] at h, fun _ _ _ _ _ _ _ _ _ _ r h => by simp [signalmanlaw09_ConnEnds.j3] at h⟩
  | k + 1 => by
    obtain ⟨ih0, ih1, ih2, ih3, ih4, ih5, ih6⟩ := signalmanlaw09_ConnEnds.mono_l k
    refine ⟨?_, ?_, ?_, ?_, ?_, ?_, ?_⟩
    · intro y0 y1 y2 y3
      unfold signalmanlaw09_ConnEnds.j0
      repeat' first
      | (with_reducible exact ih0 _ _ _ _)
      | (with_reducible exact ih1 _ _ _ _ _ _ _ _ _ _ _)
      | (with_reducible exact ih2 _ _ _ _ _ _ _ _ _)
      | (with_reducible exact ih3 _ _ _ _ _ _ _ _ _)
      | (with_reducible exact ih4 _ _ _ _ _ _ _ _ _ _ _ _)
      | (with_reducible exact ih5 _ _ _ _ _ _ _ _ _ _ _ _)
      | (with_reducible exact ih6 _ _ _ _ _ _ _ _ _ _)
      | (with_reducible exact signalmanlaw09_awake.mono _)
      | (with_reducible exact signalmanlaw09_do.mono _ _ _ _ _ _ _ _ _ _)
      | (with_reducible exact LeO.refl _)
      | (with_reducible exact LeO.none _)
      | (with_reducible refine LeO.ite ?_ ?_)
      | (with_reducible refine LeO.bind ?_ (fun _ => ?_))
      | exact ih0 _ _ _ _
      | exact ih1 _ _ _ _ _ _ _ _ _ _ _
      | exact ih2 _ _ _ _ _ _ _ _ _
      | exact ih3 _ _ _ _ _ _ _ _ _
      | exact ih4 _ _ _ _ _ _ _ _ _ _ _ _
      | exact ih5 _ _ _ _ _ _ _ _ _ _ _ _
      | exact ih6 _ _ _ _ _ _ _ _ _ _
      | exact signalmanlaw09_awake.mono _
      | exact signalmanlaw09_do.mono _ _ _ _ _ _ _ _ _ _
      | exact LeO.none _
      | refine LeO.ite ?_ ?_
      | refine LeO.bind ?_ (fun _ => ?_)
    · intro y0 y1 y2 y3 y4 y5 y6 y7 y8 y9 y10
      unfold signalmanlaw09_ConnEnds.l0
      repeat' first
      | (with_reducible exact ih0 _ _ _ _)
      | (with_reducible exact ih1 _ _ _ _ _ _ _ _ _ _ _)
      | (with_reducible exact ih2 _ _ _ _ _ _ _ _ _)
      | (with_reducible exact ih3 _ _ _ _ _ _ _ _ _)
      | (with_reducible exact ih4 _ _ _ _ _ _ _ _ _ _ _ _)
      | (with_reducible exact ih5 _ _ _ _ _ _ _ _ _ _ _ _)
      | (with_reducible exact ih6 _ _ _ _ _ _ _ _ _ _)
      | (with_reducible exact signalmanlaw09_awake.mono _)
      | (with_reducible exact signalmanlaw09_do.mono _ _ _ _ _ _ _ _ _ _)
      | (with_reducible exact LeO.refl _)
      | (with_reducible exact LeO.none _)
      | (with_reducible refine LeO.ite ?_ ?_)
      | (with_reducible refine LeO.bind ?_ (fun _ => ?_))
      | exact ih0 _ _ _ _
      | exact ih1 _ _ _ _ _ _ _ _ _ _ _
      | exact ih2 _ _ _ _ _ _ _ _ _
      | exact ih3 _ _ _ _ _ _ _ _ _
      | exact ih4 _ _ _ _ _ _ _ _ _ _ _ _
      | exact ih5 _ _ _ _ _ _ _ _ _ _ _ _
      | exact ih6 _ _ _ _ _ _ _ _ _ _
      | exact signalmanlaw09_awake.mono _
      | exact signalmanlaw09_do.mono _ _ _ _ _ _ _ _ _ _
      | exact LeO.none _
      | refine LeO.ite ?_ ?_
      | refine LeO.bind ?_ (fun _ => ?_)
    · intro y0 y1 y2 y3 y4 y5 y6 y7 y8
      unfold signalmanlaw09_ConnEnds.j2
      repeat' first
      | (with_reducible exact ih0 _ _ _ _)
      | (with_reducible exact ih1 _ _ _ _ _ _ _ _ _ _ _)
      | (with_reducible exact ih2 _ _ _ _ _ _ _ _ _)
      | (with_reducible exact ih3 _ _ _ _ _ _ _ _ _)
      | (with_reducible exact ih4 _ _ _ _ _ _ _ _ _ _ _ _)
      | (with_reducible exact ih5 _ _ _ _ _ _ _ _ _ _ _ _)
      | (with_reducible exact ih6 _ _ _ _ _ _ _ _ _ _)
      | (with_reducible exact signalmanlaw09_awake.mono _)
      | (with_reducible exact signalmanlaw09_do.mono _ _ _ _ _ _ _ _ _ _)
      | (with_reducible exact LeO.refl _)
      | (with_reducible exact LeO.none _)
      | (with_reducible refine LeO.ite ?_ ?_)
      | (with_reducible refine LeO.bind ?_ (fun _ => ?_))
      | exact ih0 _ _ _ _
      | exact ih1 _ _ _ _ _ _ _ _ _ _ _
      | exact ih2 _ _ _ _ _ _ _ _ _
      | exact ih3 _ _ _ _ _ _ _ _ _
      | exact ih4 _ _ _ _ _ _ _ _ _ _ _ _
      | exact ih5 _ _ _ _ _ _ _ _ _ _ _ _
      | exact ih6 _ _ _ _ _ _ _ _ _ _
      | exact signalmanlaw09_awake.mono _
      | exact signalmanlaw09_do.mono _ _ _ _ _ _ _ _ _ _
      | exact LeO.none _
      | refine LeO.ite ?_ ?_
      | refine LeO.bind ?_ (fun _ => ?_)
    · intro y0 y1 y2 y3 y4 y5 y6 y7 y8
      unfold signalmanlaw09_ConnEnds.j4
      repeat' first
      | (with_reducible exact ih0 _ _ _ _)
      | (with_reducible exact ih1 _ _ _ _ _ _ _ _ _ _ _)
      | (with_reducible exact ih2 _ _ _ _ _ _ _ _ _)
      | (with_reducible exact ih3 _ _ _ _ _ _ _ _ _)
      | (with_reducible exact ih4 _ _ _ _ _ _ _ _ _ _ _ _)
      | (with_reducible exact ih5 _ _ _ _ _ _ _ _ _ _ _ _)
      | (with_reducible exact ih6 _ _ _ _ _ _ _ _ _ _)
      | (with_reducible exact signalmanlaw09_awake.mono _)
      | (with_reducible exact signalmanlaw09_do.mono _ _ _ _ _ _ _ _ _ _)
      | (with_reducible exact LeO.refl _)
      | (with_reducible exact LeO.none _)
      | (with_reducible refine LeO.ite ?_ ?_)
      | (with_reducible refine LeO.bind ?_ (fun _ => ?_))
      | exact ih0 _ _ _ _
      | exact ih1 _ _ _ _ _ _ _ _ _ _ _
      | exact ih2 _ _ _ _ _ _ _ _ _
      | exact ih3 _ _ _ _ _ _ _ _ _
      | exact ih4 _ _ _ _ _ _ _ _ _ _ _ _
      | exact ih5 _ _ _ _ _ _ _ _ _ _ _ _
      | exact ih6 _ _ _ _ _ _ _ _ _ _
      | exact signalmanlaw09_awake.mono _
      | exact signalmanlaw09_do.mono _ _ _ _ _ _ _ _ _ _
      | exact LeO.none _
      | refine LeO.ite ?_ ?_
      | refine LeO.bind ?_ (fun _ => ?_)
    · intro y0 y1 y2 y3 y4 y5 y6 y7 y8 y9 y10 y11
      unfold signalmanlaw09_ConnEnds.l1
      repeat' first
      | (with_reducible exact ih0 _ _ _ _)
      | (with_reducible exact ih1 _ _ _ _ _ _ _ _ _ _ _)
      | (with_reducible exact ih2 _ _ _ _ _ _ _ _ _)
      | (with_reducible exact ih3 _ _ _ _ _ _ _ _ _)
      | (with_reducible exact ih4 _ _ _ _ _ _ _ _ _ _ _ _)
      | (with_reducible exact ih5 _ _ _ _ _ _ _ _ _ _ _ _)
      | (with_reducible exact ih6 _ _ _ _ _ _ _ _ _ _)
      | (with_reducible exact signalmanlaw09_awake.mono _)
      | (with_reducible exact signalmanlaw09_do.mono _ _ _ _ _ _ _ _ _ _)
      | (with_reducible exact LeO.refl _)
      | (with_reducible exact LeO.none _)
      | (with_reducible refine LeO.ite ?_ ?_)
      | (with_reducible refine LeO.bind ?_ (fun _ => ?_))
      | exact ih0 _ _ _ _
      | exact ih1 _ _ _ _ _ _ _ _ _ _ _
      | exact ih2 _ _ _ _ _ _ _ _ _
      | exact ih3 _ _ _ _ _ _ _ _ _
      | exact ih4 _ _ _ _ _ _ _ _ _ _ _ _
      | exact ih5 _ _ _ _ _ _ _ _ _ _ _ _
      | exact ih6 _ _ _ _ _ _ _ _ _ _
      | exact signalmanlaw09_awake.mono _
      | exact signalmanlaw09_do.mono _ _ _ _ _ _ _ _ _ _
      | exact LeO.none _
      | refine LeO.ite ?_ ?_
      | refine LeO.bind ?_ (fun _ => ?_)
    · intro y0 y1 y2 y3 y4 y5 y6 y7 y8 y9 y10 y11
      unfold signalmanlaw09_ConnEnds.j6
      repeat' first
      | (with_reducible exact ih0 _ _ _ _)
      | (with_reducible exact ih1 _ _ _ _ _ _ _ _ _ _ _)
      | (with_reducible exact ih2 _ _ _ _ _ _ _ _ _)
      | (with_reducible exact ih3 _ _ _ _ _ _ _ _ _)
      | (with_reducible exact ih4 _ _ _ _ _ _ _ _ _ _ _ _)
      | (with_reducible exact ih5 _ _ _ _ _ _ _ _ _ _ _ _)
      | (with_reducible exact ih6 _ _ _ _ _ _ _ _ _ _)
      | (with_reducible exact signalmanlaw09_awake.mono _)
      | (with_reducible exact signalmanlaw09_do.mono _ _ _ _ _ _ _ _ _ _)
      | (with_reducible exact LeO.refl _)
      | (with_reducible exact LeO.none _)
      | (with_reducible refine LeO.ite ?_ ?_)
      | (with_reducible refine LeO.bind ?_ (fun _ => ?_))
      | exact ih0 _ _ _ _
      | exact ih1 _ _ _ _ _ _ _ _ _ _ _
      | exact ih2 _ _ _ _ _ _ _ _ _
      | exact ih3 _ _ _ _ _ _ _ _ _
      | exact ih4 _ _ _ _ _ _ _ _ _ _ _ _
      | exact ih5 _ _ _ _ _ _ _ _ _ _ _ _
      | exact ih6 _ _ _ _ _ _ _ _ _ _
      | exact signalmanlaw09_awake.mono _
      | exact signalmanlaw09_do.mono _ _ _ _ _ _ _ _ _ _
      | exact LeO.none _
      | refine LeO.ite ?_ ?_
      | refine LeO.bind ?_ (fun _ => ?_)
    · intro y0 y1 y2 y3 y4 y5 y6 y7 y8 y9
      unfold signalmanlaw09_ConnEnds.j3
      repeat' first
      | (with_reducible exact ih0 _ _ _ _)
      | (with_reducible exact ih1 _ _ _ _ _ _ _ _ _ _ _)
      | (with_reducible exact ih2 _ _ _ _ _ _ _ _ _)
      | (with_reducible exact ih3 _ _ _ _ _ _ _ _ _)
      | (with_reducible exact ih4 _ _ _ _ _ _ _ _ _ _ _ _)
      | (with_reducible exact ih5 _ _ _ _ _ _ _ _ _ _ _ _)
      | (with_reducible exact ih6 _ _ _ _ _ _ _ _ _ _)
      | (with_reducible exact signalmanlaw09_awake.mono _)
      | (with_reducible exact signalmanlaw09_do.mono _ _ _ _ _ _ _ _ _ _)
      | (with_reducible exact LeO.refl _)
      | (with_reducible exact LeO.none _)
      | (with_reducible refine LeO.ite ?_ ?_)
      | (with_reducible refine LeO.bind ?_ (fun _ => ?_))
      | exact ih0 _ _ _ _
      | exact ih1 _ _ _ _ _ _ _ _ _ _ _
      | exact ih2 _ _ _ _ _ _ _ _ _
      | exact ih3 _ _ _ _ _ _ _ _ _
      | exact ih4 _ _ _ _ _ _ _ _ _ _ _ _
      | exact ih5 _ _ _ _ _ _ _ _ _ _ _ _
      | exact ih6 _ _ _ _ _ _ _ _ _ _
      | exact signalmanlaw09_awake.mono _
      | exact signalmanlaw09_do.mono _ _ _ _ _ _ _ _ _ _
      | exact LeO.none _
      | refine LeO.ite ?_ ?_
      | refine LeO.bind ?_ (fun _ => ?_)
theorem signalmanlaw09_ConnEnds.mono : ∀ a0 a1 a2 k, LeO (signalmanlaw09_ConnEnds.f k a0 a1 a2) (signalmanlaw09_ConnEnds.f (k + 1) a0 a1 a2) := by
  intro a0 a1 a2 k
  obtain ⟨ih0, ih1, ih2, ih3, ih4, ih5, ih6⟩ := signalmanlaw09_ConnEnds.mono_l k
  unfold signalmanlaw09_ConnEnds.f
  repeat' first
      | (with_reducible exact ih0 _ _ _ _)
      | (with_reducible exact ih1 _ _ _ _ _ _ _ _ _ _ _)
      | (with_reducible exact ih2 _ _ _ _ _ _ _ _ _)
      | (with_reducible exact ih3 _ _ _ _ _ _ _ _ _)
      | (with_reducible exact ih4 _ _ _ _ _ _ _ _ _ _ _ _)
      | (with_reducible exact ih5 _ _ _ _ _ _ _ _ _ _ _ _)
      | (with_reducible exact ih6 _ _ _ _ _ _ _ _ _ _)
      | (with_reducible exact signalmanlaw09_awake.mono _)
      | (with_reducible exact signalmanlaw09_do.mono _ _ _ _ _ _ _ _ _ _)
      | (with_reducible exact LeO.refl _)
      | (with_reducible exact LeO.none _)
      | (with_reducible refine LeO.ite ?_ ?_)
      | (with_reducible refine LeO.bind ?_ (fun _ => ?_))
      | exact ih0 _ _ _ _
      | exact ih1 _ _ _ _ _ _ _ _ _ _ _
      | exact ih2 _ _ _ _ _ _ _ _ _
      | exact ih3 _ _ _ _ _ _ _ _ _
      | exact ih4 _ _ _ _ _ _ _ _ _ _ _ _
      | exact ih5 _ _ _ _ _ _ _ _ _ _ _ _
      | exact ih6 _ _ _ _ _ _ _ _ _ _
      | exact signalmanlaw09_awake.mono _
      | exact signalmanlaw09_do.mono _ _ _ _ _ _ _ _ _ _
      | exact LeO.none _
      | refine LeO.ite ?_ ?_
      | refine LeO.bind ?_ (fun _ => ?_)
set_option maxHeartbeats 8000000 in
set_option maxRecDepth 100000 in
theorem signalmanlaw09_ConnEnds.calls (k : Nat) (A0 : Option Addr) (c0 : Nat) (l0 : List (S102)) (A1 : Option Addr) (c1 : Nat) (l1 : List (S102)) (a2 : Bool) (r : Bool) (w : World) (hr0 : Kd.C k102 w A0 l0.length l0) (hc0 : l0.length ≤ c0) (hr1 : Kd.C k102 w A1 l1.length l1) (hc1 : l1.length ≤ c1) (h : signalmanlaw09_ConnEnds.f k l0 l1 a2 = some r) :
    Calls Try.prog 14 #[.slice A0 l0.length c0, .slice A1 l1.length c1, .bool a2] w fun e w' => e = .returned (.bool r) ∧ Below w.heap.size w w' := by
  have hu102 := Try.underlying102
  have hu104 := Try.underlying104
  have HR0 := Aside0.mk hr0
  have HC0 := Aside0.mk hc0
  clear hr0 hc0
  have HR1 := Aside0.mk hr1
  have HC1 := Aside0.mk hc1
  clear hr1 hc1
  have HB := Aside0.mk (Below.refl w.heap.size w)
  have H : ((signalmanlaw09_awake.f k).bind fun _ => (if (l0.length : Int) > 200 then (signalmanlaw09_ConnEnds.j0 k l0 l1 a2 true) else (signalmanlaw09_ConnEnds.j0 k l0 l1 a2 (decide ((l1.length : Int) > 200))))) = some r := h
  clear h
  replace H := Option.bind_eq_some_iff.mp H
  obtain ⟨z_, A40, H⟩ := H
  replace H : (if (l0.length : Int) > 200 then (signalmanlaw09_ConnEnds.j0 k l0 l1 a2 true) else (signalmanlaw09_ConnEnds.j0 k l0 l1 a2 (decide ((l1.length : Int) > 200)))) = some r := H
  have A4 := Aside0.mk (show signalmanlaw09_awake.f k  = some true from fold_ (g := fun k_ => signalmanlaw09_awake.f k_ ) (fun k_ => signalmanlaw09_awake.mono  k_) (k' := 40) (by kernel_rfl) A40)
  clear A40
  have HC5 := Aside0.mk H
  clear H
  go_enter Try.func14, Try.ntmps14
  go_upto_region 3 with (first | ((with_reducible refine gate_callee (f := 50) rfl ?_); refine goesL_ (some 15) rfl rfl Try.func50 (by kernel_rfl) rfl #[] rfl (by (try simp only [List.map_toArray, List.map_cons, List.map_nil]); first | done | rfl | (simp only [List.length_drop, List.length_take]; rfl)) ?_; (with_reducible refine (signalmanlaw09_awake.calls k  true _ A4.out).mono ?_); rintro e w6 ⟨rfl, hb⟩; refine ⟨_, rfl, ?_⟩; have n0_ := Aside0.mk (below_step (by repeat (first | (with_reducible first | exact HB.out | apply below_alloc | apply pw_below_drewN | apply below_drew1) | exact HB.out)) hb); clear HB; have HB := n0_; clear n0_; (try clear hb); (try clear hb2); (try clear hk); (try clear hi)))
  (try simp only [Act.put, List.setIfInBounds_toArray, List.set_cons_zero, List.set_cons_succ])
  go_cut [24] (fun v24 wc => ∃ (kq : Nat) (x24_4 : Bool), v24 = .bool x24_4 ∧ Aside0 (signalmanlaw09_ConnEnds.j0 kq l0 l1 a2 x24_4 = some r) ∧ Aside0 (kq ≤ k) ∧ Aside0 (Below w.heap.size w wc))
  case first =>
   have H := HC5.out
   clear HC5
   by_cases c7 : (l0.length : Int) > 200
   ·rw [if_pos c7] at H
    have c7b0 : decide (200 < (l0.length : Int)) = true := decide_eq_true c7
    have c7b1 : decide (200 < l0.length) = true := decide_eq_true (by omega)
    clear c7
    (first | rw [c7b0] | (simp only [i64_w, i32_w]; rw [c7b0]) | skip)
    have H' := Aside0.mk H
    clear H
    go_wp2
    go_meet
    case rel => exact ⟨_, (true), (by first | rfl | (simp; done) | (simp [*]; done)), H', ⟨by first | omega | exact Nat.le_refl _⟩, ⟨by repeat (first | (with_reducible first | exact HB.out | apply below_alloc | apply pw_below_drewN | apply below_drew1) | exact HB.out)⟩⟩
   ·rw [if_neg c7] at H
    have c7b0 : decide (200 < (l0.length : Int)) = false := decide_eq_false c7
    have c7b1 : decide (200 < l0.length) = false := decide_eq_false (by omega)
    clear c7
    (first | rw [c7b0] | (simp only [i64_w, i32_w]; rw [c7b0]) | skip)
    have H' := Aside0.mk H
    clear H
    go_wp2
    go_meet
    case rel => exact ⟨_, (decide ((l1.length : Int) > 200)), (by first | rfl | (simp; done) | (simp [*]; done)), H', ⟨by first | omega | exact Nat.le_refl _⟩, ⟨by repeat (first | (with_reducible first | exact HB.out | apply below_alloc | apply pw_below_drewN | apply below_drew1) | exact HB.out)⟩⟩
  case rest =>
   clear HC5
   try clear c1
   try clear p2
   try clear c5
   try clear c7
   try clear c7b0
   try clear c7b1
   obtain ⟨kq, x24_4, rfl, HA, HJ4, HB⟩ := hcut
   cases kq with
   | zero => exact absurd HA.out (by simp [signalmanlaw09_ConnEnds.j0])
   | succ kj4 =>
    have H := HA.out
    clear HA
    simp only [signalmanlaw09_ConnEnds.j0] at H
    by_cases c8 : x24_4 = true
    ·subst c8
     have H1 : (some true) = some r := by rw [if_pos rfl] at H; exact H
     clear H
     have H := H1
     clear H1
     obtain rfl := Option.some.inj H
     go_wp2
     go_ret
     exact ⟨by first | rfl | (simp [errW_none, errW_some] <;> rfl) | (simp [*, errW_none, errW_some] <;> rfl), by repeat (first | (with_reducible first | exact HB.out | apply below_alloc | apply pw_below_drewN | apply below_drew1) | exact HB.out)⟩
    ·replace c8 := Bool.eq_false_iff.mpr c8
     subst c8
     have H1 : ((conn_New.f 1).bind fun bt535 => (signalmanlaw09_ConnEnds.l0 kj4 l1 a2 l0 (l0.length : Int) 0 bt535.1 bt535.2.1 bt535.2.2.1 bt535.2.2.2.1 bt535.2.2.2.2.1 bt535.2.2.2.2.2)) = some r := by rw [if_neg (show ¬ (false = true) by decide)] at H; exact H
     clear H
     have H := H1
     clear H1
     replace H := Option.bind_eq_some_iff.mp H
     obtain ⟨⟨t535, t536, t537, t538, t539, t540⟩, A90, H⟩ := H
     replace H : (signalmanlaw09_ConnEnds.l0 kj4 l1 a2 l0 (l0.length : Int) 0 t535 t536 t537 t538 t539 t540) = some r := H
     have A9 := Aside0.mk A90
     clear A90
     have H' := Aside0.mk H
     clear H
     go_wp2_with (first | ((with_reducible refine gate_callee (f := 51) rfl ?_); refine goesL_ (some 25) rfl rfl Try.func51 (by kernel_rfl) rfl #[.int .u64 1] rfl (by (try simp only [List.map_toArray, List.map_cons, List.map_nil]); first | done | rfl | (simp only [List.length_drop, List.length_take]; rfl)) ?_; (with_reducible refine (conn_New.calls 1 t535 t536 t537 t538 t539 t540 w _ ?side1 A9.out).mono ?_); (case side1 => repeat (first | (with_reducible first | exact HB.out | apply below_alloc | apply pw_below_drewN | apply below_drew1) | exact HB.out)); rintro e w10 ⟨g541, rfl, hi, hb, hb2⟩; refine ⟨_, rfl, ?_⟩; have n0_ := Aside0.mk (hb); have n1_ := Aside0.mk (hi); clear HB; have HB := n0_; have HI541 := n1_; clear n0_ n1_; (try clear hb); (try clear hb2); (try clear hk); (try clear hi)))
     go_loopg [28] kj4 (fun kq v28 w' => ∃ (x28_2 : Int) (x542000_2 : Int) (x542001_2 : Int) (x542002_2 : Int) (x542003_2 : Int) (x542004_2 : Bool) (x542005_2 : Bool), v28 = .int .i64 x28_2 ∧ Aside0 (signalmanlaw09_ConnEnds.l0 kq l1 a2 l0 (l0.length : Int) x28_2 x542000_2 x542001_2 x542002_2 x542003_2 x542004_2 x542005_2 = some r) ∧ Aside0 (kq ≤ kj4) ∧ Aside0 (IsS137 w w' g541 x542000_2 x542001_2 x542002_2 x542003_2 x542004_2 x542005_2) ∧ Aside0 (Below w.heap.size w w'))
     case atStart => exact ⟨(0), (t535), (t536), (t537), (t538), (t539), (t540), (by first | rfl | (simp; done) | (simp [*]; done)), H', ⟨Nat.le_refl _⟩, ⟨by repeat (first | (with_reducible first | exact HI541.out | apply IsS137.alloc | apply IsS137.drewN | apply IsS137.drew | apply IsS137.set_0 | apply IsS137.set_1 | apply IsS137.set_2 | apply IsS137.set_3 | apply IsS137.set_4 | apply IsS137.set_5) | exact HI541.out)⟩, ⟨by repeat (first | (with_reducible first | exact HB.out | apply below_alloc | apply pw_below_drewN | apply below_drew1 | refine below_set ?_ (IsS137.ge HI541.out)) | exact HB.out)⟩⟩
     case round =>
      clear H'
      try clear c1
      try clear p2
      try clear c5
      try clear c7
      try clear c7b0
      try clear c7b1
      try clear c8
      try clear p2
      obtain ⟨x28_2, x542000_2, x542001_2, x542002_2, x542003_2, x542004_2, x542005_2, rfl, HA, HK2, HI541, HB⟩ := hrel
      cases gk with
      | zero => exact absurd HA.out (by simp [signalmanlaw09_ConnEnds.l0])
      | succ k2 =>
       have H := HA.out
       clear HA
       simp only [signalmanlaw09_ConnEnds.l0] at H
       by_cases c11 : x28_2 < (l0.length : Int)
       ·rw [if_pos c11] at H
        have c11b0 : decide (x28_2 < (l0.length : Int)) = true := decide_eq_true c11
        clear c11
        by_cases c12 : 0 ≤ x28_2
        ·rw [if_pos c12] at H
         have c12b0 : decide (0 ≤ x28_2) = true := decide_eq_true c12
         clear c12
         by_cases c13 : x28_2 < (l0.length : Int)
         ·rw [if_pos c13] at H
          have c13b0 : decide (x28_2 < (l0.length : Int)) = true := decide_eq_true c13
          clear c13
          replace H := Option.bind_eq_some_iff.mp H
          obtain ⟨⟨t544, t545, t546, t547, t548, t549, t550, t551, t552⟩, A140, H⟩ := H
          replace H : (signalmanlaw09_ConnEnds.l0 k2 l1 a2 l0 (l0.length : Int) (wrap64 (x28_2 + 1)) t547 t548 t549 t550 t551 t552) = some r := H
          have A14 := Aside0.mk A140
          clear A140
          have H' := Aside0.mk H
          clear H
          have p542 : 0 ≤ (x28_2 : Int) := of_decide_eq_true (by first | (with_reducible assumption) | assumption)
          have q542 : x28_2 < (l0.length : Int) := of_decide_eq_true (by first | (with_reducible assumption) | assumption)
          obtain ⟨ad542, e542, hx542_0, hx542_1, hx542_2⟩ := at_T102 HR0.out x28_2 p542 q542
          cases e542
          replace hx542_0 := (HB.out.cell (World.block_lt_of_cell? w _ hx542_0)).trans hx542_0
          replace hx542_1 := (HB.out.cell (World.block_lt_of_cell? w _ hx542_1)).trans hx542_1
          replace hx542_2 := (HB.out.cell (World.block_lt_of_cell? w _ hx542_2)).trans hx542_2
          replace p542 := eq_true p542
          replace q542 := eq_true q542
          go_wp2_with (first | ((with_reducible refine gate_dst (N := 9) rfl ?_); (try (refine gate_guard (by rfl) ?_; dsimp only)); refine box_event ?hg (N := 9) ?hd (cs := #[.int .i64 0, .int .i64 0, .int .u64 0]) (t := 102) ?hr ?_; (case hd => rfl); (case hg => rfl); (case hr => first | (go_simp; done) | (go_simp; rfl)); intro gb543 hg w15 hbox hb; have n0_ := Aside0.mk (IsS137.below (by repeat (first | (with_reducible first | exact HI541.out | apply IsS137.alloc | apply IsS137.drewN | apply IsS137.drew | apply IsS137.set_0 | apply IsS137.set_1 | apply IsS137.set_2 | apply IsS137.set_3 | apply IsS137.set_4 | apply IsS137.set_5) | exact HI541.out)) hb); have n1_ := Aside0.mk (below_step (by repeat (first | (with_reducible first | exact HB.out | apply below_alloc | apply pw_below_drewN | apply below_drew1 | refine below_set ?_ (IsS137.ge HI541.out)) | exact HB.out)) hb); have n2_ := Aside0.mk (hbox); have n3_ := Aside0.mk ((by rw [hg]; exact (below_size (by repeat (first | (with_reducible first | exact HB.out | apply below_alloc | apply pw_below_drewN | apply below_drew1 | refine below_set ?_ (IsS137.ge HI541.out)) | exact HB.out))) : w.heap.size ≤ gb543)); have n4_ := Aside0.mk ((by rw [hg]; exact (below_size (by repeat (first | (with_reducible first | exact HB.out | apply below_alloc | apply pw_below_drewN | apply below_drew1 | refine below_set ?_ (IsS137.ge HI541.out)) | exact HB.out))) : w.heap.size ≤ gb543)); have n5_ := Aside0.mk ((by rw [hg]; exact Nat.ne_of_lt (IsS137.lt (show IsS137 w _ g541 x542000_2 x542001_2 x542002_2 x542003_2 x542004_2 x542005_2 from by repeat (first | (with_reducible first | exact HI541.out | apply IsS137.alloc | apply IsS137.drewN | apply IsS137.drew | apply IsS137.set_0 | apply IsS137.set_1 | apply IsS137.set_2 | apply IsS137.set_3 | apply IsS137.set_4 | apply IsS137.set_5) | exact HI541.out))) : g541 ≠ gb543)); have n6_ := Aside0.mk ((by rw [hg]; exact Nat.ne_of_gt (IsS137.lt (show IsS137 w _ g541 x542000_2 x542001_2 x542002_2 x542003_2 x542004_2 x542005_2 from by repeat (first | (with_reducible first | exact HI541.out | apply IsS137.alloc | apply IsS137.drewN | apply IsS137.drew | apply IsS137.set_0 | apply IsS137.set_1 | apply IsS137.set_2 | apply IsS137.set_3 | apply IsS137.set_4 | apply IsS137.set_5) | exact HI541.out))) : gb543 ≠ g541)); clear HI541; clear HB; have HI541 := n0_; have HB := n1_; have BK543 := n2_; have GW543 := n3_; have GE543 := n4_; have NB541_543 := n5_; have NB543_541 := n6_; clear n0_ n1_ n2_ n3_ n4_ n5_ n6_; clear hb hbox hg; have hnb16 := NB543_541.out; have hnc16 := NB541_543.out; have hcz17_0 : w15.cell? ⟨gb543, 0, none⟩ = some (.int .i64 0) := (blk_cell BK543.out 0).trans rfl; have hcz17_1 : w15.cell? ⟨gb543, 1, none⟩ = some (.int .i64 0) := (blk_cell BK543.out 1).trans rfl; have hcz17_2 : w15.cell? ⟨gb543, 2, none⟩ = some (.int .u64 0) := (blk_cell BK543.out 2).trans rfl; have hfz17_0 := blk_frozen BK543.out 0; have hfz17_1 := blk_frozen BK543.out 1; have hfz17_2 := blk_frozen BK543.out 2) | ((with_reducible refine gate_callee (f := 53) rfl ?_); refine goesL_ (some 34) rfl rfl Try.func53 (by kernel_rfl) rfl #[.pointer (some ⟨g541, 0, none⟩), .agg #[.int .i64 ((rd_T102 l0 x28_2).f0), .int .i64 ((rd_T102 l0 x28_2).f1), .int .u64 ((rd_T102 l0 x28_2).f2)]] rfl (by (try simp only [List.map_toArray, List.map_cons, List.map_nil]); first | done | rfl | (simp only [List.length_drop, List.length_take]; rfl)) ?_; (with_reducible refine (signalmanlaw09_do.calls k2 g541 x542000_2 x542001_2 x542002_2 x542003_2 x542004_2 x542005_2 ((rd_T102 l0 x28_2).f0) ((rd_T102 l0 x28_2).f1) ((rd_T102 l0 x28_2).f2) t544 t545 t546 t547 t548 t549 t550 t551 t552 w _ ?side1 ?side2 (by first | exact A14.out | (have h_ := A14.out; exact h_))).mono ?_); (case side1 => repeat (first | (with_reducible first | exact HI541.out | apply IsS137.alloc | apply IsS137.drewN | apply IsS137.drew | apply IsS137.set_0 | apply IsS137.set_1 | apply IsS137.set_2 | apply IsS137.set_3 | apply IsS137.set_4 | apply IsS137.set_5 | refine IsS137.far ?_ NB541_543.out _) | exact HI541.out)); (case side2 => repeat (first | (with_reducible first | exact HB.out | apply below_alloc | apply pw_below_drewN | apply below_drew1 | refine below_set ?_ (IsS137.ge HI541.out) | refine below_set ?_ GE543.out) | exact HB.out)); rintro e w18 ⟨rfl, hi, hb, hk⟩; refine ⟨_, rfl, ?_⟩; have n0_ := Aside0.mk (KeepBut.blk hk (g' := gb543) (o := .cells #[.int .i64 ((rd_T102 l0 x28_2).f0), .int .i64 ((rd_T102 l0 x28_2).f1), .int .u64 ((rd_T102 l0 x28_2).f2)] 102 (0, 0)) (by (with_reducible repeat (first | refine blk_drewN ?_ _ | refine blk_drew ?_ | refine blk_alloc ?_ _)); refine blk_put (cs := #[.int .i64 ((rd_T102 l0 x28_2).f0), .int .i64 ((rd_T102 l0 x28_2).f1), .int .u64 0]) ?_ 2 _ rfl; (with_reducible repeat (first | refine blk_drewN ?_ _ | refine blk_drew ?_ | refine blk_alloc ?_ _)); refine blk_put (cs := #[.int .i64 ((rd_T102 l0 x28_2).f0), .int .i64 0, .int .u64 0]) ?_ 1 _ rfl; (with_reducible repeat (first | refine blk_drewN ?_ _ | refine blk_drew ?_ | refine blk_alloc ?_ _)); refine blk_put (cs := #[.int .i64 0, .int .i64 0, .int .u64 0]) ?_ 0 _ rfl; (with_reducible repeat (first | refine blk_drewN ?_ _ | refine blk_drew ?_ | refine blk_alloc ?_ _)); exact BK543.out) NB543_541.out (by simp)); have n1_ := Aside0.mk (hb); have n2_ := Aside0.mk (hi); clear BK543; clear HB; clear HI541; have BK543 := n0_; have HB := n1_; have HI541 := n2_; clear n0_ n1_ n2_; (try clear hb); (try clear hb2); (try clear hk); (try clear hi)))
          go_roundg k2
          case measure => have := HJ4.out; have := HK2.out; omega
          case rel => exact ⟨(wrap64 (x28_2 + 1)), (t547), (t548), (t549), (t550), (t551), (t552), (by first | rfl | (simp; done) | (simp [*]; done)), H', ⟨by have := HJ4.out; have := HK2.out; omega⟩, ⟨by repeat (first | (with_reducible first | exact HI541.out | apply IsS137.alloc | apply IsS137.drewN | apply IsS137.drew | apply IsS137.set_0 | apply IsS137.set_1 | apply IsS137.set_2 | apply IsS137.set_3 | apply IsS137.set_4 | apply IsS137.set_5 | refine IsS137.far ?_ NB541_543.out _) | exact HI541.out)⟩, ⟨by repeat (first | (with_reducible first | exact HB.out | apply below_alloc | apply pw_below_drewN | apply below_drew1 | refine below_set ?_ (IsS137.ge HI541.out) | refine below_set ?_ GE543.out) | exact HB.out)⟩⟩
         ·rw [if_neg c13] at H
          exact absurd H (by simp)
        ·rw [if_neg c12] at H
         exact absurd H (by simp)
       ·rw [if_neg c11] at H
        have c11b0 : decide (x28_2 < (l0.length : Int)) = false := decide_eq_false c11
        clear c11
        have HC19 := Aside0.mk H
        clear H
        go_upto_region 11 with (fail)
        go_cut [10] (fun v10 wc => ∃ (kq : Nat) (x10_18 : Bool) (x542000_18 : Int) (x542001_18 : Int) (x542002_18 : Int) (x542003_18 : Int) (x542004_18 : Bool) (x542005_18 : Bool), v10 = .bool x10_18 ∧ Aside0 (signalmanlaw09_ConnEnds.j2 kq l1 a2 x10_18 x542000_18 x542001_18 x542002_18 x542003_18 x542004_18 x542005_18 = some r) ∧ Aside0 (kq ≤ k2) ∧ Aside0 (IsS137 w wc g541 x542000_18 x542001_18 x542002_18 x542003_18 x542004_18 x542005_18) ∧ Aside0 (Below w.heap.size w wc))
        case first =>
         have H := HC19.out
         clear HC19
         by_cases c20 : a2 = true
         ·subst c20
          have H1 : ((conn_Conn_Soil.f x542000_2 x542001_2 x542002_2 x542003_2 x542004_2 x542005_2).bind fun bt553 => (signalmanlaw09_ConnEnds.j2 k2 l1 true bt553.1 bt553.2.1 bt553.2.2.1 bt553.2.2.2.1 bt553.2.2.2.2.1 bt553.2.2.2.2.2.1 bt553.2.2.2.2.2.2)) = some r := by rw [if_pos rfl] at H; exact H
          clear H
          have H := H1
          clear H1
          replace H := Option.bind_eq_some_iff.mp H
          obtain ⟨⟨t553, t554, t555, t556, t557, t558, t559⟩, A210, H⟩ := H
          replace H : (signalmanlaw09_ConnEnds.j2 k2 l1 true t553 t554 t555 t556 t557 t558 t559) = some r := H
          have A21 := Aside0.mk A210
          clear A210
          have H' := Aside0.mk H
          clear H
          go_wp2_with (first | (go_at_call 60; (with_reducible refine (conn_Conn_Soil.calls g541 x542000_2 x542001_2 x542002_2 x542003_2 x542004_2 x542005_2 t553 t554 t555 t556 t557 t558 t559 w _ ?side1 ?side2 (by first | exact A21.out | (have h_ := A21.out; exact h_))).mono ?_); (case side1 => repeat (first | (with_reducible first | exact HI541.out | apply IsS137.alloc | apply IsS137.drewN | apply IsS137.drew | apply IsS137.set_0 | apply IsS137.set_1 | apply IsS137.set_2 | apply IsS137.set_3 | apply IsS137.set_4 | apply IsS137.set_5) | exact HI541.out)); (case side2 => repeat (first | (with_reducible first | exact HB.out | apply below_alloc | apply pw_below_drewN | apply below_drew1 | refine below_set ?_ (IsS137.ge HI541.out)) | exact HB.out)); rintro e w22 ⟨rfl, hi, hb, hk⟩; have n0_ := Aside0.mk (hb); have n1_ := Aside0.mk (hi); clear HB; clear HI541; have HB := n0_; have HI541 := n1_; clear n0_ n1_; (try clear hb); (try clear hb2); (try clear hk); (try clear hi)))
          go_meet
          case rel => exact ⟨_, (t553), (t554), (t555), (t556), (t557), (t558), (t559), (by first | rfl | (simp; done) | (simp [*]; done)), H', ⟨by have := HJ4.out; have := HK2.out; first | omega | exact Nat.le_refl _⟩, ⟨by repeat (first | (with_reducible first | exact HI541.out | apply IsS137.alloc | apply IsS137.drewN | apply IsS137.drew | apply IsS137.set_0 | apply IsS137.set_1 | apply IsS137.set_2 | apply IsS137.set_3 | apply IsS137.set_4 | apply IsS137.set_5) | exact HI541.out)⟩, ⟨by repeat (first | (with_reducible first | exact HB.out | apply below_alloc | apply pw_below_drewN | apply below_drew1 | refine below_set ?_ (IsS137.ge HI541.out)) | exact HB.out)⟩⟩
         ·replace c20 := Bool.eq_false_iff.mpr c20
          subst c20
          have H1 : (signalmanlaw09_ConnEnds.j2 k2 l1 false false x542000_2 x542001_2 x542002_2 x542003_2 x542004_2 x542005_2) = some r := by rw [if_neg (show ¬ (false = true) by decide)] at H; exact H
          clear H
          have H := H1
          clear H1
          have H' := Aside0.mk H
          clear H
          go_wp2
          go_meet
          case rel => exact ⟨_, (false), (x542000_2), (x542001_2), (x542002_2), (x542003_2), (x542004_2), (x542005_2), (by first | rfl | (simp; done) | (simp [*]; done)), H', ⟨by have := HJ4.out; have := HK2.out; first | omega | exact Nat.le_refl _⟩, ⟨by repeat (first | (with_reducible first | exact HI541.out | apply IsS137.alloc | apply IsS137.drewN | apply IsS137.drew | apply IsS137.set_0 | apply IsS137.set_1 | apply IsS137.set_2 | apply IsS137.set_3 | apply IsS137.set_4 | apply IsS137.set_5) | exact HI541.out)⟩, ⟨by repeat (first | (with_reducible first | exact HB.out | apply below_alloc | apply pw_below_drewN | apply below_drew1 | refine below_set ?_ (IsS137.ge HI541.out)) | exact HB.out)⟩⟩
        case rest =>
         clear HC19
         try clear c1
         try clear c2
         try clear p2
         try clear c5
         try clear p5
         try clear q5
         try clear hx5
         try clear p6
         try clear c7
         try clear c7b0
         try clear c7b1
         try clear c8
         try clear c11
         try clear c11b0
         try clear c12
         try clear c12b0
         try clear c13
         try clear c13b0
         try clear c14
         try clear c16
         try clear c20
         try clear hcz17_0
         try clear hcz17_1
         try clear hcz17_2
         try clear hfz17_0
         try clear hfz17_1
         try clear hfz17_2
         try clear hx542_0
         try clear hx542_1
         try clear hx542_2
         try clear p2
         try clear p542
         try clear q542
         obtain ⟨kq, x10_18, x542000_18, x542001_18, x542002_18, x542003_18, x542004_18, x542005_18, rfl, HA, HJ18, HI541, HB⟩ := hcut
         cases kq with
         | zero => exact absurd HA.out (by simp [signalmanlaw09_ConnEnds.j2])
         | succ kj18 =>
          have H := HA.out
          clear HA
          simp only [signalmanlaw09_ConnEnds.j2] at H
          have HC23 := Aside0.mk H
          clear H
          go_upto_if 42 with (fail)
          go_cut [] (fun wc => ∃ (kq : Nat) (x542000_22 : Int) (x542001_22 : Int) (x542002_22 : Int) (x542003_22 : Int) (x542004_22 : Bool) (x542005_22 : Bool), Aside0 (signalmanlaw09_ConnEnds.j4 kq l1 a2 x10_18 x542000_22 x542001_22 x542002_22 x542003_22 x542004_22 x542005_22 = some r) ∧ Aside0 (kq ≤ kj18) ∧ Aside0 (IsS137 w wc g541 x542000_22 x542001_22 x542002_22 x542003_22 x542004_22 x542005_22) ∧ Aside0 (Below w.heap.size w wc))
          case first =>
           have H := HC23.out
           clear HC23
           by_cases c24 : a2 = true
           ·subst c24
            have H1 : (signalmanlaw09_ConnEnds.j4 kj18 l1 true x10_18 x542000_18 x542001_18 x542002_18 x542003_18 x542004_18 x542005_18) = some r := by rw [if_pos rfl] at H; exact H
            clear H
            have H := H1
            clear H1
            have H' := Aside0.mk H
            clear H
            go_wp2
            go_meet
            case rel => exact ⟨_, (x542000_18), (x542001_18), (x542002_18), (x542003_18), (x542004_18), (x542005_18), H', ⟨by have := HJ4.out; have := HK2.out; have := HJ18.out; first | omega | exact Nat.le_refl _⟩, ⟨by repeat (first | (with_reducible first | exact HI541.out | apply IsS137.alloc | apply IsS137.drewN | apply IsS137.drew | apply IsS137.set_0 | apply IsS137.set_1 | apply IsS137.set_2 | apply IsS137.set_3 | apply IsS137.set_4 | apply IsS137.set_5) | exact HI541.out)⟩, ⟨by repeat (first | (with_reducible first | exact HB.out | apply below_alloc | apply pw_below_drewN | apply below_drew1 | refine below_set ?_ (IsS137.ge HI541.out)) | exact HB.out)⟩⟩
           ·replace c24 := Bool.eq_false_iff.mpr c24
            subst c24
            have H1 : ((conn_Conn_Drain.f x542000_18 x542001_18 x542002_18 x542003_18 x542004_18 x542005_18).bind fun bt560 => ((conn_Conn_State.f bt560.1 bt560.2.1 bt560.2.2.1 bt560.2.2.2.1 bt560.2.2.2.2.1 bt560.2.2.2.2.2).bind fun bt566 => (if bt566.1 = 3 then ((conn_Conn_State.f bt566.2.1 bt566.2.2.1 bt566.2.2.2.1 bt566.2.2.2.2.1 bt566.2.2.2.2.2.1 bt566.2.2.2.2.2.2).bind fun bt573 => ((conn_Conn_Flight.f bt573.2.1 bt573.2.2.1 bt573.2.2.2.1 bt573.2.2.2.2.1 bt573.2.2.2.2.2.1 bt573.2.2.2.2.2.2).bind fun bt580 => (signalmanlaw09_ConnEnds.j3 kj18 l1 false x10_18 ((bt573.1 == 3) != (bt580.1 != 0)) bt580.2.1 bt580.2.2.1 bt580.2.2.2.1 bt580.2.2.2.2.1 bt580.2.2.2.2.2.1 bt580.2.2.2.2.2.2))) else ((conn_Conn_State.f bt566.2.1 bt566.2.2.1 bt566.2.2.2.1 bt566.2.2.2.2.1 bt566.2.2.2.2.2.1 bt566.2.2.2.2.2.2).bind fun bt587 => (if bt587.1 = 4 then ((conn_Conn_State.f bt587.2.1 bt587.2.2.1 bt587.2.2.2.1 bt587.2.2.2.2.1 bt587.2.2.2.2.2.1 bt587.2.2.2.2.2.2).bind fun bt594 => ((conn_Conn_Flight.f bt594.2.1 bt594.2.2.1 bt594.2.2.2.1 bt594.2.2.2.2.1 bt594.2.2.2.2.2.1 bt594.2.2.2.2.2.2).bind fun bt601 => (signalmanlaw09_ConnEnds.j3 kj18 l1 false x10_18 ((bt594.1 == 3) != (bt601.1 != 0)) bt601.2.1 bt601.2.2.1 bt601.2.2.2.1 bt601.2.2.2.2.1 bt601.2.2.2.2.2.1 bt601.2.2.2.2.2.2))) else (signalmanlaw09_ConnEnds.j3 kj18 l1 false x10_18 true bt587.2.1 bt587.2.2.1 bt587.2.2.2.1 bt587.2.2.2.2.1 bt587.2.2.2.2.2.1 bt587.2.2.2.2.2.2)))))) = some r := by rw [if_neg (show ¬ (false = true) by decide)] at H; exact H
            clear H
            have H := H1
            clear H1
            replace H := Option.bind_eq_some_iff.mp H
            obtain ⟨⟨t560, t561, t562, t563, t564, t565⟩, A250, H⟩ := H
            replace H : ((conn_Conn_State.f t560 t561 t562 t563 t564 t565).bind fun bt566 => (if bt566.1 = 3 then ((conn_Conn_State.f bt566.2.1 bt566.2.2.1 bt566.2.2.2.1 bt566.2.2.2.2.1 bt566.2.2.2.2.2.1 bt566.2.2.2.2.2.2).bind fun bt573 => ((conn_Conn_Flight.f bt573.2.1 bt573.2.2.1 bt573.2.2.2.1 bt573.2.2.2.2.1 bt573.2.2.2.2.2.1 bt573.2.2.2.2.2.2).bind fun bt580 => (signalmanlaw09_ConnEnds.j3 kj18 l1 false x10_18 ((bt573.1 == 3) != (bt580.1 != 0)) bt580.2.1 bt580.2.2.1 bt580.2.2.2.1 bt580.2.2.2.2.1 bt580.2.2.2.2.2.1 bt580.2.2.2.2.2.2))) else ((conn_Conn_State.f bt566.2.1 bt566.2.2.1 bt566.2.2.2.1 bt566.2.2.2.2.1 bt566.2.2.2.2.2.1 bt566.2.2.2.2.2.2).bind fun bt587 => (if bt587.1 = 4 then ((conn_Conn_State.f bt587.2.1 bt587.2.2.1 bt587.2.2.2.1 bt587.2.2.2.2.1 bt587.2.2.2.2.2.1 bt587.2.2.2.2.2.2).bind fun bt594 => ((conn_Conn_Flight.f bt594.2.1 bt594.2.2.1 bt594.2.2.2.1 bt594.2.2.2.2.1 bt594.2.2.2.2.2.1 bt594.2.2.2.2.2.2).bind fun bt601 => (signalmanlaw09_ConnEnds.j3 kj18 l1 false x10_18 ((bt594.1 == 3) != (bt601.1 != 0)) bt601.2.1 bt601.2.2.1 bt601.2.2.2.1 bt601.2.2.2.2.1 bt601.2.2.2.2.2.1 bt601.2.2.2.2.2.2))) else (signalmanlaw09_ConnEnds.j3 kj18 l1 false x10_18 true bt587.2.1 bt587.2.2.1 bt587.2.2.2.1 bt587.2.2.2.2.1 bt587.2.2.2.2.2.1 bt587.2.2.2.2.2.2))))) = some r := H
            have A25 := Aside0.mk A250
            clear A250
            have HC26 := Aside0.mk H
            clear H
            go_upto_region 14 with (first | ((with_reducible refine gate_callee (f := 61) rfl ?_); refine goesL_ (some 44) rfl rfl Try.func61 (by kernel_rfl) rfl #[.pointer (some ⟨g541, 0, none⟩)] rfl (by (try simp only [List.map_toArray, List.map_cons, List.map_nil]); first | done | rfl | (simp only [List.length_drop, List.length_take]; rfl)) ?_; (with_reducible refine (conn_Conn_Drain.calls g541 x542000_18 x542001_18 x542002_18 x542003_18 x542004_18 x542005_18 t560 t561 t562 t563 t564 t565 w _ ?side1 ?side2 (by first | exact A25.out | (have h_ := A25.out; exact h_))).mono ?_); (case side1 => repeat (first | (with_reducible first | exact HI541.out | apply IsS137.alloc | apply IsS137.drewN | apply IsS137.drew | apply IsS137.set_0 | apply IsS137.set_1 | apply IsS137.set_2 | apply IsS137.set_3 | apply IsS137.set_4 | apply IsS137.set_5) | exact HI541.out)); (case side2 => repeat (first | (with_reducible first | exact HB.out | apply below_alloc | apply pw_below_drewN | apply below_drew1 | refine below_set ?_ (IsS137.ge HI541.out)) | exact HB.out)); rintro e w27 ⟨rfl, hi, hb, hk⟩; refine ⟨_, rfl, ?_⟩; have n0_ := Aside0.mk (hb); have n1_ := Aside0.mk (hi); clear HB; clear HI541; have HB := n0_; have HI541 := n1_; clear n0_ n1_; (try clear hb); (try clear hb2); (try clear hk); (try clear hi)))
            (try simp only [Act.put, List.setIfInBounds_toArray, List.set_cons_zero, List.set_cons_succ])
            go_cut [61] (fun v61 wc => ∃ (kq : Nat) (x61_25 : Bool) (x542000_25 : Int) (x542001_25 : Int) (x542002_25 : Int) (x542003_25 : Int) (x542004_25 : Bool) (x542005_25 : Bool), v61 = .bool x61_25 ∧ Aside0 (signalmanlaw09_ConnEnds.j3 kq l1 false x10_18 x61_25 x542000_25 x542001_25 x542002_25 x542003_25 x542004_25 x542005_25 = some r) ∧ Aside0 (kq ≤ kj18) ∧ Aside0 (IsS137 w wc g541 x542000_25 x542001_25 x542002_25 x542003_25 x542004_25 x542005_25) ∧ Aside0 (Below w.heap.size w wc))
            case first =>
             have H := HC26.out
             clear HC26
             replace H := Option.bind_eq_some_iff.mp H
             obtain ⟨⟨t566, t567, t568, t569, t570, t571, t572⟩, A280, H⟩ := H
             replace H : (if t566 = 3 then ((conn_Conn_State.f t567 t568 t569 t570 t571 t572).bind fun bt573 => ((conn_Conn_Flight.f bt573.2.1 bt573.2.2.1 bt573.2.2.2.1 bt573.2.2.2.2.1 bt573.2.2.2.2.2.1 bt573.2.2.2.2.2.2).bind fun bt580 => (signalmanlaw09_ConnEnds.j3 kj18 l1 false x10_18 ((bt573.1 == 3) != (bt580.1 != 0)) bt580.2.1 bt580.2.2.1 bt580.2.2.2.1 bt580.2.2.2.2.1 bt580.2.2.2.2.2.1 bt580.2.2.2.2.2.2))) else ((conn_Conn_State.f t567 t568 t569 t570 t571 t572).bind fun bt587 => (if bt587.1 = 4 then ((conn_Conn_State.f bt587.2.1 bt587.2.2.1 bt587.2.2.2.1 bt587.2.2.2.2.1 bt587.2.2.2.2.2.1 bt587.2.2.2.2.2.2).bind fun bt594 => ((conn_Conn_Flight.f bt594.2.1 bt594.2.2.1 bt594.2.2.2.1 bt594.2.2.2.2.1 bt594.2.2.2.2.2.1 bt594.2.2.2.2.2.2).bind fun bt601 => (signalmanlaw09_ConnEnds.j3 kj18 l1 false x10_18 ((bt594.1 == 3) != (bt601.1 != 0)) bt601.2.1 bt601.2.2.1 bt601.2.2.2.1 bt601.2.2.2.2.1 bt601.2.2.2.2.2.1 bt601.2.2.2.2.2.2))) else (signalmanlaw09_ConnEnds.j3 kj18 l1 false x10_18 true bt587.2.1 bt587.2.2.1 bt587.2.2.2.1 bt587.2.2.2.2.1 bt587.2.2.2.2.2.1 bt587.2.2.2.2.2.2)))) = some r := H
             have A28 := Aside0.mk A280
             clear A280
             by_cases c29 : t566 = 3
             ·rw [if_pos c29] at H
              have c29b0 : (t566 == 3) = true := beq_iff_eq.mpr c29
              have c29b1 : (t566 != 3) = false := bne_eq_false_iff_eq.mpr c29
              clear c29
              (first | rw [c29b0] | (simp only [i64_w, i32_w]; rw [c29b0]) | skip)
              replace H := Option.bind_eq_some_iff.mp H
              obtain ⟨⟨t573, t574, t575, t576, t577, t578, t579⟩, A300, H⟩ := H
              replace H : ((conn_Conn_Flight.f t574 t575 t576 t577 t578 t579).bind fun bt580 => (signalmanlaw09_ConnEnds.j3 kj18 l1 false x10_18 ((t573 == 3) != (bt580.1 != 0)) bt580.2.1 bt580.2.2.1 bt580.2.2.2.1 bt580.2.2.2.2.1 bt580.2.2.2.2.2.1 bt580.2.2.2.2.2.2)) = some r := H
              have A30 := Aside0.mk A300
              clear A300
              replace H := Option.bind_eq_some_iff.mp H
              obtain ⟨⟨t580, t581, t582, t583, t584, t585, t586⟩, A310, H⟩ := H
              replace H : (signalmanlaw09_ConnEnds.j3 kj18 l1 false x10_18 ((t573 == 3) != (t580 != 0)) t581 t582 t583 t584 t585 t586) = some r := H
              have A31 := Aside0.mk A310
              clear A310
              have H' := Aside0.mk H
              clear H
              go_wp2_with (first | ((with_reducible refine gate_callee (f := 55) rfl ?_); refine goesL_ (some 46) rfl rfl Try.func55 (by kernel_rfl) rfl #[.pointer (some ⟨g541, 0, none⟩)] rfl (by (try simp only [List.map_toArray, List.map_cons, List.map_nil]); first | done | rfl | (simp only [List.length_drop, List.length_take]; rfl)) ?_; (with_reducible refine (conn_Conn_State.calls g541 t560 t561 t562 t563 t564 t565 t566 t567 t568 t569 t570 t571 t572 w _ ?side1 ?side2 (by first | exact A28.out | (have h_ := A28.out; exact h_))).mono ?_); (case side1 => repeat (first | (with_reducible first | exact HI541.out | apply IsS137.alloc | apply IsS137.drewN | apply IsS137.drew | apply IsS137.set_0 | apply IsS137.set_1 | apply IsS137.set_2 | apply IsS137.set_3 | apply IsS137.set_4 | apply IsS137.set_5) | exact HI541.out)); (case side2 => repeat (first | (with_reducible first | exact HB.out | apply below_alloc | apply pw_below_drewN | apply below_drew1 | refine below_set ?_ (IsS137.ge HI541.out)) | exact HB.out)); rintro e w32 ⟨rfl, hi, hb, hk⟩; refine ⟨_, rfl, ?_⟩; have n0_ := Aside0.mk (hb); have n1_ := Aside0.mk (hi); clear HB; clear HI541; have HB := n0_; have HI541 := n1_; clear n0_ n1_; (try clear hb); (try clear hb2); (try clear hk); (try clear hi)) | (go_at_call 55; (with_reducible refine (conn_Conn_State.calls g541 t567 t568 t569 t570 t571 t572 t573 t574 t575 t576 t577 t578 t579 w _ ?side1 ?side2 (by first | exact A30.out | (have h_ := A30.out; exact h_))).mono ?_); (case side1 => repeat (first | (with_reducible first | exact HI541.out | apply IsS137.alloc | apply IsS137.drewN | apply IsS137.drew | apply IsS137.set_0 | apply IsS137.set_1 | apply IsS137.set_2 | apply IsS137.set_3 | apply IsS137.set_4 | apply IsS137.set_5) | exact HI541.out)); (case side2 => repeat (first | (with_reducible first | exact HB.out | apply below_alloc | apply pw_below_drewN | apply below_drew1 | refine below_set ?_ (IsS137.ge HI541.out)) | exact HB.out)); rintro e w33 ⟨rfl, hi, hb, hk⟩; have n0_ := Aside0.mk (hb); have n1_ := Aside0.mk (hi); clear HB; clear HI541; have HB := n0_; have HI541 := n1_; clear n0_ n1_; (try clear hb); (try clear hb2); (try clear hk); (try clear hi)) | (go_at_call 57; (with_reducible refine (conn_Conn_Flight.calls g541 t574 t575 t576 t577 t578 t579 t580 t581 t582 t583 t584 t585 t586 w _ ?side1 ?side2 (by first | exact A31.out | (have h_ := A31.out; exact h_))).mono ?_); (case side1 => repeat (first | (with_reducible first | exact HI541.out | apply IsS137.alloc | apply IsS137.drewN | apply IsS137.drew | apply IsS137.set_0 | apply IsS137.set_1 | apply IsS137.set_2 | apply IsS137.set_3 | apply IsS137.set_4 | apply IsS137.set_5) | exact HI541.out)); (case side2 => repeat (first | (with_reducible first | exact HB.out | apply below_alloc | apply pw_below_drewN | apply below_drew1 | refine below_set ?_ (IsS137.ge HI541.out)) | exact HB.out)); rintro e w34 ⟨rfl, hi, hb, hk⟩; have n0_ := Aside0.mk (hb); have n1_ := Aside0.mk (hi); clear HB; clear HI541; have HB := n0_; have HI541 := n1_; clear n0_ n1_; (try clear hb); (try clear hb2); (try clear hk); (try clear hi)))
              go_meet
              case rel => exact ⟨_, (((t573 == 3) != (t580 != 0))), (t581), (t582), (t583), (t584), (t585), (t586), (by first | rfl | (simp; done) | (simp [*]; done)), H', ⟨by have := HJ4.out; have := HK2.out; have := HJ18.out; first | omega | exact Nat.le_refl _⟩, ⟨by repeat (first | (with_reducible first | exact HI541.out | apply IsS137.alloc | apply IsS137.drewN | apply IsS137.drew | apply IsS137.set_0 | apply IsS137.set_1 | apply IsS137.set_2 | apply IsS137.set_3 | apply IsS137.set_4 | apply IsS137.set_5) | exact HI541.out)⟩, ⟨by repeat (first | (with_reducible first | exact HB.out | apply below_alloc | apply pw_below_drewN | apply below_drew1 | refine below_set ?_ (IsS137.ge HI541.out)) | exact HB.out)⟩⟩
             ·rw [if_neg c29] at H
              have c29b0 : (t566 == 3) = false := beq_eq_false_iff_ne.mpr c29
              have c29b1 : (t566 != 3) = true := bne_iff_ne.mpr c29
              (first | rw [c29b0] | (simp only [i64_w, i32_w]; rw [c29b0]) | skip)
              replace H := Option.bind_eq_some_iff.mp H
              obtain ⟨⟨t587, t588, t589, t590, t591, t592, t593⟩, A350, H⟩ := H
              replace H : (if t587 = 4 then ((conn_Conn_State.f t588 t589 t590 t591 t592 t593).bind fun bt594 => ((conn_Conn_Flight.f bt594.2.1 bt594.2.2.1 bt594.2.2.2.1 bt594.2.2.2.2.1 bt594.2.2.2.2.2.1 bt594.2.2.2.2.2.2).bind fun bt601 => (signalmanlaw09_ConnEnds.j3 kj18 l1 false x10_18 ((bt594.1 == 3) != (bt601.1 != 0)) bt601.2.1 bt601.2.2.1 bt601.2.2.2.1 bt601.2.2.2.2.1 bt601.2.2.2.2.2.1 bt601.2.2.2.2.2.2))) else (signalmanlaw09_ConnEnds.j3 kj18 l1 false x10_18 true t588 t589 t590 t591 t592 t593)) = some r := H
              have A35 := Aside0.mk A350
              clear A350
              by_cases c36 : t587 = 4
              ·rw [if_pos c36] at H
               have c36b0 : (t587 == 4) = true := beq_iff_eq.mpr c36
               have c36b1 : (t587 != 4) = false := bne_eq_false_iff_eq.mpr c36
               clear c36
               replace H := Option.bind_eq_some_iff.mp H
               obtain ⟨⟨t594, t595, t596, t597, t598, t599, t600⟩, A370, H⟩ := H
               replace H : ((conn_Conn_Flight.f t595 t596 t597 t598 t599 t600).bind fun bt601 => (signalmanlaw09_ConnEnds.j3 kj18 l1 false x10_18 ((t594 == 3) != (bt601.1 != 0)) bt601.2.1 bt601.2.2.1 bt601.2.2.2.1 bt601.2.2.2.2.1 bt601.2.2.2.2.2.1 bt601.2.2.2.2.2.2)) = some r := H
               have A37 := Aside0.mk A370
               clear A370
               replace H := Option.bind_eq_some_iff.mp H
               obtain ⟨⟨t601, t602, t603, t604, t605, t606, t607⟩, A380, H⟩ := H
               replace H : (signalmanlaw09_ConnEnds.j3 kj18 l1 false x10_18 ((t594 == 3) != (t601 != 0)) t602 t603 t604 t605 t606 t607) = some r := H
               have A38 := Aside0.mk A380
               clear A380
               have H' := Aside0.mk H
               clear H
               go_wp2_with (first | ((with_reducible refine gate_callee (f := 55) rfl ?_); refine goesL_ (some 46) rfl rfl Try.func55 (by kernel_rfl) rfl #[.pointer (some ⟨g541, 0, none⟩)] rfl (by (try simp only [List.map_toArray, List.map_cons, List.map_nil]); first | done | rfl | (simp only [List.length_drop, List.length_take]; rfl)) ?_; (with_reducible refine (conn_Conn_State.calls g541 t560 t561 t562 t563 t564 t565 t566 t567 t568 t569 t570 t571 t572 w _ ?side1 ?side2 (by first | exact A28.out | (have h_ := A28.out; exact h_))).mono ?_); (case side1 => repeat (first | (with_reducible first | exact HI541.out | apply IsS137.alloc | apply IsS137.drewN | apply IsS137.drew | apply IsS137.set_0 | apply IsS137.set_1 | apply IsS137.set_2 | apply IsS137.set_3 | apply IsS137.set_4 | apply IsS137.set_5) | exact HI541.out)); (case side2 => repeat (first | (with_reducible first | exact HB.out | apply below_alloc | apply pw_below_drewN | apply below_drew1 | refine below_set ?_ (IsS137.ge HI541.out)) | exact HB.out)); rintro e w39 ⟨rfl, hi, hb, hk⟩; refine ⟨_, rfl, ?_⟩; have n0_ := Aside0.mk (hb); have n1_ := Aside0.mk (hi); clear HB; clear HI541; have HB := n0_; have HI541 := n1_; clear n0_ n1_; (try clear hb); (try clear hb2); (try clear hk); (try clear hi)) | (go_at_call 55; (with_reducible refine (conn_Conn_State.calls g541 t567 t568 t569 t570 t571 t572 t587 t588 t589 t590 t591 t592 t593 w _ ?side1 ?side2 (by first | exact A35.out | (have h_ := A35.out; exact h_))).mono ?_); (case side1 => repeat (first | (with_reducible first | exact HI541.out | apply IsS137.alloc | apply IsS137.drewN | apply IsS137.drew | apply IsS137.set_0 | apply IsS137.set_1 | apply IsS137.set_2 | apply IsS137.set_3 | apply IsS137.set_4 | apply IsS137.set_5) | exact HI541.out)); (case side2 => repeat (first | (with_reducible first | exact HB.out | apply below_alloc | apply pw_below_drewN | apply below_drew1 | refine below_set ?_ (IsS137.ge HI541.out)) | exact HB.out)); rintro e w40 ⟨rfl, hi, hb, hk⟩; have n0_ := Aside0.mk (hb); have n1_ := Aside0.mk (hi); clear HB; clear HI541; have HB := n0_; have HI541 := n1_; clear n0_ n1_; (try clear hb); (try clear hb2); (try clear hk); (try clear hi)) | (go_at_call 55; (with_reducible refine (conn_Conn_State.calls g541 t588 t589 t590 t591 t592 t593 t594 t595 t596 t597 t598 t599 t600 w _ ?side1 ?side2 (by first | exact A37.out | (have h_ := A37.out; exact h_))).mono ?_); (case side1 => repeat (first | (with_reducible first | exact HI541.out | apply IsS137.alloc | apply IsS137.drewN | apply IsS137.drew | apply IsS137.set_0 | apply IsS137.set_1 | apply IsS137.set_2 | apply IsS137.set_3 | apply IsS137.set_4 | apply IsS137.set_5) | exact HI541.out)); (case side2 => repeat (first | (with_reducible first | exact HB.out | apply below_alloc | apply pw_below_drewN | apply below_drew1 | refine below_set ?_ (IsS137.ge HI541.out)) | exact HB.out)); rintro e w41 ⟨rfl, hi, hb, hk⟩; have n0_ := Aside0.mk (hb); have n1_ := Aside0.mk (hi); clear HB; clear HI541; have HB := n0_; have HI541 := n1_; clear n0_ n1_; (try clear hb); (try clear hb2); (try clear hk); (try clear hi)) | (go_at_call 57; (with_reducible refine (conn_Conn_Flight.calls g541 t595 t596 t597 t598 t599 t600 t601 t602 t603 t604 t605 t606 t607 w _ ?side1 ?side2 (by first | exact A38.out | (have h_ := A38.out; exact h_))).mono ?_); (case side1 => repeat (first | (with_reducible first | exact HI541.out | apply IsS137.alloc | apply IsS137.drewN | apply IsS137.drew | apply IsS137.set_0 | apply IsS137.set_1 | apply IsS137.set_2 | apply IsS137.set_3 | apply IsS137.set_4 | apply IsS137.set_5) | exact HI541.out)); (case side2 => repeat (first | (with_reducible first | exact HB.out | apply below_alloc | apply pw_below_drewN | apply below_drew1 | refine below_set ?_ (IsS137.ge HI541.out)) | exact HB.out)); rintro e w42 ⟨rfl, hi, hb, hk⟩; have n0_ := Aside0.mk (hb); have n1_ := Aside0.mk (hi); clear HB; clear HI541; have HB := n0_; have HI541 := n1_; clear n0_ n1_; (try clear hb); (try clear hb2); (try clear hk); (try clear hi)))
               go_meet
               case rel => exact ⟨_, (((t594 == 3) != (t601 != 0))), (t602), (t603), (t604), (t605), (t606), (t607), (by first | rfl | (simp; done) | (simp [*]; done)), H', ⟨by have := HJ4.out; have := HK2.out; have := HJ18.out; first | omega | exact Nat.le_refl _⟩, ⟨by repeat (first | (with_reducible first | exact HI541.out | apply IsS137.alloc | apply IsS137.drewN | apply IsS137.drew | apply IsS137.set_0 | apply IsS137.set_1 | apply IsS137.set_2 | apply IsS137.set_3 | apply IsS137.set_4 | apply IsS137.set_5) | exact HI541.out)⟩, ⟨by repeat (first | (with_reducible first | exact HB.out | apply below_alloc | apply pw_below_drewN | apply below_drew1 | refine below_set ?_ (IsS137.ge HI541.out)) | exact HB.out)⟩⟩
              ·rw [if_neg c36] at H
               have c36b0 : (t587 == 4) = false := beq_eq_false_iff_ne.mpr c36
               have c36b1 : (t587 != 4) = true := bne_iff_ne.mpr c36
               have H' := Aside0.mk H
               clear H
               go_wp2_with (first | ((with_reducible refine gate_callee (f := 55) rfl ?_); refine goesL_ (some 46) rfl rfl Try.func55 (by kernel_rfl) rfl #[.pointer (some ⟨g541, 0, none⟩)] rfl (by (try simp only [List.map_toArray, List.map_cons, List.map_nil]); first | done | rfl | (simp only [List.length_drop, List.length_take]; rfl)) ?_; (with_reducible refine (conn_Conn_State.calls g541 t560 t561 t562 t563 t564 t565 t566 t567 t568 t569 t570 t571 t572 w _ ?side1 ?side2 (by first | exact A28.out | (have h_ := A28.out; exact h_))).mono ?_); (case side1 => repeat (first | (with_reducible first | exact HI541.out | apply IsS137.alloc | apply IsS137.drewN | apply IsS137.drew | apply IsS137.set_0 | apply IsS137.set_1 | apply IsS137.set_2 | apply IsS137.set_3 | apply IsS137.set_4 | apply IsS137.set_5) | exact HI541.out)); (case side2 => repeat (first | (with_reducible first | exact HB.out | apply below_alloc | apply pw_below_drewN | apply below_drew1 | refine below_set ?_ (IsS137.ge HI541.out)) | exact HB.out)); rintro e w43 ⟨rfl, hi, hb, hk⟩; refine ⟨_, rfl, ?_⟩; have n0_ := Aside0.mk (hb); have n1_ := Aside0.mk (hi); clear HB; clear HI541; have HB := n0_; have HI541 := n1_; clear n0_ n1_; (try clear hb); (try clear hb2); (try clear hk); (try clear hi)) | (go_at_call 55; (with_reducible refine (conn_Conn_State.calls g541 t567 t568 t569 t570 t571 t572 t587 t588 t589 t590 t591 t592 t593 w _ ?side1 ?side2 (by first | exact A35.out | (have h_ := A35.out; exact h_))).mono ?_); (case side1 => repeat (first | (with_reducible first | exact HI541.out | apply IsS137.alloc | apply IsS137.drewN | apply IsS137.drew | apply IsS137.set_0 | apply IsS137.set_1 | apply IsS137.set_2 | apply IsS137.set_3 | apply IsS137.set_4 | apply IsS137.set_5) | exact HI541.out)); (case side2 => repeat (first | (with_reducible first | exact HB.out | apply below_alloc | apply pw_below_drewN | apply below_drew1 | refine below_set ?_ (IsS137.ge HI541.out)) | exact HB.out)); rintro e w44 ⟨rfl, hi, hb, hk⟩; have n0_ := Aside0.mk (hb); have n1_ := Aside0.mk (hi); clear HB; clear HI541; have HB := n0_; have HI541 := n1_; clear n0_ n1_; (try clear hb); (try clear hb2); (try clear hk); (try clear hi)))
               go_meet
               case rel => exact ⟨_, (true), (t588), (t589), (t590), (t591), (t592), (t593), (by first | rfl | (simp; done) | (simp [*]; done)), H', ⟨by have := HJ4.out; have := HK2.out; have := HJ18.out; first | omega | exact Nat.le_refl _⟩, ⟨by repeat (first | (with_reducible first | exact HI541.out | apply IsS137.alloc | apply IsS137.drewN | apply IsS137.drew | apply IsS137.set_0 | apply IsS137.set_1 | apply IsS137.set_2 | apply IsS137.set_3 | apply IsS137.set_4 | apply IsS137.set_5) | exact HI541.out)⟩, ⟨by repeat (first | (with_reducible first | exact HB.out | apply below_alloc | apply pw_below_drewN | apply below_drew1 | refine below_set ?_ (IsS137.ge HI541.out)) | exact HB.out)⟩⟩
            case rest =>
             clear HC26
             try clear c1
             try clear c2
             try clear p2
             try clear c3
             try clear c5
             try clear p5
             try clear q5
             try clear hx5
             try clear c6
             try clear p6
             try clear c7
             try clear c7b0
             try clear c7b1
             try clear c8
             try clear c11
             try clear c11b0
             try clear c12
             try clear c12b0
             try clear c13
             try clear c13b0
             try clear c14
             try clear c16
             try clear c20
             try clear c24
             try clear c29
             try clear c29b0
             try clear c29b1
             try clear c36
             try clear c36b0
             try clear c36b1
             try clear hcz17_0
             try clear hcz17_1
             try clear hcz17_2
             try clear hfz17_0
             try clear hfz17_1
             try clear hfz17_2
             try clear hx542_0
             try clear hx542_1
             try clear hx542_2
             try clear p2
             try clear p5
             try clear p542
             try clear p6
             try clear q5
             try clear q542
             obtain ⟨kq, x61_25, x542000_25, x542001_25, x542002_25, x542003_25, x542004_25, x542005_25, rfl, HA, HJ25, HI541, HB⟩ := hcut
             cases kq with
             | zero => exact absurd HA.out (by simp [signalmanlaw09_ConnEnds.j3])
             | succ kj25 =>
              have H := HA.out
              clear HA
              simp only [signalmanlaw09_ConnEnds.j3] at H
              by_cases c45 : x61_25 = true
              ·subst c45
               have H1 : (some false) = some r := by rw [if_pos rfl] at H; exact H
               clear H
               have H := H1
               clear H1
               obtain rfl := Option.some.inj H
               go_wp2
               go_ret
               exact ⟨by first | rfl | (simp [errW_none, errW_some] <;> rfl) | (simp [*, errW_none, errW_some] <;> rfl), by repeat (first | (with_reducible first | exact HB.out | apply below_alloc | apply pw_below_drewN | apply below_drew1 | refine below_set ?_ (IsS137.ge HI541.out)) | exact HB.out)⟩
              ·replace c45 := Bool.eq_false_iff.mpr c45
               subst c45
               have H1 : (signalmanlaw09_ConnEnds.j4 kj25 l1 false x10_18 x542000_25 x542001_25 x542002_25 x542003_25 x542004_25 x542005_25) = some r := by rw [if_neg (show ¬ (false = true) by decide)] at H; exact H
               clear H
               have H := H1
               clear H1
               have H' := Aside0.mk H
               clear H
               go_wp2
               go_meet
               case rel => exact ⟨_, (x542000_25), (x542001_25), (x542002_25), (x542003_25), (x542004_25), (x542005_25), H', ⟨by have := HJ4.out; have := HK2.out; have := HJ18.out; have := HJ25.out; first | omega | exact Nat.le_refl _⟩, ⟨by repeat (first | (with_reducible first | exact HI541.out | apply IsS137.alloc | apply IsS137.drewN | apply IsS137.drew | apply IsS137.set_0 | apply IsS137.set_1 | apply IsS137.set_2 | apply IsS137.set_3 | apply IsS137.set_4 | apply IsS137.set_5) | exact HI541.out)⟩, ⟨by repeat (first | (with_reducible first | exact HB.out | apply below_alloc | apply pw_below_drewN | apply below_drew1 | refine below_set ?_ (IsS137.ge HI541.out)) | exact HB.out)⟩⟩
          case rest =>
           clear HC23
           try clear c1
           try clear c2
           try clear p2
           try clear c3
           try clear c4
           try clear c5
           try clear p5
           try clear q5
           try clear hx5
           try clear c6
           try clear p6
           try clear c7
           try clear c7b0
           try clear c7b1
           try clear c8
           try clear c11
           try clear c11b0
           try clear c12
           try clear c12b0
           try clear c13
           try clear c13b0
           try clear c14
           try clear c16
           try clear c20
           try clear c24
           try clear c29
           try clear c29b0
           try clear c29b1
           try clear c36
           try clear c36b0
           try clear c36b1
           try clear c45
           try clear hcz17_0
           try clear hcz17_1
           try clear hcz17_2
           try clear hfz17_0
           try clear hfz17_1
           try clear hfz17_2
           try clear hx542_0
           try clear hx542_1
           try clear hx542_2
           try clear p2
           try clear p5
           try clear p542
           try clear p6
           try clear q5
           try clear q542
           obtain ⟨kq, x542000_22, x542001_22, x542002_22, x542003_22, x542004_22, x542005_22, HA, HJ22, HI541, HB⟩ := hcut
           cases kq with
           | zero => exact absurd HA.out (by simp [signalmanlaw09_ConnEnds.j4])
           | succ kj22 =>
            have H := HA.out
            clear HA
            simp only [signalmanlaw09_ConnEnds.j4] at H
            replace H := Option.bind_eq_some_iff.mp H
            obtain ⟨⟨t608, t609, t610, t611, t612, t613, t614⟩, A460, H⟩ := H
            replace H : (signalmanlaw09_ConnEnds.l1 kj22 a2 x10_18 (t608 == 4) l1 (l1.length : Int) 0 t609 t610 t611 t612 t613 t614) = some r := H
            have A46 := Aside0.mk A460
            clear A460
            have H' := Aside0.mk H
            clear H
            go_wp2_with (first | ((with_reducible refine gate_callee (f := 55) rfl ?_); refine goesL_ (some 63) rfl rfl Try.func55 (by kernel_rfl) rfl #[.pointer (some ⟨g541, 0, none⟩)] rfl (by (try simp only [List.map_toArray, List.map_cons, List.map_nil]); first | done | rfl | (simp only [List.length_drop, List.length_take]; rfl)) ?_; (with_reducible refine (conn_Conn_State.calls g541 x542000_22 x542001_22 x542002_22 x542003_22 x542004_22 x542005_22 t608 t609 t610 t611 t612 t613 t614 w _ ?side1 ?side2 (by first | exact A46.out | (have h_ := A46.out; exact h_))).mono ?_); (case side1 => repeat (first | (with_reducible first | exact HI541.out | apply IsS137.alloc | apply IsS137.drewN | apply IsS137.drew | apply IsS137.set_0 | apply IsS137.set_1 | apply IsS137.set_2 | apply IsS137.set_3 | apply IsS137.set_4 | apply IsS137.set_5) | exact HI541.out)); (case side2 => repeat (first | (with_reducible first | exact HB.out | apply below_alloc | apply pw_below_drewN | apply below_drew1 | refine below_set ?_ (IsS137.ge HI541.out)) | exact HB.out)); rintro e w47 ⟨rfl, hi, hb, hk⟩; refine ⟨_, rfl, ?_⟩; have n0_ := Aside0.mk (hb); have n1_ := Aside0.mk (hi); clear HB; clear HI541; have HB := n0_; have HI541 := n1_; clear n0_ n1_; (try clear hb); (try clear hb2); (try clear hk); (try clear hi)))
            go_loopg [11, 67] kj22 (fun kq v11 v67 w' => ∃ (x11_5 : Bool) (x67_5 : Int) (x542000_5 : Int) (x542001_5 : Int) (x542002_5 : Int) (x542003_5 : Int) (x542004_5 : Bool) (x542005_5 : Bool), v11 = .bool x11_5 ∧ v67 = .int .i64 x67_5 ∧ Aside0 (signalmanlaw09_ConnEnds.l1 kq a2 x10_18 x11_5 l1 (l1.length : Int) x67_5 x542000_5 x542001_5 x542002_5 x542003_5 x542004_5 x542005_5 = some r) ∧ Aside0 (kq ≤ kj22) ∧ Aside0 (IsS137 w w' g541 x542000_5 x542001_5 x542002_5 x542003_5 x542004_5 x542005_5) ∧ Aside0 (Below w.heap.size w w'))
            case atStart => exact ⟨((t608 == 4)), (0), (t609), (t610), (t611), (t612), (t613), (t614), (by first | rfl | (simp; done) | (simp [*]; done)), (by first | rfl | (simp; done) | (simp [*]; done)), H', ⟨Nat.le_refl _⟩, ⟨by repeat (first | (with_reducible first | exact HI541.out | apply IsS137.alloc | apply IsS137.drewN | apply IsS137.drew | apply IsS137.set_0 | apply IsS137.set_1 | apply IsS137.set_2 | apply IsS137.set_3 | apply IsS137.set_4 | apply IsS137.set_5) | exact HI541.out)⟩, ⟨by repeat (first | (with_reducible first | exact HB.out | apply below_alloc | apply pw_below_drewN | apply below_drew1 | refine below_set ?_ (IsS137.ge HI541.out)) | exact HB.out)⟩⟩
            case round =>
             clear H'
             try clear c1
             try clear c2
             try clear p2
             try clear c3
             try clear c4
             try clear c5
             try clear p5
             try clear q5
             try clear hx5
             try clear c6
             try clear p6
             try clear c7
             try clear c7b0
             try clear c7b1
             try clear c8
             try clear c11
             try clear c11b0
             try clear c12
             try clear c12b0
             try clear c13
             try clear c13b0
             try clear c14
             try clear c16
             try clear c20
             try clear c24
             try clear c29
             try clear c29b0
             try clear c29b1
             try clear c36
             try clear c36b0
             try clear c36b1
             try clear c45
             try clear hcz17_0
             try clear hcz17_1
             try clear hcz17_2
             try clear hfz17_0
             try clear hfz17_1
             try clear hfz17_2
             try clear hx542_0
             try clear hx542_1
             try clear hx542_2
             try clear p2
             try clear p5
             try clear p542
             try clear p6
             try clear q5
             try clear q542
             obtain ⟨x11_5, x67_5, x542000_5, x542001_5, x542002_5, x542003_5, x542004_5, x542005_5, rfl, rfl, HA, HK5, HI541, HB⟩ := hrel
             cases gk with
             | zero => exact absurd HA.out (by simp [signalmanlaw09_ConnEnds.l1])
             | succ k5 =>
              have H := HA.out
              clear HA
              simp only [signalmanlaw09_ConnEnds.l1] at H
              by_cases c48 : x67_5 < (l1.length : Int)
              ·rw [if_pos c48] at H
               have c48b0 : decide (x67_5 < (l1.length : Int)) = true := decide_eq_true c48
               clear c48
               by_cases c49 : 0 ≤ x67_5
               ·rw [if_pos c49] at H
                have c49b0 : decide (0 ≤ x67_5) = true := decide_eq_true c49
                clear c49
                by_cases c50 : x67_5 < (l1.length : Int)
                ·rw [if_pos c50] at H
                 have c50b0 : decide (x67_5 < (l1.length : Int)) = true := decide_eq_true c50
                 clear c50
                 replace H := Option.bind_eq_some_iff.mp H
                 obtain ⟨⟨t617, t618, t619, t620, t621, t622, t623, t624, t625⟩, A510, H⟩ := H
                 replace H : (if a2 = true then (if x11_5 = true then ((conn_Conn_State.f t620 t621 t622 t623 t624 t625).bind fun bt627 => (if bt627.1 = 4 then (if x10_18 = true then ((conn_Conn_State.f bt627.2.1 bt627.2.2.1 bt627.2.2.2.1 bt627.2.2.2.2.1 bt627.2.2.2.2.2.1 bt627.2.2.2.2.2.2).bind fun bt634 => (signalmanlaw09_ConnEnds.j6 k5 a2 x10_18 l1 (l1.length : Int) x67_5 (bt634.1 == 1) bt634.2.1 bt634.2.2.1 bt634.2.2.2.1 bt634.2.2.2.2.1 bt634.2.2.2.2.2.1 bt634.2.2.2.2.2.2)) else (signalmanlaw09_ConnEnds.j6 k5 a2 x10_18 l1 (l1.length : Int) x67_5 false bt627.2.1 bt627.2.2.1 bt627.2.2.2.1 bt627.2.2.2.2.1 bt627.2.2.2.2.2.1 bt627.2.2.2.2.2.2)) else (signalmanlaw09_ConnEnds.j6 k5 a2 x10_18 l1 (l1.length : Int) x67_5 true bt627.2.1 bt627.2.2.1 bt627.2.2.2.1 bt627.2.2.2.2.1 bt627.2.2.2.2.2.1 bt627.2.2.2.2.2.2))) else (if x10_18 = true then ((conn_Conn_State.f t620 t621 t622 t623 t624 t625).bind fun bt641 => (signalmanlaw09_ConnEnds.j6 k5 a2 x10_18 l1 (l1.length : Int) x67_5 (bt641.1 == 1) bt641.2.1 bt641.2.2.1 bt641.2.2.2.1 bt641.2.2.2.2.1 bt641.2.2.2.2.2.1 bt641.2.2.2.2.2.2)) else (signalmanlaw09_ConnEnds.j6 k5 a2 x10_18 l1 (l1.length : Int) x67_5 false t620 t621 t622 t623 t624 t625))) else (if ((rd_T102 l1 x67_5).f0) = 1 then (if t618 = 0 then (signalmanlaw09_ConnEnds.j6 k5 a2 x10_18 l1 (l1.length : Int) x67_5 true t620 t621 t622 t623 t624 t625) else (if x11_5 = true then ((conn_Conn_State.f t620 t621 t622 t623 t624 t625).bind fun bt648 => (if bt648.1 = 4 then (if x10_18 = true then ((conn_Conn_State.f bt648.2.1 bt648.2.2.1 bt648.2.2.2.1 bt648.2.2.2.2.1 bt648.2.2.2.2.2.1 bt648.2.2.2.2.2.2).bind fun bt655 => (signalmanlaw09_ConnEnds.j6 k5 a2 x10_18 l1 (l1.length : Int) x67_5 (bt655.1 == 1) bt655.2.1 bt655.2.2.1 bt655.2.2.2.1 bt655.2.2.2.2.1 bt655.2.2.2.2.2.1 bt655.2.2.2.2.2.2)) else (signalmanlaw09_ConnEnds.j6 k5 a2 x10_18 l1 (l1.length : Int) x67_5 false bt648.2.1 bt648.2.2.1 bt648.2.2.2.1 bt648.2.2.2.2.1 bt648.2.2.2.2.2.1 bt648.2.2.2.2.2.2)) else (signalmanlaw09_ConnEnds.j6 k5 a2 x10_18 l1 (l1.length : Int) x67_5 true bt648.2.1 bt648.2.2.1 bt648.2.2.2.1 bt648.2.2.2.2.1 bt648.2.2.2.2.2.1 bt648.2.2.2.2.2.2))) else (if x10_18 = true then ((conn_Conn_State.f t620 t621 t622 t623 t624 t625).bind fun bt662 => (signalmanlaw09_ConnEnds.j6 k5 a2 x10_18 l1 (l1.length : Int) x67_5 (bt662.1 == 1) bt662.2.1 bt662.2.2.1 bt662.2.2.2.1 bt662.2.2.2.2.1 bt662.2.2.2.2.2.1 bt662.2.2.2.2.2.2)) else (signalmanlaw09_ConnEnds.j6 k5 a2 x10_18 l1 (l1.length : Int) x67_5 false t620 t621 t622 t623 t624 t625)))) else (if x11_5 = true then ((conn_Conn_State.f t620 t621 t622 t623 t624 t625).bind fun bt669 => (if bt669.1 = 4 then (if x10_18 = true then ((conn_Conn_State.f bt669.2.1 bt669.2.2.1 bt669.2.2.2.1 bt669.2.2.2.2.1 bt669.2.2.2.2.2.1 bt669.2.2.2.2.2.2).bind fun bt676 => (signalmanlaw09_ConnEnds.j6 k5 a2 x10_18 l1 (l1.length : Int) x67_5 (bt676.1 == 1) bt676.2.1 bt676.2.2.1 bt676.2.2.2.1 bt676.2.2.2.2.1 bt676.2.2.2.2.2.1 bt676.2.2.2.2.2.2)) else (signalmanlaw09_ConnEnds.j6 k5 a2 x10_18 l1 (l1.length : Int) x67_5 false bt669.2.1 bt669.2.2.1 bt669.2.2.2.1 bt669.2.2.2.2.1 bt669.2.2.2.2.2.1 bt669.2.2.2.2.2.2)) else (signalmanlaw09_ConnEnds.j6 k5 a2 x10_18 l1 (l1.length : Int) x67_5 true bt669.2.1 bt669.2.2.1 bt669.2.2.2.1 bt669.2.2.2.2.1 bt669.2.2.2.2.2.1 bt669.2.2.2.2.2.2))) else (if x10_18 = true then ((conn_Conn_State.f t620 t621 t622 t623 t624 t625).bind fun bt683 => (signalmanlaw09_ConnEnds.j6 k5 a2 x10_18 l1 (l1.length : Int) x67_5 (bt683.1 == 1) bt683.2.1 bt683.2.2.1 bt683.2.2.2.1 bt683.2.2.2.2.1 bt683.2.2.2.2.2.1 bt683.2.2.2.2.2.2)) else (signalmanlaw09_ConnEnds.j6 k5 a2 x10_18 l1 (l1.length : Int) x67_5 false t620 t621 t622 t623 t624 t625))))) = some r := H
                 have A51 := Aside0.mk A510
                 clear A510
                 have HC52 := Aside0.mk H
                 clear H
                 have p615 : 0 ≤ (x67_5 : Int) := of_decide_eq_true (by first | (with_reducible assumption) | assumption)
                 have q615 : x67_5 < (l1.length : Int) := of_decide_eq_true (by first | (with_reducible assumption) | assumption)
                 obtain ⟨ad615, e615, hx615_0, hx615_1, hx615_2⟩ := at_T102 HR1.out x67_5 p615 q615
                 cases e615
                 replace hx615_0 := (HB.out.cell (World.block_lt_of_cell? w _ hx615_0)).trans hx615_0
                 replace hx615_1 := (HB.out.cell (World.block_lt_of_cell? w _ hx615_1)).trans hx615_1
                 replace hx615_2 := (HB.out.cell (World.block_lt_of_cell? w _ hx615_2)).trans hx615_2
                 replace p615 := eq_true p615
                 replace q615 := eq_true q615
                 go_upto_region 21 with (first | ((with_reducible refine gate_dst (N := 13) rfl ?_); (try (refine gate_guard (by rfl) ?_; dsimp only)); refine box_event ?hg (N := 13) ?hd (cs := #[.int .i64 0, .int .i64 0, .int .u64 0]) (t := 102) ?hr ?_; (case hd => rfl); (case hg => rfl); (case hr => first | (go_simp; done) | (go_simp; rfl)); intro gb616 hg w53 hbox hb; have n0_ := Aside0.mk (IsS137.below (by repeat (first | (with_reducible first | exact HI541.out | apply IsS137.alloc | apply IsS137.drewN | apply IsS137.drew | apply IsS137.set_0 | apply IsS137.set_1 | apply IsS137.set_2 | apply IsS137.set_3 | apply IsS137.set_4 | apply IsS137.set_5) | exact HI541.out)) hb); have n1_ := Aside0.mk (below_step (by repeat (first | (with_reducible first | exact HB.out | apply below_alloc | apply pw_below_drewN | apply below_drew1 | refine below_set ?_ (IsS137.ge HI541.out)) | exact HB.out)) hb); have n2_ := Aside0.mk (hbox); have n3_ := Aside0.mk ((by rw [hg]; exact (below_size (by repeat (first | (with_reducible first | exact HB.out | apply below_alloc | apply pw_below_drewN | apply below_drew1 | refine below_set ?_ (IsS137.ge HI541.out)) | exact HB.out))) : w.heap.size ≤ gb616)); have n4_ := Aside0.mk ((by rw [hg]; exact (below_size (by repeat (first | (with_reducible first | exact HB.out | apply below_alloc | apply pw_below_drewN | apply below_drew1 | refine below_set ?_ (IsS137.ge HI541.out)) | exact HB.out))) : w.heap.size ≤ gb616)); have n5_ := Aside0.mk ((by rw [hg]; exact Nat.ne_of_lt (IsS137.lt (show IsS137 w _ g541 x542000_5 x542001_5 x542002_5 x542003_5 x542004_5 x542005_5 from by repeat (first | (with_reducible first | exact HI541.out | apply IsS137.alloc | apply IsS137.drewN | apply IsS137.drew | apply IsS137.set_0 | apply IsS137.set_1 | apply IsS137.set_2 | apply IsS137.set_3 | apply IsS137.set_4 | apply IsS137.set_5) | exact HI541.out))) : g541 ≠ gb616)); have n6_ := Aside0.mk ((by rw [hg]; exact Nat.ne_of_gt (IsS137.lt (show IsS137 w _ g541 x542000_5 x542001_5 x542002_5 x542003_5 x542004_5 x542005_5 from by repeat (first | (with_reducible first | exact HI541.out | apply IsS137.alloc | apply IsS137.drewN | apply IsS137.drew | apply IsS137.set_0 | apply IsS137.set_1 | apply IsS137.set_2 | apply IsS137.set_3 | apply IsS137.set_4 | apply IsS137.set_5) | exact HI541.out))) : gb616 ≠ g541)); clear HI541; clear HB; have HI541 := n0_; have HB := n1_; have BK616 := n2_; have GW616 := n3_; have GE616 := n4_; have NB541_616 := n5_; have NB616_541 := n6_; clear n0_ n1_ n2_ n3_ n4_ n5_ n6_; clear hb hbox hg; have hnb54 := NB616_541.out; have hnc54 := NB541_616.out; have hcz55_0 : w53.cell? ⟨gb616, 0, none⟩ = some (.int .i64 0) := (blk_cell BK616.out 0).trans rfl; have hcz55_1 : w53.cell? ⟨gb616, 1, none⟩ = some (.int .i64 0) := (blk_cell BK616.out 1).trans rfl; have hcz55_2 : w53.cell? ⟨gb616, 2, none⟩ = some (.int .u64 0) := (blk_cell BK616.out 2).trans rfl; have hfz55_0 := blk_frozen BK616.out 0; have hfz55_1 := blk_frozen BK616.out 1; have hfz55_2 := blk_frozen BK616.out 2) | ((with_reducible refine gate_callee (f := 53) rfl ?_); refine goesL_ (some 73) rfl rfl Try.func53 (by kernel_rfl) rfl #[.pointer (some ⟨g541, 0, none⟩), .agg #[.int .i64 ((rd_T102 l1 x67_5).f0), .int .i64 ((rd_T102 l1 x67_5).f1), .int .u64 ((rd_T102 l1 x67_5).f2)]] rfl (by (try simp only [List.map_toArray, List.map_cons, List.map_nil]); first | done | rfl | (simp only [List.length_drop, List.length_take]; rfl)) ?_; (with_reducible refine (signalmanlaw09_do.calls k5 g541 x542000_5 x542001_5 x542002_5 x542003_5 x542004_5 x542005_5 ((rd_T102 l1 x67_5).f0) ((rd_T102 l1 x67_5).f1) ((rd_T102 l1 x67_5).f2) t617 t618 t619 t620 t621 t622 t623 t624 t625 w _ ?side1 ?side2 (by first | exact A51.out | (have h_ := A51.out; exact h_))).mono ?_); (case side1 => repeat (first | (with_reducible first | exact HI541.out | apply IsS137.alloc | apply IsS137.drewN | apply IsS137.drew | apply IsS137.set_0 | apply IsS137.set_1 | apply IsS137.set_2 | apply IsS137.set_3 | apply IsS137.set_4 | apply IsS137.set_5 | refine IsS137.far ?_ NB541_616.out _) | exact HI541.out)); (case side2 => repeat (first | (with_reducible first | exact HB.out | apply below_alloc | apply pw_below_drewN | apply below_drew1 | refine below_set ?_ (IsS137.ge HI541.out) | refine below_set ?_ GE616.out) | exact HB.out)); rintro e w56 ⟨rfl, hi, hb, hk⟩; refine ⟨_, rfl, ?_⟩; have n0_ := Aside0.mk (KeepBut.blk hk (g' := gb616) (o := .cells #[.int .i64 ((rd_T102 l1 x67_5).f0), .int .i64 ((rd_T102 l1 x67_5).f1), .int .u64 ((rd_T102 l1 x67_5).f2)] 102 (0, 0)) (by (with_reducible repeat (first | refine blk_drewN ?_ _ | refine blk_drew ?_ | refine blk_alloc ?_ _)); refine blk_put (cs := #[.int .i64 ((rd_T102 l1 x67_5).f0), .int .i64 ((rd_T102 l1 x67_5).f1), .int .u64 0]) ?_ 2 _ rfl; (with_reducible repeat (first | refine blk_drewN ?_ _ | refine blk_drew ?_ | refine blk_alloc ?_ _)); refine blk_put (cs := #[.int .i64 ((rd_T102 l1 x67_5).f0), .int .i64 0, .int .u64 0]) ?_ 1 _ rfl; (with_reducible repeat (first | refine blk_drewN ?_ _ | refine blk_drew ?_ | refine blk_alloc ?_ _)); refine blk_put (cs := #[.int .i64 0, .int .i64 0, .int .u64 0]) ?_ 0 _ rfl; (with_reducible repeat (first | refine blk_drewN ?_ _ | refine blk_drew ?_ | refine blk_alloc ?_ _)); exact BK616.out) NB616_541.out (by simp)); have n1_ := Aside0.mk (hb); have n2_ := Aside0.mk (hi); clear BK616; clear HB; clear HI541; have BK616 := n0_; have HB := n1_; have HI541 := n2_; clear n0_ n1_ n2_; (try clear hb); (try clear hb2); (try clear hk); (try clear hi)) | ((with_reducible refine gate_dst (N := 14) rfl ?_); (try (refine gate_guard (by rfl) ?_; dsimp only)); refine box_event ?hg (N := 14) ?hd (cs := #[.bool false, .int .i64 0, .int .u64 0]) (t := 104) ?hr ?_; (case hd => rfl); (case hg => rfl); (case hr => first | (go_simp; done) | (go_simp; rfl)); intro gb626 hg w57 hbox hb; have n0_ := Aside0.mk (IsS137.below (by repeat (first | (with_reducible first | exact HI541.out | apply IsS137.alloc | apply IsS137.drewN | apply IsS137.drew | apply IsS137.set_0 | apply IsS137.set_1 | apply IsS137.set_2 | apply IsS137.set_3 | apply IsS137.set_4 | apply IsS137.set_5 | refine IsS137.far ?_ NB541_616.out _) | exact HI541.out)) hb); have n1_ := Aside0.mk (blk_below (g := gb616) (o := .cells #[.int .i64 ((rd_T102 l1 x67_5).f0), .int .i64 ((rd_T102 l1 x67_5).f1), .int .u64 ((rd_T102 l1 x67_5).f2)] 102 (0, 0)) (by (with_reducible repeat (first | refine blk_drewN ?_ _ | refine blk_drew ?_ | refine blk_alloc ?_ _)); exact BK616.out) hb); have n2_ := Aside0.mk (below_step (by repeat (first | (with_reducible first | exact HB.out | apply below_alloc | apply pw_below_drewN | apply below_drew1 | refine below_set ?_ (IsS137.ge HI541.out) | refine below_set ?_ GE616.out) | exact HB.out)) hb); have n3_ := Aside0.mk (hbox); have n4_ := Aside0.mk ((by rw [hg]; exact (below_size (by repeat (first | (with_reducible first | exact HB.out | apply below_alloc | apply pw_below_drewN | apply below_drew1 | refine below_set ?_ (IsS137.ge HI541.out) | refine below_set ?_ GE616.out) | exact HB.out))) : w.heap.size ≤ gb626)); have n5_ := Aside0.mk ((by rw [hg]; exact (below_size (by repeat (first | (with_reducible first | exact HB.out | apply below_alloc | apply pw_below_drewN | apply below_drew1 | refine below_set ?_ (IsS137.ge HI541.out) | refine below_set ?_ GE616.out) | exact HB.out))) : w.heap.size ≤ gb626)); have n6_ := Aside0.mk ((by rw [hg]; exact Nat.ne_of_lt (blk_lt (g := gb616) (o := .cells #[.int .i64 ((rd_T102 l1 x67_5).f0), .int .i64 ((rd_T102 l1 x67_5).f1), .int .u64 ((rd_T102 l1 x67_5).f2)] 102 (0, 0)) (by (with_reducible repeat (first | refine blk_drewN ?_ _ | refine blk_drew ?_ | refine blk_alloc ?_ _)); exact BK616.out)) : gb616 ≠ gb626)); have n7_ := Aside0.mk ((by rw [hg]; exact Nat.ne_of_gt (blk_lt (g := gb616) (o := .cells #[.int .i64 ((rd_T102 l1 x67_5).f0), .int .i64 ((rd_T102 l1 x67_5).f1), .int .u64 ((rd_T102 l1 x67_5).f2)] 102 (0, 0)) (by (with_reducible repeat (first | refine blk_drewN ?_ _ | refine blk_drew ?_ | refine blk_alloc ?_ _)); exact BK616.out)) : gb626 ≠ gb616)); have n8_ := Aside0.mk ((by rw [hg]; exact Nat.ne_of_lt (IsS137.lt (show IsS137 w _ g541 t620 t621 t622 t623 t624 t625 from by repeat (first | (with_reducible first | exact HI541.out | apply IsS137.alloc | apply IsS137.drewN | apply IsS137.drew | apply IsS137.set_0 | apply IsS137.set_1 | apply IsS137.set_2 | apply IsS137.set_3 | apply IsS137.set_4 | apply IsS137.set_5 | refine IsS137.far ?_ NB541_616.out _) | exact HI541.out))) : g541 ≠ gb626)); have n9_ := Aside0.mk ((by rw [hg]; exact Nat.ne_of_gt (IsS137.lt (show IsS137 w _ g541 t620 t621 t622 t623 t624 t625 from by repeat (first | (with_reducible first | exact HI541.out | apply IsS137.alloc | apply IsS137.drewN | apply IsS137.drew | apply IsS137.set_0 | apply IsS137.set_1 | apply IsS137.set_2 | apply IsS137.set_3 | apply IsS137.set_4 | apply IsS137.set_5 | refine IsS137.far ?_ NB541_616.out _) | exact HI541.out))) : gb626 ≠ g541)); clear HI541; clear BK616; clear HB; have HI541 := n0_; have BK616 := n1_; have HB := n2_; have BK626 := n3_; have GW626 := n4_; have GE626 := n5_; have NB616_626 := n6_; have NB626_616 := n7_; have NB541_626 := n8_; have NB626_541 := n9_; clear n0_ n1_ n2_ n3_ n4_ n5_ n6_ n7_ n8_ n9_; clear hb hbox hg; have hnb58 := NB626_616.out; have hnc58 := NB616_626.out; have hnb59 := NB626_541.out; have hnc59 := NB541_626.out; have hcz60_0 : w57.cell? ⟨gb626, 0, none⟩ = some (.bool false) := (blk_cell BK626.out 0).trans rfl; have hcz60_1 : w57.cell? ⟨gb626, 1, none⟩ = some (.int .i64 0) := (blk_cell BK626.out 1).trans rfl; have hcz60_2 : w57.cell? ⟨gb626, 2, none⟩ = some (.int .u64 0) := (blk_cell BK626.out 2).trans rfl; have hfz60_0 := blk_frozen BK626.out 0; have hfz60_1 := blk_frozen BK626.out 1; have hfz60_2 := blk_frozen BK626.out 2))
                 (try simp only [Act.put, List.setIfInBounds_toArray, List.set_cons_zero, List.set_cons_succ])
                 go_cut [101] (fun v101 wc => ∃ (kq : Nat) (x101_51 : Bool) (x542000_51 : Int) (x542001_51 : Int) (x542002_51 : Int) (x542003_51 : Int) (x542004_51 : Bool) (x542005_51 : Bool), v101 = .bool x101_51 ∧ Aside0 (signalmanlaw09_ConnEnds.j6 kq a2 x10_18 l1 (l1.length : Int) x67_5 x101_51 x542000_51 x542001_51 x542002_51 x542003_51 x542004_51 x542005_51 = some r) ∧ Aside0 (kq ≤ k5) ∧ Aside0 (wc.heap[gb616]? = some (.cells #[.int .i64 ((rd_T102 l1 x67_5).f0), .int .i64 ((rd_T102 l1 x67_5).f1), .int .u64 ((rd_T102 l1 x67_5).f2)] 102 (0, 0))) ∧ Aside0 (wc.heap[gb626]? = some (.cells #[.bool t617, .int .i64 t618, .int .u64 t619] 104 (0, 0))) ∧ Aside0 (IsS137 w wc g541 x542000_51 x542001_51 x542002_51 x542003_51 x542004_51 x542005_51) ∧ Aside0 (Below w.heap.size w wc))
                 case first =>
                  have H := HC52.out
                  clear HC52
                  by_cases c61 : a2 = true
                  ·subst c61
                   have H1 : (if x11_5 = true then ((conn_Conn_State.f t620 t621 t622 t623 t624 t625).bind fun bt627 => (if bt627.1 = 4 then (if x10_18 = true then ((conn_Conn_State.f bt627.2.1 bt627.2.2.1 bt627.2.2.2.1 bt627.2.2.2.2.1 bt627.2.2.2.2.2.1 bt627.2.2.2.2.2.2).bind fun bt634 => (signalmanlaw09_ConnEnds.j6 k5 true x10_18 l1 (l1.length : Int) x67_5 (bt634.1 == 1) bt634.2.1 bt634.2.2.1 bt634.2.2.2.1 bt634.2.2.2.2.1 bt634.2.2.2.2.2.1 bt634.2.2.2.2.2.2)) else (signalmanlaw09_ConnEnds.j6 k5 true x10_18 l1 (l1.length : Int) x67_5 false bt627.2.1 bt627.2.2.1 bt627.2.2.2.1 bt627.2.2.2.2.1 bt627.2.2.2.2.2.1 bt627.2.2.2.2.2.2)) else (signalmanlaw09_ConnEnds.j6 k5 true x10_18 l1 (l1.length : Int) x67_5 true bt627.2.1 bt627.2.2.1 bt627.2.2.2.1 bt627.2.2.2.2.1 bt627.2.2.2.2.2.1 bt627.2.2.2.2.2.2))) else (if x10_18 = true then ((conn_Conn_State.f t620 t621 t622 t623 t624 t625).bind fun bt641 => (signalmanlaw09_ConnEnds.j6 k5 true x10_18 l1 (l1.length : Int) x67_5 (bt641.1 == 1) bt641.2.1 bt641.2.2.1 bt641.2.2.2.1 bt641.2.2.2.2.1 bt641.2.2.2.2.2.1 bt641.2.2.2.2.2.2)) else (signalmanlaw09_ConnEnds.j6 k5 true x10_18 l1 (l1.length : Int) x67_5 false t620 t621 t622 t623 t624 t625))) = some r := by rw [if_pos rfl] at H; exact H
                   clear H
                   have H := H1
                   clear H1
                   by_cases c62 : x11_5 = true
                   ·subst c62
                    have H1 : ((conn_Conn_State.f t620 t621 t622 t623 t624 t625).bind fun bt627 => (if bt627.1 = 4 then (if x10_18 = true then ((conn_Conn_State.f bt627.2.1 bt627.2.2.1 bt627.2.2.2.1 bt627.2.2.2.2.1 bt627.2.2.2.2.2.1 bt627.2.2.2.2.2.2).bind fun bt634 => (signalmanlaw09_ConnEnds.j6 k5 true x10_18 l1 (l1.length : Int) x67_5 (bt634.1 == 1) bt634.2.1 bt634.2.2.1 bt634.2.2.2.1 bt634.2.2.2.2.1 bt634.2.2.2.2.2.1 bt634.2.2.2.2.2.2)) else (signalmanlaw09_ConnEnds.j6 k5 true x10_18 l1 (l1.length : Int) x67_5 false bt627.2.1 bt627.2.2.1 bt627.2.2.2.1 bt627.2.2.2.2.1 bt627.2.2.2.2.2.1 bt627.2.2.2.2.2.2)) else (signalmanlaw09_ConnEnds.j6 k5 true x10_18 l1 (l1.length : Int) x67_5 true bt627.2.1 bt627.2.2.1 bt627.2.2.2.1 bt627.2.2.2.2.1 bt627.2.2.2.2.2.1 bt627.2.2.2.2.2.2))) = some r := by rw [if_pos rfl] at H; exact H
                    clear H
                    have H := H1
                    clear H1
                    replace H := Option.bind_eq_some_iff.mp H
                    obtain ⟨⟨t627, t628, t629, t630, t631, t632, t633⟩, A630, H⟩ := H
                    replace H : (if t627 = 4 then (if x10_18 = true then ((conn_Conn_State.f t628 t629 t630 t631 t632 t633).bind fun bt634 => (signalmanlaw09_ConnEnds.j6 k5 true x10_18 l1 (l1.length : Int) x67_5 (bt634.1 == 1) bt634.2.1 bt634.2.2.1 bt634.2.2.2.1 bt634.2.2.2.2.1 bt634.2.2.2.2.2.1 bt634.2.2.2.2.2.2)) else (signalmanlaw09_ConnEnds.j6 k5 true x10_18 l1 (l1.length : Int) x67_5 false t628 t629 t630 t631 t632 t633)) else (signalmanlaw09_ConnEnds.j6 k5 true x10_18 l1 (l1.length : Int) x67_5 true t628 t629 t630 t631 t632 t633)) = some r := H
                    have A63 := Aside0.mk A630
                    clear A630
                    by_cases c64 : t627 = 4
                    ·rw [if_pos c64] at H
                     have c64b0 : (t627 == 4) = true := beq_iff_eq.mpr c64
                     have c64b1 : (t627 != 4) = false := bne_eq_false_iff_eq.mpr c64
                     clear c64
                     (first | rw [c64b0] | (simp only [i64_w, i32_w]; rw [c64b0]) | skip)
                     by_cases c65 : x10_18 = true
                     ·subst c65
                      have H1 : ((conn_Conn_State.f t628 t629 t630 t631 t632 t633).bind fun bt634 => (signalmanlaw09_ConnEnds.j6 k5 true true l1 (l1.length : Int) x67_5 (bt634.1 == 1) bt634.2.1 bt634.2.2.1 bt634.2.2.2.1 bt634.2.2.2.2.1 bt634.2.2.2.2.2.1 bt634.2.2.2.2.2.2)) = some r := by rw [if_pos rfl] at H; exact H
                      clear H
                      have H := H1
                      clear H1
                      replace H := Option.bind_eq_some_iff.mp H
                      obtain ⟨⟨t634, t635, t636, t637, t638, t639, t640⟩, A660, H⟩ := H
                      replace H : (signalmanlaw09_ConnEnds.j6 k5 true true l1 (l1.length : Int) x67_5 (t634 == 1) t635 t636 t637 t638 t639 t640) = some r := H
                      have A66 := Aside0.mk A660
                      clear A660
                      have H' := Aside0.mk H
                      clear H
                      go_wp2_with (first | (go_at_call 55; (with_reducible refine (conn_Conn_State.calls g541 t620 t621 t622 t623 t624 t625 t627 t628 t629 t630 t631 t632 t633 w _ ?side1 ?side2 (by first | exact A63.out | (have h_ := A63.out; exact h_))).mono ?_); (case side1 => repeat (first | (with_reducible first | exact HI541.out | apply IsS137.alloc | apply IsS137.drewN | apply IsS137.drew | apply IsS137.set_0 | apply IsS137.set_1 | apply IsS137.set_2 | apply IsS137.set_3 | apply IsS137.set_4 | apply IsS137.set_5 | refine IsS137.far ?_ NB541_616.out _ | refine IsS137.far ?_ NB541_626.out _) | exact HI541.out)); (case side2 => repeat (first | (with_reducible first | exact HB.out | apply below_alloc | apply pw_below_drewN | apply below_drew1 | refine below_set ?_ (IsS137.ge HI541.out) | refine below_set ?_ GE616.out | refine below_set ?_ GE626.out) | exact HB.out)); rintro e w67 ⟨rfl, hi, hb, hk⟩; have n0_ := Aside0.mk (KeepBut.blk hk (g' := gb616) (o := .cells #[.int .i64 ((rd_T102 l1 x67_5).f0), .int .i64 ((rd_T102 l1 x67_5).f1), .int .u64 ((rd_T102 l1 x67_5).f2)] 102 (0, 0)) (by (with_reducible repeat (first | refine blk_drewN ?_ _ | refine blk_drew ?_ | refine blk_alloc ?_ _)); refine blk_far ?_ NB616_626.out _; (with_reducible repeat (first | refine blk_drewN ?_ _ | refine blk_drew ?_ | refine blk_alloc ?_ _)); refine blk_far ?_ NB616_626.out _; (with_reducible repeat (first | refine blk_drewN ?_ _ | refine blk_drew ?_ | refine blk_alloc ?_ _)); refine blk_far ?_ NB616_626.out _; (with_reducible repeat (first | refine blk_drewN ?_ _ | refine blk_drew ?_ | refine blk_alloc ?_ _)); exact BK616.out) NB616_541.out (by simp)); have n1_ := Aside0.mk (KeepBut.blk hk (g' := gb626) (o := .cells #[.bool t617, .int .i64 t618, .int .u64 t619] 104 (0, 0)) (by (with_reducible repeat (first | refine blk_drewN ?_ _ | refine blk_drew ?_ | refine blk_alloc ?_ _)); refine blk_put (cs := #[.bool t617, .int .i64 t618, .int .u64 0]) ?_ 2 _ rfl; (with_reducible repeat (first | refine blk_drewN ?_ _ | refine blk_drew ?_ | refine blk_alloc ?_ _)); refine blk_put (cs := #[.bool t617, .int .i64 0, .int .u64 0]) ?_ 1 _ rfl; (with_reducible repeat (first | refine blk_drewN ?_ _ | refine blk_drew ?_ | refine blk_alloc ?_ _)); refine blk_put (cs := #[.bool false, .int .i64 0, .int .u64 0]) ?_ 0 _ rfl; (with_reducible repeat (first | refine blk_drewN ?_ _ | refine blk_drew ?_ | refine blk_alloc ?_ _)); exact BK626.out) NB626_541.out (by simp)); have n2_ := Aside0.mk (hb); have n3_ := Aside0.mk (hi); clear BK616; clear BK626; clear HB; clear HI541; have BK616 := n0_; have BK626 := n1_; have HB := n2_; have HI541 := n3_; clear n0_ n1_ n2_ n3_; (try clear hb); (try clear hb2); (try clear hk); (try clear hi)) | (go_at_call 55; (with_reducible refine (conn_Conn_State.calls g541 t628 t629 t630 t631 t632 t633 t634 t635 t636 t637 t638 t639 t640 w _ ?side1 ?side2 (by first | exact A66.out | (have h_ := A66.out; exact h_))).mono ?_); (case side1 => repeat (first | (with_reducible first | exact HI541.out | apply IsS137.alloc | apply IsS137.drewN | apply IsS137.drew | apply IsS137.set_0 | apply IsS137.set_1 | apply IsS137.set_2 | apply IsS137.set_3 | apply IsS137.set_4 | apply IsS137.set_5 | refine IsS137.far ?_ NB541_616.out _ | refine IsS137.far ?_ NB541_626.out _) | exact HI541.out)); (case side2 => repeat (first | (with_reducible first | exact HB.out | apply below_alloc | apply pw_below_drewN | apply below_drew1 | refine below_set ?_ (IsS137.ge HI541.out) | refine below_set ?_ GE616.out | refine below_set ?_ GE626.out) | exact HB.out)); rintro e w68 ⟨rfl, hi, hb, hk⟩; have n0_ := Aside0.mk (KeepBut.blk hk (g' := gb616) (o := .cells #[.int .i64 ((rd_T102 l1 x67_5).f0), .int .i64 ((rd_T102 l1 x67_5).f1), .int .u64 ((rd_T102 l1 x67_5).f2)] 102 (0, 0)) (by (with_reducible repeat (first | refine blk_drewN ?_ _ | refine blk_drew ?_ | refine blk_alloc ?_ _)); exact BK616.out) NB616_541.out (by simp)); have n1_ := Aside0.mk (KeepBut.blk hk (g' := gb626) (o := .cells #[.bool t617, .int .i64 t618, .int .u64 t619] 104 (0, 0)) (by (with_reducible repeat (first | refine blk_drewN ?_ _ | refine blk_drew ?_ | refine blk_alloc ?_ _)); exact BK626.out) NB626_541.out (by simp)); have n2_ := Aside0.mk (hb); have n3_ := Aside0.mk (hi); clear BK616; clear BK626; clear HB; clear HI541; have BK616 := n0_; have BK626 := n1_; have HB := n2_; have HI541 := n3_; clear n0_ n1_ n2_ n3_; (try clear hb); (try clear hb2); (try clear hk); (try clear hi)))
                      go_meet
                      case rel => exact ⟨_, ((t634 == 1)), (t635), (t636), (t637), (t638), (t639), (t640), (by first | rfl | (simp; done) | (simp [*]; done)), H', ⟨by have := HJ4.out; have := HK2.out; have := HJ18.out; have := HJ22.out; have := HK5.out; first | omega | exact Nat.le_refl _⟩, ⟨by (with_reducible repeat (first | refine blk_drewN ?_ _ | refine blk_drew ?_ | refine blk_alloc ?_ _)); exact BK616.out⟩, ⟨by (with_reducible repeat (first | refine blk_drewN ?_ _ | refine blk_drew ?_ | refine blk_alloc ?_ _)); exact BK626.out⟩, ⟨by repeat (first | (with_reducible first | exact HI541.out | apply IsS137.alloc | apply IsS137.drewN | apply IsS137.drew | apply IsS137.set_0 | apply IsS137.set_1 | apply IsS137.set_2 | apply IsS137.set_3 | apply IsS137.set_4 | apply IsS137.set_5 | refine IsS137.far ?_ NB541_616.out _ | refine IsS137.far ?_ NB541_626.out _) | exact HI541.out)⟩, ⟨by repeat (first | (with_reducible first | exact HB.out | apply below_alloc | apply pw_below_drewN | apply below_drew1 | refine below_set ?_ (IsS137.ge HI541.out) | refine below_set ?_ GE616.out | refine below_set ?_ GE626.out) | exact HB.out)⟩⟩
                     ·replace c65 := Bool.eq_false_iff.mpr c65
                      subst c65
                      have H1 : (signalmanlaw09_ConnEnds.j6 k5 true false l1 (l1.length : Int) x67_5 false t628 t629 t630 t631 t632 t633) = some r := by rw [if_neg (show ¬ (false = true) by decide)] at H; exact H
                      clear H
                      have H := H1
                      clear H1
                      have H' := Aside0.mk H
                      clear H
                      go_wp2_with (first | (go_at_call 55; (with_reducible refine (conn_Conn_State.calls g541 t620 t621 t622 t623 t624 t625 t627 t628 t629 t630 t631 t632 t633 w _ ?side1 ?side2 (by first | exact A63.out | (have h_ := A63.out; exact h_))).mono ?_); (case side1 => repeat (first | (with_reducible first | exact HI541.out | apply IsS137.alloc | apply IsS137.drewN | apply IsS137.drew | apply IsS137.set_0 | apply IsS137.set_1 | apply IsS137.set_2 | apply IsS137.set_3 | apply IsS137.set_4 | apply IsS137.set_5 | refine IsS137.far ?_ NB541_616.out _ | refine IsS137.far ?_ NB541_626.out _) | exact HI541.out)); (case side2 => repeat (first | (with_reducible first | exact HB.out | apply below_alloc | apply pw_below_drewN | apply below_drew1 | refine below_set ?_ (IsS137.ge HI541.out) | refine below_set ?_ GE616.out | refine below_set ?_ GE626.out) | exact HB.out)); rintro e w69 ⟨rfl, hi, hb, hk⟩; have n0_ := Aside0.mk (KeepBut.blk hk (g' := gb616) (o := .cells #[.int .i64 ((rd_T102 l1 x67_5).f0), .int .i64 ((rd_T102 l1 x67_5).f1), .int .u64 ((rd_T102 l1 x67_5).f2)] 102 (0, 0)) (by (with_reducible repeat (first | refine blk_drewN ?_ _ | refine blk_drew ?_ | refine blk_alloc ?_ _)); refine blk_far ?_ NB616_626.out _; (with_reducible repeat (first | refine blk_drewN ?_ _ | refine blk_drew ?_ | refine blk_alloc ?_ _)); refine blk_far ?_ NB616_626.out _; (with_reducible repeat (first | refine blk_drewN ?_ _ | refine blk_drew ?_ | refine blk_alloc ?_ _)); refine blk_far ?_ NB616_626.out _; (with_reducible repeat (first | refine blk_drewN ?_ _ | refine blk_drew ?_ | refine blk_alloc ?_ _)); exact BK616.out) NB616_541.out (by simp)); have n1_ := Aside0.mk (KeepBut.blk hk (g' := gb626) (o := .cells #[.bool t617, .int .i64 t618, .int .u64 t619] 104 (0, 0)) (by (with_reducible repeat (first | refine blk_drewN ?_ _ | refine blk_drew ?_ | refine blk_alloc ?_ _)); refine blk_put (cs := #[.bool t617, .int .i64 t618, .int .u64 0]) ?_ 2 _ rfl; (with_reducible repeat (first | refine blk_drewN ?_ _ | refine blk_drew ?_ | refine blk_alloc ?_ _)); refine blk_put (cs := #[.bool t617, .int .i64 0, .int .u64 0]) ?_ 1 _ rfl; (with_reducible repeat (first | refine blk_drewN ?_ _ | refine blk_drew ?_ | refine blk_alloc ?_ _)); refine blk_put (cs := #[.bool false, .int .i64 0, .int .u64 0]) ?_ 0 _ rfl; (with_reducible repeat (first | refine blk_drewN ?_ _ | refine blk_drew ?_ | refine blk_alloc ?_ _)); exact BK626.out) NB626_541.out (by simp)); have n2_ := Aside0.mk (hb); have n3_ := Aside0.mk (hi); clear BK616; clear BK626; clear HB; clear HI541; have BK616 := n0_; have BK626 := n1_; have HB := n2_; have HI541 := n3_; clear n0_ n1_ n2_ n3_; (try clear hb); (try clear hb2); (try clear hk); (try clear hi)))
                      go_meet
                      case rel => exact ⟨_, (false), (t628), (t629), (t630), (t631), (t632), (t633), (by first | rfl | (simp; done) | (simp [*]; done)), H', ⟨by have := HJ4.out; have := HK2.out; have := HJ18.out; have := HJ22.out; have := HK5.out; first | omega | exact Nat.le_refl _⟩, ⟨by (with_reducible repeat (first | refine blk_drewN ?_ _ | refine blk_drew ?_ | refine blk_alloc ?_ _)); exact BK616.out⟩, ⟨by (with_reducible repeat (first | refine blk_drewN ?_ _ | refine blk_drew ?_ | refine blk_alloc ?_ _)); exact BK626.out⟩, ⟨by repeat (first | (with_reducible first | exact HI541.out | apply IsS137.alloc | apply IsS137.drewN | apply IsS137.drew | apply IsS137.set_0 | apply IsS137.set_1 | apply IsS137.set_2 | apply IsS137.set_3 | apply IsS137.set_4 | apply IsS137.set_5 | refine IsS137.far ?_ NB541_616.out _ | refine IsS137.far ?_ NB541_626.out _) | exact HI541.out)⟩, ⟨by repeat (first | (with_reducible first | exact HB.out | apply below_alloc | apply pw_below_drewN | apply below_drew1 | refine below_set ?_ (IsS137.ge HI541.out) | refine below_set ?_ GE616.out | refine below_set ?_ GE626.out) | exact HB.out)⟩⟩
                    ·rw [if_neg c64] at H
                     have c64b0 : (t627 == 4) = false := beq_eq_false_iff_ne.mpr c64
                     have c64b1 : (t627 != 4) = true := bne_iff_ne.mpr c64
                     (first | rw [c64b0] | (simp only [i64_w, i32_w]; rw [c64b0]) | skip)
                     have H' := Aside0.mk H
                     clear H
                     go_wp2_with (first | (go_at_call 55; (with_reducible refine (conn_Conn_State.calls g541 t620 t621 t622 t623 t624 t625 t627 t628 t629 t630 t631 t632 t633 w _ ?side1 ?side2 (by first | exact A63.out | (have h_ := A63.out; exact h_))).mono ?_); (case side1 => repeat (first | (with_reducible first | exact HI541.out | apply IsS137.alloc | apply IsS137.drewN | apply IsS137.drew | apply IsS137.set_0 | apply IsS137.set_1 | apply IsS137.set_2 | apply IsS137.set_3 | apply IsS137.set_4 | apply IsS137.set_5 | refine IsS137.far ?_ NB541_616.out _ | refine IsS137.far ?_ NB541_626.out _) | exact HI541.out)); (case side2 => repeat (first | (with_reducible first | exact HB.out | apply below_alloc | apply pw_below_drewN | apply below_drew1 | refine below_set ?_ (IsS137.ge HI541.out) | refine below_set ?_ GE616.out | refine below_set ?_ GE626.out) | exact HB.out)); rintro e w70 ⟨rfl, hi, hb, hk⟩; have n0_ := Aside0.mk (KeepBut.blk hk (g' := gb616) (o := .cells #[.int .i64 ((rd_T102 l1 x67_5).f0), .int .i64 ((rd_T102 l1 x67_5).f1), .int .u64 ((rd_T102 l1 x67_5).f2)] 102 (0, 0)) (by (with_reducible repeat (first | refine blk_drewN ?_ _ | refine blk_drew ?_ | refine blk_alloc ?_ _)); refine blk_far ?_ NB616_626.out _; (with_reducible repeat (first | refine blk_drewN ?_ _ | refine blk_drew ?_ | refine blk_alloc ?_ _)); refine blk_far ?_ NB616_626.out _; (with_reducible repeat (first | refine blk_drewN ?_ _ | refine blk_drew ?_ | refine blk_alloc ?_ _)); refine blk_far ?_ NB616_626.out _; (with_reducible repeat (first | refine blk_drewN ?_ _ | refine blk_drew ?_ | refine blk_alloc ?_ _)); exact BK616.out) NB616_541.out (by simp)); have n1_ := Aside0.mk (KeepBut.blk hk (g' := gb626) (o := .cells #[.bool t617, .int .i64 t618, .int .u64 t619] 104 (0, 0)) (by (with_reducible repeat (first | refine blk_drewN ?_ _ | refine blk_drew ?_ | refine blk_alloc ?_ _)); refine blk_put (cs := #[.bool t617, .int .i64 t618, .int .u64 0]) ?_ 2 _ rfl; (with_reducible repeat (first | refine blk_drewN ?_ _ | refine blk_drew ?_ | refine blk_alloc ?_ _)); refine blk_put (cs := #[.bool t617, .int .i64 0, .int .u64 0]) ?_ 1 _ rfl; (with_reducible repeat (first | refine blk_drewN ?_ _ | refine blk_drew ?_ | refine blk_alloc ?_ _)); refine blk_put (cs := #[.bool false, .int .i64 0, .int .u64 0]) ?_ 0 _ rfl; (with_reducible repeat (first | refine blk_drewN ?_ _ | refine blk_drew ?_ | refine blk_alloc ?_ _)); exact BK626.out) NB626_541.out (by simp)); have n2_ := Aside0.mk (hb); have n3_ := Aside0.mk (hi); clear BK616; clear BK626; clear HB; clear HI541; have BK616 := n0_; have BK626 := n1_; have HB := n2_; have HI541 := n3_; clear n0_ n1_ n2_ n3_; (try clear hb); (try clear hb2); (try clear hk); (try clear hi)))
                     go_meet
                     case rel => exact ⟨_, (true), (t628), (t629), (t630), (t631), (t632), (t633), (by first | rfl | (simp; done) | (simp [*]; done)), H', ⟨by have := HJ4.out; have := HK2.out; have := HJ18.out; have := HJ22.out; have := HK5.out; first | omega | exact Nat.le_refl _⟩, ⟨by (with_reducible repeat (first | refine blk_drewN ?_ _ | refine blk_drew ?_ | refine blk_alloc ?_ _)); exact BK616.out⟩, ⟨by (with_reducible repeat (first | refine blk_drewN ?_ _ | refine blk_drew ?_ | refine blk_alloc ?_ _)); exact BK626.out⟩, ⟨by repeat (first | (with_reducible first | exact HI541.out | apply IsS137.alloc | apply IsS137.drewN | apply IsS137.drew | apply IsS137.set_0 | apply IsS137.set_1 | apply IsS137.set_2 | apply IsS137.set_3 | apply IsS137.set_4 | apply IsS137.set_5 | refine IsS137.far ?_ NB541_616.out _ | refine IsS137.far ?_ NB541_626.out _) | exact HI541.out)⟩, ⟨by repeat (first | (with_reducible first | exact HB.out | apply below_alloc | apply pw_below_drewN | apply below_drew1 | refine below_set ?_ (IsS137.ge HI541.out) | refine below_set ?_ GE616.out | refine below_set ?_ GE626.out) | exact HB.out)⟩⟩
                   ·replace c62 := Bool.eq_false_iff.mpr c62
                    subst c62
                    have H1 : (if x10_18 = true then ((conn_Conn_State.f t620 t621 t622 t623 t624 t625).bind fun bt641 => (signalmanlaw09_ConnEnds.j6 k5 true x10_18 l1 (l1.length : Int) x67_5 (bt641.1 == 1) bt641.2.1 bt641.2.2.1 bt641.2.2.2.1 bt641.2.2.2.2.1 bt641.2.2.2.2.2.1 bt641.2.2.2.2.2.2)) else (signalmanlaw09_ConnEnds.j6 k5 true x10_18 l1 (l1.length : Int) x67_5 false t620 t621 t622 t623 t624 t625)) = some r := by rw [if_neg (show ¬ (false = true) by decide)] at H; exact H
                    clear H
                    have H := H1
                    clear H1
                    by_cases c71 : x10_18 = true
                    ·subst c71
                     have H1 : ((conn_Conn_State.f t620 t621 t622 t623 t624 t625).bind fun bt641 => (signalmanlaw09_ConnEnds.j6 k5 true true l1 (l1.length : Int) x67_5 (bt641.1 == 1) bt641.2.1 bt641.2.2.1 bt641.2.2.2.1 bt641.2.2.2.2.1 bt641.2.2.2.2.2.1 bt641.2.2.2.2.2.2)) = some r := by rw [if_pos rfl] at H; exact H
                     clear H
                     have H := H1
                     clear H1
                     replace H := Option.bind_eq_some_iff.mp H
                     obtain ⟨⟨t641, t642, t643, t644, t645, t646, t647⟩, A720, H⟩ := H
                     replace H : (signalmanlaw09_ConnEnds.j6 k5 true true l1 (l1.length : Int) x67_5 (t641 == 1) t642 t643 t644 t645 t646 t647) = some r := H
                     have A72 := Aside0.mk A720
                     clear A720
                     have H' := Aside0.mk H
                     clear H
                     go_wp2_with (first | (go_at_call 55; (with_reducible refine (conn_Conn_State.calls g541 t620 t621 t622 t623 t624 t625 t641 t642 t643 t644 t645 t646 t647 w _ ?side1 ?side2 (by first | exact A72.out | (have h_ := A72.out; exact h_))).mono ?_); (case side1 => repeat (first | (with_reducible first | exact HI541.out | apply IsS137.alloc | apply IsS137.drewN | apply IsS137.drew | apply IsS137.set_0 | apply IsS137.set_1 | apply IsS137.set_2 | apply IsS137.set_3 | apply IsS137.set_4 | apply IsS137.set_5 | refine IsS137.far ?_ NB541_616.out _ | refine IsS137.far ?_ NB541_626.out _) | exact HI541.out)); (case side2 => repeat (first | (with_reducible first | exact HB.out | apply below_alloc | apply pw_below_drewN | apply below_drew1 | refine below_set ?_ (IsS137.ge HI541.out) | refine below_set ?_ GE616.out | refine below_set ?_ GE626.out) | exact HB.out)); rintro e w73 ⟨rfl, hi, hb, hk⟩; have n0_ := Aside0.mk (KeepBut.blk hk (g' := gb616) (o := .cells #[.int .i64 ((rd_T102 l1 x67_5).f0), .int .i64 ((rd_T102 l1 x67_5).f1), .int .u64 ((rd_T102 l1 x67_5).f2)] 102 (0, 0)) (by (with_reducible repeat (first | refine blk_drewN ?_ _ | refine blk_drew ?_ | refine blk_alloc ?_ _)); refine blk_far ?_ NB616_626.out _; (with_reducible repeat (first | refine blk_drewN ?_ _ | refine blk_drew ?_ | refine blk_alloc ?_ _)); refine blk_far ?_ NB616_626.out _; (with_reducible repeat (first | refine blk_drewN ?_ _ | refine blk_drew ?_ | refine blk_alloc ?_ _)); refine blk_far ?_ NB616_626.out _; (with_reducible repeat (first | refine blk_drewN ?_ _ | refine blk_drew ?_ | refine blk_alloc ?_ _)); exact BK616.out) NB616_541.out (by simp)); have n1_ := Aside0.mk (KeepBut.blk hk (g' := gb626) (o := .cells #[.bool t617, .int .i64 t618, .int .u64 t619] 104 (0, 0)) (by (with_reducible repeat (first | refine blk_drewN ?_ _ | refine blk_drew ?_ | refine blk_alloc ?_ _)); refine blk_put (cs := #[.bool t617, .int .i64 t618, .int .u64 0]) ?_ 2 _ rfl; (with_reducible repeat (first | refine blk_drewN ?_ _ | refine blk_drew ?_ | refine blk_alloc ?_ _)); refine blk_put (cs := #[.bool t617, .int .i64 0, .int .u64 0]) ?_ 1 _ rfl; (with_reducible repeat (first | refine blk_drewN ?_ _ | refine blk_drew ?_ | refine blk_alloc ?_ _)); refine blk_put (cs := #[.bool false, .int .i64 0, .int .u64 0]) ?_ 0 _ rfl; (with_reducible repeat (first | refine blk_drewN ?_ _ | refine blk_drew ?_ | refine blk_alloc ?_ _)); exact BK626.out) NB626_541.out (by simp)); have n2_ := Aside0.mk (hb); have n3_ := Aside0.mk (hi); clear BK616; clear BK626; clear HB; clear HI541; have BK616 := n0_; have BK626 := n1_; have HB := n2_; have HI541 := n3_; clear n0_ n1_ n2_ n3_; (try clear hb); (try clear hb2); (try clear hk); (try clear hi)))
                     go_meet
                     case rel => exact ⟨_, ((t641 == 1)), (t642), (t643), (t644), (t645), (t646), (t647), (by first | rfl | (simp; done) | (simp [*]; done)), H', ⟨by have := HJ4.out; have := HK2.out; have := HJ18.out; have := HJ22.out; have := HK5.out; first | omega | exact Nat.le_refl _⟩, ⟨by (with_reducible repeat (first | refine blk_drewN ?_ _ | refine blk_drew ?_ | refine blk_alloc ?_ _)); exact BK616.out⟩, ⟨by (with_reducible repeat (first | refine blk_drewN ?_ _ | refine blk_drew ?_ | refine blk_alloc ?_ _)); exact BK626.out⟩, ⟨by repeat (first | (with_reducible first | exact HI541.out | apply IsS137.alloc | apply IsS137.drewN | apply IsS137.drew | apply IsS137.set_0 | apply IsS137.set_1 | apply IsS137.set_2 | apply IsS137.set_3 | apply IsS137.set_4 | apply IsS137.set_5 | refine IsS137.far ?_ NB541_616.out _ | refine IsS137.far ?_ NB541_626.out _) | exact HI541.out)⟩, ⟨by repeat (first | (with_reducible first | exact HB.out | apply below_alloc | apply pw_below_drewN | apply below_drew1 | refine below_set ?_ (IsS137.ge HI541.out) | refine below_set ?_ GE616.out | refine below_set ?_ GE626.out) | exact HB.out)⟩⟩
                    ·replace c71 := Bool.eq_false_iff.mpr c71
                     subst c71
                     have H1 : (signalmanlaw09_ConnEnds.j6 k5 true false l1 (l1.length : Int) x67_5 false t620 t621 t622 t623 t624 t625) = some r := by rw [if_neg (show ¬ (false = true) by decide)] at H; exact H
                     clear H
                     have H := H1
                     clear H1
                     have H' := Aside0.mk H
                     clear H
                     go_wp2
                     go_meet
                     case rel => exact ⟨_, (false), (t620), (t621), (t622), (t623), (t624), (t625), (by first | rfl | (simp; done) | (simp [*]; done)), H', ⟨by have := HJ4.out; have := HK2.out; have := HJ18.out; have := HJ22.out; have := HK5.out; first | omega | exact Nat.le_refl _⟩, ⟨by (with_reducible repeat (first | refine blk_drewN ?_ _ | refine blk_drew ?_ | refine blk_alloc ?_ _)); refine blk_far ?_ NB616_626.out _; (with_reducible repeat (first | refine blk_drewN ?_ _ | refine blk_drew ?_ | refine blk_alloc ?_ _)); refine blk_far ?_ NB616_626.out _; (with_reducible repeat (first | refine blk_drewN ?_ _ | refine blk_drew ?_ | refine blk_alloc ?_ _)); refine blk_far ?_ NB616_626.out _; (with_reducible repeat (first | refine blk_drewN ?_ _ | refine blk_drew ?_ | refine blk_alloc ?_ _)); exact BK616.out⟩, ⟨by (with_reducible repeat (first | refine blk_drewN ?_ _ | refine blk_drew ?_ | refine blk_alloc ?_ _)); refine blk_put (cs := #[.bool t617, .int .i64 t618, .int .u64 0]) ?_ 2 _ rfl; (with_reducible repeat (first | refine blk_drewN ?_ _ | refine blk_drew ?_ | refine blk_alloc ?_ _)); refine blk_put (cs := #[.bool t617, .int .i64 0, .int .u64 0]) ?_ 1 _ rfl; (with_reducible repeat (first | refine blk_drewN ?_ _ | refine blk_drew ?_ | refine blk_alloc ?_ _)); refine blk_put (cs := #[.bool false, .int .i64 0, .int .u64 0]) ?_ 0 _ rfl; (with_reducible repeat (first | refine blk_drewN ?_ _ | refine blk_drew ?_ | refine blk_alloc ?_ _)); exact BK626.out⟩, ⟨by repeat (first | (with_reducible first | exact HI541.out | apply IsS137.alloc | apply IsS137.drewN | apply IsS137.drew | apply IsS137.set_0 | apply IsS137.set_1 | apply IsS137.set_2 | apply IsS137.set_3 | apply IsS137.set_4 | apply IsS137.set_5 | refine IsS137.far ?_ NB541_616.out _ | refine IsS137.far ?_ NB541_626.out _) | exact HI541.out)⟩, ⟨by repeat (first | (with_reducible first | exact HB.out | apply below_alloc | apply pw_below_drewN | apply below_drew1 | refine below_set ?_ (IsS137.ge HI541.out) | refine below_set ?_ GE616.out | refine below_set ?_ GE626.out) | exact HB.out)⟩⟩
                  ·replace c61 := Bool.eq_false_iff.mpr c61
                   subst c61
                   have H1 : (if ((rd_T102 l1 x67_5).f0) = 1 then (if t618 = 0 then (signalmanlaw09_ConnEnds.j6 k5 false x10_18 l1 (l1.length : Int) x67_5 true t620 t621 t622 t623 t624 t625) else (if x11_5 = true then ((conn_Conn_State.f t620 t621 t622 t623 t624 t625).bind fun bt648 => (if bt648.1 = 4 then (if x10_18 = true then ((conn_Conn_State.f bt648.2.1 bt648.2.2.1 bt648.2.2.2.1 bt648.2.2.2.2.1 bt648.2.2.2.2.2.1 bt648.2.2.2.2.2.2).bind fun bt655 => (signalmanlaw09_ConnEnds.j6 k5 false x10_18 l1 (l1.length : Int) x67_5 (bt655.1 == 1) bt655.2.1 bt655.2.2.1 bt655.2.2.2.1 bt655.2.2.2.2.1 bt655.2.2.2.2.2.1 bt655.2.2.2.2.2.2)) else (signalmanlaw09_ConnEnds.j6 k5 false x10_18 l1 (l1.length : Int) x67_5 false bt648.2.1 bt648.2.2.1 bt648.2.2.2.1 bt648.2.2.2.2.1 bt648.2.2.2.2.2.1 bt648.2.2.2.2.2.2)) else (signalmanlaw09_ConnEnds.j6 k5 false x10_18 l1 (l1.length : Int) x67_5 true bt648.2.1 bt648.2.2.1 bt648.2.2.2.1 bt648.2.2.2.2.1 bt648.2.2.2.2.2.1 bt648.2.2.2.2.2.2))) else (if x10_18 = true then ((conn_Conn_State.f t620 t621 t622 t623 t624 t625).bind fun bt662 => (signalmanlaw09_ConnEnds.j6 k5 false x10_18 l1 (l1.length : Int) x67_5 (bt662.1 == 1) bt662.2.1 bt662.2.2.1 bt662.2.2.2.1 bt662.2.2.2.2.1 bt662.2.2.2.2.2.1 bt662.2.2.2.2.2.2)) else (signalmanlaw09_ConnEnds.j6 k5 false x10_18 l1 (l1.length : Int) x67_5 false t620 t621 t622 t623 t624 t625)))) else (if x11_5 = true then ((conn_Conn_State.f t620 t621 t622 t623 t624 t625).bind fun bt669 => (if bt669.1 = 4 then (if x10_18 = true then ((conn_Conn_State.f bt669.2.1 bt669.2.2.1 bt669.2.2.2.1 bt669.2.2.2.2.1 bt669.2.2.2.2.2.1 bt669.2.2.2.2.2.2).bind fun bt676 => (signalmanlaw09_ConnEnds.j6 k5 false x10_18 l1 (l1.length : Int) x67_5 (bt676.1 == 1) bt676.2.1 bt676.2.2.1 bt676.2.2.2.1 bt676.2.2.2.2.1 bt676.2.2.2.2.2.1 bt676.2.2.2.2.2.2)) else (signalmanlaw09_ConnEnds.j6 k5 false x10_18 l1 (l1.length : Int) x67_5 false bt669.2.1 bt669.2.2.1 bt669.2.2.2.1 bt669.2.2.2.2.1 bt669.2.2.2.2.2.1 bt669.2.2.2.2.2.2)) else (signalmanlaw09_ConnEnds.j6 k5 false x10_18 l1 (l1.length : Int) x67_5 true bt669.2.1 bt669.2.2.1 bt669.2.2.2.1 bt669.2.2.2.2.1 bt669.2.2.2.2.2.1 bt669.2.2.2.2.2.2))) else (if x10_18 = true then ((conn_Conn_State.f t620 t621 t622 t623 t624 t625).bind fun bt683 => (signalmanlaw09_ConnEnds.j6 k5 false x10_18 l1 (l1.length : Int) x67_5 (bt683.1 == 1) bt683.2.1 bt683.2.2.1 bt683.2.2.2.1 bt683.2.2.2.2.1 bt683.2.2.2.2.2.1 bt683.2.2.2.2.2.2)) else (signalmanlaw09_ConnEnds.j6 k5 false x10_18 l1 (l1.length : Int) x67_5 false t620 t621 t622 t623 t624 t625)))) = some r := by rw [if_neg (show ¬ (false = true) by decide)] at H; exact H
                   clear H
                   have H := H1
                   clear H1
                   by_cases c74 : ((rd_T102 l1 x67_5).f0) = 1
                   ·rw [if_pos c74] at H
                    have c74b0 : (((rd_T102 l1 x67_5).f0) == 1) = true := beq_iff_eq.mpr c74
                    have c74b1 : (((rd_T102 l1 x67_5).f0) != 1) = false := bne_eq_false_iff_eq.mpr c74
                    clear c74
                    by_cases c75 : t618 = 0
                    ·rw [if_pos c75] at H
                     have c75b0 : (t618 == 0) = true := beq_iff_eq.mpr c75
                     have c75b1 : (t618 != 0) = false := bne_eq_false_iff_eq.mpr c75
                     clear c75
                     have H' := Aside0.mk H
                     clear H
                     have hnb76 := NB616_626.out
                     have hnc76 := NB626_616.out
                     have hnb77 := NB616_541.out
                     have hnc77 := NB541_616.out
                     have hcz78_0 : w57.cell? ⟨gb616, 0, none⟩ = some (.int .i64 ((rd_T102 l1 x67_5).f0)) := (blk_cell BK616.out 0).trans rfl
                     have hcz78_1 : w57.cell? ⟨gb616, 1, none⟩ = some (.int .i64 ((rd_T102 l1 x67_5).f1)) := (blk_cell BK616.out 1).trans rfl
                     have hcz78_2 : w57.cell? ⟨gb616, 2, none⟩ = some (.int .u64 ((rd_T102 l1 x67_5).f2)) := (blk_cell BK616.out 2).trans rfl
                     have hfz78_0 := blk_frozen BK616.out 0
                     have hfz78_1 := blk_frozen BK616.out 1
                     have hfz78_2 := blk_frozen BK616.out 2
                     have hnb79 := NB626_541.out
                     have hnc79 := NB541_626.out
                     have hcz80_0 : w57.cell? ⟨gb626, 0, none⟩ = some (.bool false) := (blk_cell BK626.out 0).trans rfl
                     have hcz80_1 : w57.cell? ⟨gb626, 1, none⟩ = some (.int .i64 0) := (blk_cell BK626.out 1).trans rfl
                     have hcz80_2 : w57.cell? ⟨gb626, 2, none⟩ = some (.int .u64 0) := (blk_cell BK626.out 2).trans rfl
                     have hfz80_0 := blk_frozen BK626.out 0
                     have hfz80_1 := blk_frozen BK626.out 1
                     have hfz80_2 := blk_frozen BK626.out 2
                     go_wp2
                     go_meet
                     case rel => exact ⟨_, (true), (t620), (t621), (t622), (t623), (t624), (t625), (by first | rfl | (simp; done) | (simp [*]; done)), H', ⟨by have := HJ4.out; have := HK2.out; have := HJ18.out; have := HJ22.out; have := HK5.out; first | omega | exact Nat.le_refl _⟩, ⟨by (with_reducible repeat (first | refine blk_drewN ?_ _ | refine blk_drew ?_ | refine blk_alloc ?_ _)); refine blk_far ?_ NB616_626.out _; (with_reducible repeat (first | refine blk_drewN ?_ _ | refine blk_drew ?_ | refine blk_alloc ?_ _)); refine blk_far ?_ NB616_626.out _; (with_reducible repeat (first | refine blk_drewN ?_ _ | refine blk_drew ?_ | refine blk_alloc ?_ _)); refine blk_far ?_ NB616_626.out _; (with_reducible repeat (first | refine blk_drewN ?_ _ | refine blk_drew ?_ | refine blk_alloc ?_ _)); exact BK616.out⟩, ⟨by (with_reducible repeat (first | refine blk_drewN ?_ _ | refine blk_drew ?_ | refine blk_alloc ?_ _)); refine blk_put (cs := #[.bool t617, .int .i64 t618, .int .u64 0]) ?_ 2 _ rfl; (with_reducible repeat (first | refine blk_drewN ?_ _ | refine blk_drew ?_ | refine blk_alloc ?_ _)); refine blk_put (cs := #[.bool t617, .int .i64 0, .int .u64 0]) ?_ 1 _ rfl; (with_reducible repeat (first | refine blk_drewN ?_ _ | refine blk_drew ?_ | refine blk_alloc ?_ _)); refine blk_put (cs := #[.bool false, .int .i64 0, .int .u64 0]) ?_ 0 _ rfl; (with_reducible repeat (first | refine blk_drewN ?_ _ | refine blk_drew ?_ | refine blk_alloc ?_ _)); exact BK626.out⟩, ⟨by repeat (first | (with_reducible first | exact HI541.out | apply IsS137.alloc | apply IsS137.drewN | apply IsS137.drew | apply IsS137.set_0 | apply IsS137.set_1 | apply IsS137.set_2 | apply IsS137.set_3 | apply IsS137.set_4 | apply IsS137.set_5 | refine IsS137.far ?_ NB541_616.out _ | refine IsS137.far ?_ NB541_626.out _) | exact HI541.out)⟩, ⟨by repeat (first | (with_reducible first | exact HB.out | apply below_alloc | apply pw_below_drewN | apply below_drew1 | refine below_set ?_ (IsS137.ge HI541.out) | refine below_set ?_ GE616.out | refine below_set ?_ GE626.out) | exact HB.out)⟩⟩
                    ·rw [if_neg c75] at H
                     have c75b0 : (t618 == 0) = false := beq_eq_false_iff_ne.mpr c75
                     have c75b1 : (t618 != 0) = true := bne_iff_ne.mpr c75
                     by_cases c81 : x11_5 = true
                     ·subst c81
                      have H1 : ((conn_Conn_State.f t620 t621 t622 t623 t624 t625).bind fun bt648 => (if bt648.1 = 4 then (if x10_18 = true then ((conn_Conn_State.f bt648.2.1 bt648.2.2.1 bt648.2.2.2.1 bt648.2.2.2.2.1 bt648.2.2.2.2.2.1 bt648.2.2.2.2.2.2).bind fun bt655 => (signalmanlaw09_ConnEnds.j6 k5 false x10_18 l1 (l1.length : Int) x67_5 (bt655.1 == 1) bt655.2.1 bt655.2.2.1 bt655.2.2.2.1 bt655.2.2.2.2.1 bt655.2.2.2.2.2.1 bt655.2.2.2.2.2.2)) else (signalmanlaw09_ConnEnds.j6 k5 false x10_18 l1 (l1.length : Int) x67_5 false bt648.2.1 bt648.2.2.1 bt648.2.2.2.1 bt648.2.2.2.2.1 bt648.2.2.2.2.2.1 bt648.2.2.2.2.2.2)) else (signalmanlaw09_ConnEnds.j6 k5 false x10_18 l1 (l1.length : Int) x67_5 true bt648.2.1 bt648.2.2.1 bt648.2.2.2.1 bt648.2.2.2.2.1 bt648.2.2.2.2.2.1 bt648.2.2.2.2.2.2))) = some r := by rw [if_pos rfl] at H; exact H
                      clear H
                      have H := H1
                      clear H1
                      replace H := Option.bind_eq_some_iff.mp H
                      obtain ⟨⟨t648, t649, t650, t651, t652, t653, t654⟩, A820, H⟩ := H
                      replace H : (if t648 = 4 then (if x10_18 = true then ((conn_Conn_State.f t649 t650 t651 t652 t653 t654).bind fun bt655 => (signalmanlaw09_ConnEnds.j6 k5 false x10_18 l1 (l1.length : Int) x67_5 (bt655.1 == 1) bt655.2.1 bt655.2.2.1 bt655.2.2.2.1 bt655.2.2.2.2.1 bt655.2.2.2.2.2.1 bt655.2.2.2.2.2.2)) else (signalmanlaw09_ConnEnds.j6 k5 false x10_18 l1 (l1.length : Int) x67_5 false t649 t650 t651 t652 t653 t654)) else (signalmanlaw09_ConnEnds.j6 k5 false x10_18 l1 (l1.length : Int) x67_5 true t649 t650 t651 t652 t653 t654)) = some r := H
                      have A82 := Aside0.mk A820
                      clear A820
                      by_cases c83 : t648 = 4
                      ·rw [if_pos c83] at H
                       have c83b0 : (t648 == 4) = true := beq_iff_eq.mpr c83
                       have c83b1 : (t648 != 4) = false := bne_eq_false_iff_eq.mpr c83
                       clear c83
                       by_cases c84 : x10_18 = true
                       ·subst c84
                        have H1 : ((conn_Conn_State.f t649 t650 t651 t652 t653 t654).bind fun bt655 => (signalmanlaw09_ConnEnds.j6 k5 false true l1 (l1.length : Int) x67_5 (bt655.1 == 1) bt655.2.1 bt655.2.2.1 bt655.2.2.2.1 bt655.2.2.2.2.1 bt655.2.2.2.2.2.1 bt655.2.2.2.2.2.2)) = some r := by rw [if_pos rfl] at H; exact H
                        clear H
                        have H := H1
                        clear H1
                        replace H := Option.bind_eq_some_iff.mp H
                        obtain ⟨⟨t655, t656, t657, t658, t659, t660, t661⟩, A850, H⟩ := H
                        replace H : (signalmanlaw09_ConnEnds.j6 k5 false true l1 (l1.length : Int) x67_5 (t655 == 1) t656 t657 t658 t659 t660 t661) = some r := H
                        have A85 := Aside0.mk A850
                        clear A850
                        have H' := Aside0.mk H
                        clear H
                        have hnb86 := NB616_626.out
                        have hnc86 := NB626_616.out
                        have hnb87 := NB616_541.out
                        have hnc87 := NB541_616.out
                        have hcz88_0 : w57.cell? ⟨gb616, 0, none⟩ = some (.int .i64 ((rd_T102 l1 x67_5).f0)) := (blk_cell BK616.out 0).trans rfl
                        have hcz88_1 : w57.cell? ⟨gb616, 1, none⟩ = some (.int .i64 ((rd_T102 l1 x67_5).f1)) := (blk_cell BK616.out 1).trans rfl
                        have hcz88_2 : w57.cell? ⟨gb616, 2, none⟩ = some (.int .u64 ((rd_T102 l1 x67_5).f2)) := (blk_cell BK616.out 2).trans rfl
                        have hfz88_0 := blk_frozen BK616.out 0
                        have hfz88_1 := blk_frozen BK616.out 1
                        have hfz88_2 := blk_frozen BK616.out 2
                        have hnb89 := NB626_541.out
                        have hnc89 := NB541_626.out
                        have hcz90_0 : w57.cell? ⟨gb626, 0, none⟩ = some (.bool false) := (blk_cell BK626.out 0).trans rfl
                        have hcz90_1 : w57.cell? ⟨gb626, 1, none⟩ = some (.int .i64 0) := (blk_cell BK626.out 1).trans rfl
                        have hcz90_2 : w57.cell? ⟨gb626, 2, none⟩ = some (.int .u64 0) := (blk_cell BK626.out 2).trans rfl
                        have hfz90_0 := blk_frozen BK626.out 0
                        have hfz90_1 := blk_frozen BK626.out 1
                        have hfz90_2 := blk_frozen BK626.out 2
                        go_wp2_with (first | (go_at_call 55; (with_reducible refine (conn_Conn_State.calls g541 t620 t621 t622 t623 t624 t625 t648 t649 t650 t651 t652 t653 t654 w _ ?side1 ?side2 (by first | exact A82.out | (have h_ := A82.out; exact h_))).mono ?_); (case side1 => repeat (first | (with_reducible first | exact HI541.out | apply IsS137.alloc | apply IsS137.drewN | apply IsS137.drew | apply IsS137.set_0 | apply IsS137.set_1 | apply IsS137.set_2 | apply IsS137.set_3 | apply IsS137.set_4 | apply IsS137.set_5 | refine IsS137.far ?_ NB541_616.out _ | refine IsS137.far ?_ NB541_626.out _) | exact HI541.out)); (case side2 => repeat (first | (with_reducible first | exact HB.out | apply below_alloc | apply pw_below_drewN | apply below_drew1 | refine below_set ?_ (IsS137.ge HI541.out) | refine below_set ?_ GE616.out | refine below_set ?_ GE626.out) | exact HB.out)); rintro e w91 ⟨rfl, hi, hb, hk⟩; have n0_ := Aside0.mk (KeepBut.blk hk (g' := gb616) (o := .cells #[.int .i64 ((rd_T102 l1 x67_5).f0), .int .i64 ((rd_T102 l1 x67_5).f1), .int .u64 ((rd_T102 l1 x67_5).f2)] 102 (0, 0)) (by (with_reducible repeat (first | refine blk_drewN ?_ _ | refine blk_drew ?_ | refine blk_alloc ?_ _)); refine blk_far ?_ NB616_626.out _; (with_reducible repeat (first | refine blk_drewN ?_ _ | refine blk_drew ?_ | refine blk_alloc ?_ _)); refine blk_far ?_ NB616_626.out _; (with_reducible repeat (first | refine blk_drewN ?_ _ | refine blk_drew ?_ | refine blk_alloc ?_ _)); refine blk_far ?_ NB616_626.out _; (with_reducible repeat (first | refine blk_drewN ?_ _ | refine blk_drew ?_ | refine blk_alloc ?_ _)); exact BK616.out) NB616_541.out (by simp)); have n1_ := Aside0.mk (KeepBut.blk hk (g' := gb626) (o := .cells #[.bool t617, .int .i64 t618, .int .u64 t619] 104 (0, 0)) (by (with_reducible repeat (first | refine blk_drewN ?_ _ | refine blk_drew ?_ | refine blk_alloc ?_ _)); refine blk_put (cs := #[.bool t617, .int .i64 t618, .int .u64 0]) ?_ 2 _ rfl; (with_reducible repeat (first | refine blk_drewN ?_ _ | refine blk_drew ?_ | refine blk_alloc ?_ _)); refine blk_put (cs := #[.bool t617, .int .i64 0, .int .u64 0]) ?_ 1 _ rfl; (with_reducible repeat (first | refine blk_drewN ?_ _ | refine blk_drew ?_ | refine blk_alloc ?_ _)); refine blk_put (cs := #[.bool false, .int .i64 0, .int .u64 0]) ?_ 0 _ rfl; (with_reducible repeat (first | refine blk_drewN ?_ _ | refine blk_drew ?_ | refine blk_alloc ?_ _)); exact BK626.out) NB626_541.out (by simp)); have n2_ := Aside0.mk (hb); have n3_ := Aside0.mk (hi); clear BK616; clear BK626; clear HB; clear HI541; have BK616 := n0_; have BK626 := n1_; have HB := n2_; have HI541 := n3_; clear n0_ n1_ n2_ n3_; (try clear hb); (try clear hb2); (try clear hk); (try clear hi)) | (go_at_call 55; (with_reducible refine (conn_Conn_State.calls g541 t649 t650 t651 t652 t653 t654 t655 t656 t657 t658 t659 t660 t661 w _ ?side1 ?side2 (by first | exact A85.out | (have h_ := A85.out; exact h_))).mono ?_); (case side1 => repeat (first | (with_reducible first | exact HI541.out | apply IsS137.alloc | apply IsS137.drewN | apply IsS137.drew | apply IsS137.set_0 | apply IsS137.set_1 | apply IsS137.set_2 | apply IsS137.set_3 | apply IsS137.set_4 | apply IsS137.set_5 | refine IsS137.far ?_ NB541_616.out _ | refine IsS137.far ?_ NB541_626.out _) | exact HI541.out)); (case side2 => repeat (first | (with_reducible first | exact HB.out | apply below_alloc | apply pw_below_drewN | apply below_drew1 | refine below_set ?_ (IsS137.ge HI541.out) | refine below_set ?_ GE616.out | refine below_set ?_ GE626.out) | exact HB.out)); rintro e w92 ⟨rfl, hi, hb, hk⟩; have n0_ := Aside0.mk (KeepBut.blk hk (g' := gb616) (o := .cells #[.int .i64 ((rd_T102 l1 x67_5).f0), .int .i64 ((rd_T102 l1 x67_5).f1), .int .u64 ((rd_T102 l1 x67_5).f2)] 102 (0, 0)) (by (with_reducible repeat (first | refine blk_drewN ?_ _ | refine blk_drew ?_ | refine blk_alloc ?_ _)); exact BK616.out) NB616_541.out (by simp)); have n1_ := Aside0.mk (KeepBut.blk hk (g' := gb626) (o := .cells #[.bool t617, .int .i64 t618, .int .u64 t619] 104 (0, 0)) (by (with_reducible repeat (first | refine blk_drewN ?_ _ | refine blk_drew ?_ | refine blk_alloc ?_ _)); exact BK626.out) NB626_541.out (by simp)); have n2_ := Aside0.mk (hb); have n3_ := Aside0.mk (hi); clear BK616; clear BK626; clear HB; clear HI541; have BK616 := n0_; have BK626 := n1_; have HB := n2_; have HI541 := n3_; clear n0_ n1_ n2_ n3_; (try clear hb); (try clear hb2); (try clear hk); (try clear hi)))
                        go_meet
                        case rel => exact ⟨_, ((t655 == 1)), (t656), (t657), (t658), (t659), (t660), (t661), (by first | rfl | (simp; done) | (simp [*]; done)), H', ⟨by have := HJ4.out; have := HK2.out; have := HJ18.out; have := HJ22.out; have := HK5.out; first | omega | exact Nat.le_refl _⟩, ⟨by (with_reducible repeat (first | refine blk_drewN ?_ _ | refine blk_drew ?_ | refine blk_alloc ?_ _)); exact BK616.out⟩, ⟨by (with_reducible repeat (first | refine blk_drewN ?_ _ | refine blk_drew ?_ | refine blk_alloc ?_ _)); exact BK626.out⟩, ⟨by repeat (first | (with_reducible first | exact HI541.out | apply IsS137.alloc | apply IsS137.drewN | apply IsS137.drew | apply IsS137.set_0 | apply IsS137.set_1 | apply IsS137.set_2 | apply IsS137.set_3 | apply IsS137.set_4 | apply IsS137.set_5 | refine IsS137.far ?_ NB541_616.out _ | refine IsS137.far ?_ NB541_626.out _) | exact HI541.out)⟩, ⟨by repeat (first | (with_reducible first | exact HB.out | apply below_alloc | apply pw_below_drewN | apply below_drew1 | refine below_set ?_ (IsS137.ge HI541.out) | refine below_set ?_ GE616.out | refine below_set ?_ GE626.out) | exact HB.out)⟩⟩
                       ·replace c84 := Bool.eq_false_iff.mpr c84
                        subst c84
                        have H1 : (signalmanlaw09_ConnEnds.j6 k5 false false l1 (l1.length : Int) x67_5 false t649 t650 t651 t652 t653 t654) = some r := by rw [if_neg (show ¬ (false = true) by decide)] at H; exact H
                        clear H
                        have H := H1
                        clear H1
                        have H' := Aside0.mk H
                        clear H
                        have hnb93 := NB616_626.out
                        have hnc93 := NB626_616.out
                        have hnb94 := NB616_541.out
                        have hnc94 := NB541_616.out
                        have hcz95_0 : w57.cell? ⟨gb616, 0, none⟩ = some (.int .i64 ((rd_T102 l1 x67_5).f0)) := (blk_cell BK616.out 0).trans rfl
                        have hcz95_1 : w57.cell? ⟨gb616, 1, none⟩ = some (.int .i64 ((rd_T102 l1 x67_5).f1)) := (blk_cell BK616.out 1).trans rfl
                        have hcz95_2 : w57.cell? ⟨gb616, 2, none⟩ = some (.int .u64 ((rd_T102 l1 x67_5).f2)) := (blk_cell BK616.out 2).trans rfl
                        have hfz95_0 := blk_frozen BK616.out 0
                        have hfz95_1 := blk_frozen BK616.out 1
                        have hfz95_2 := blk_frozen BK616.out 2
                        have hnb96 := NB626_541.out
                        have hnc96 := NB541_626.out
                        have hcz97_0 : w57.cell? ⟨gb626, 0, none⟩ = some (.bool false) := (blk_cell BK626.out 0).trans rfl
                        have hcz97_1 : w57.cell? ⟨gb626, 1, none⟩ = some (.int .i64 0) := (blk_cell BK626.out 1).trans rfl
                        have hcz97_2 : w57.cell? ⟨gb626, 2, none⟩ = some (.int .u64 0) := (blk_cell BK626.out 2).trans rfl
                        have hfz97_0 := blk_frozen BK626.out 0
                        have hfz97_1 := blk_frozen BK626.out 1
                        have hfz97_2 := blk_frozen BK626.out 2
                        go_wp2_with (first | (go_at_call 55; (with_reducible refine (conn_Conn_State.calls g541 t620 t621 t622 t623 t624 t625 t648 t649 t650 t651 t652 t653 t654 w _ ?side1 ?side2 (by first | exact A82.out | (have h_ := A82.out; exact h_))).mono ?_); (case side1 => repeat (first | (with_reducible first | exact HI541.out | apply IsS137.alloc | apply IsS137.drewN | apply IsS137.drew | apply IsS137.set_0 | apply IsS137.set_1 | apply IsS137.set_2 | apply IsS137.set_3 | apply IsS137.set_4 | apply IsS137.set_5 | refine IsS137.far ?_ NB541_616.out _ | refine IsS137.far ?_ NB541_626.out _) | exact HI541.out)); (case side2 => repeat (first | (with_reducible first | exact HB.out | apply below_alloc | apply pw_below_drewN | apply below_drew1 | refine below_set ?_ (IsS137.ge HI541.out) | refine below_set ?_ GE616.out | refine below_set ?_ GE626.out) | exact HB.out)); rintro e w98 ⟨rfl, hi, hb, hk⟩; have n0_ := Aside0.mk (KeepBut.blk hk (g' := gb616) (o := .cells #[.int .i64 ((rd_T102 l1 x67_5).f0), .int .i64 ((rd_T102 l1 x67_5).f1), .int .u64 ((rd_T102 l1 x67_5).f2)] 102 (0, 0)) (by (with_reducible repeat (first | refine blk_drewN ?_ _ | refine blk_drew ?_ | refine blk_alloc ?_ _)); refine blk_far ?_ NB616_626.out _; (with_reducible repeat (first | refine blk_drewN ?_ _ | refine blk_drew ?_ | refine blk_alloc ?_ _)); refine blk_far ?_ NB616_626.out _; (with_reducible repeat (first | refine blk_drewN ?_ _ | refine blk_drew ?_ | refine blk_alloc ?_ _)); refine blk_far ?_ NB616_626.out _; (with_reducible repeat (first | refine blk_drewN ?_ _ | refine blk_drew ?_ | refine blk_alloc ?_ _)); exact BK616.out) NB616_541.out (by simp)); have n1_ := Aside0.mk (KeepBut.blk hk (g' := gb626) (o := .cells #[.bool t617, .int .i64 t618, .int .u64 t619] 104 (0, 0)) (by (with_reducible repeat (first | refine blk_drewN ?_ _ | refine blk_drew ?_ | refine blk_alloc ?_ _)); refine blk_put (cs := #[.bool t617, .int .i64 t618, .int .u64 0]) ?_ 2 _ rfl; (with_reducible repeat (first | refine blk_drewN ?_ _ | refine blk_drew ?_ | refine blk_alloc ?_ _)); refine blk_put (cs := #[.bool t617, .int .i64 0, .int .u64 0]) ?_ 1 _ rfl; (with_reducible repeat (first | refine blk_drewN ?_ _ | refine blk_drew ?_ | refine blk_alloc ?_ _)); refine blk_put (cs := #[.bool false, .int .i64 0, .int .u64 0]) ?_ 0 _ rfl; (with_reducible repeat (first | refine blk_drewN ?_ _ | refine blk_drew ?_ | refine blk_alloc ?_ _)); exact BK626.out) NB626_541.out (by simp)); have n2_ := Aside0.mk (hb); have n3_ := Aside0.mk (hi); clear BK616; clear BK626; clear HB; clear HI541; have BK616 := n0_; have BK626 := n1_; have HB := n2_; have HI541 := n3_; clear n0_ n1_ n2_ n3_; (try clear hb); (try clear hb2); (try clear hk); (try clear hi)))
                        go_meet
                        case rel => exact ⟨_, (false), (t649), (t650), (t651), (t652), (t653), (t654), (by first | rfl | (simp; done) | (simp [*]; done)), H', ⟨by have := HJ4.out; have := HK2.out; have := HJ18.out; have := HJ22.out; have := HK5.out; first | omega | exact Nat.le_refl _⟩, ⟨by (with_reducible repeat (first | refine blk_drewN ?_ _ | refine blk_drew ?_ | refine blk_alloc ?_ _)); exact BK616.out⟩, ⟨by (with_reducible repeat (first | refine blk_drewN ?_ _ | refine blk_drew ?_ | refine blk_alloc ?_ _)); exact BK626.out⟩, ⟨by repeat (first | (with_reducible first | exact HI541.out | apply IsS137.alloc | apply IsS137.drewN | apply IsS137.drew | apply IsS137.set_0 | apply IsS137.set_1 | apply IsS137.set_2 | apply IsS137.set_3 | apply IsS137.set_4 | apply IsS137.set_5 | refine IsS137.far ?_ NB541_616.out _ | refine IsS137.far ?_ NB541_626.out _) | exact HI541.out)⟩, ⟨by repeat (first | (with_reducible first | exact HB.out | apply below_alloc | apply pw_below_drewN | apply below_drew1 | refine below_set ?_ (IsS137.ge HI541.out) | refine below_set ?_ GE616.out | refine below_set ?_ GE626.out) | exact HB.out)⟩⟩
                      ·rw [if_neg c83] at H
                       have c83b0 : (t648 == 4) = false := beq_eq_false_iff_ne.mpr c83
                       have c83b1 : (t648 != 4) = true := bne_iff_ne.mpr c83
                       have H' := Aside0.mk H
                       clear H
                       have hnb99 := NB616_626.out
                       have hnc99 := NB626_616.out
                       have hnb100 := NB616_541.out
                       have hnc100 := NB541_616.out
                       have hcz101_0 : w57.cell? ⟨gb616, 0, none⟩ = some (.int .i64 ((rd_T102 l1 x67_5).f0)) := (blk_cell BK616.out 0).trans rfl
                       have hcz101_1 : w57.cell? ⟨gb616, 1, none⟩ = some (.int .i64 ((rd_T102 l1 x67_5).f1)) := (blk_cell BK616.out 1).trans rfl
                       have hcz101_2 : w57.cell? ⟨gb616, 2, none⟩ = some (.int .u64 ((rd_T102 l1 x67_5).f2)) := (blk_cell BK616.out 2).trans rfl
                       have hfz101_0 := blk_frozen BK616.out 0
                       have hfz101_1 := blk_frozen BK616.out 1
                       have hfz101_2 := blk_frozen BK616.out 2
                       have hnb102 := NB626_541.out
                       have hnc102 := NB541_626.out
                       have hcz103_0 : w57.cell? ⟨gb626, 0, none⟩ = some (.bool false) := (blk_cell BK626.out 0).trans rfl
                       have hcz103_1 : w57.cell? ⟨gb626, 1, none⟩ = some (.int .i64 0) := (blk_cell BK626.out 1).trans rfl
                       have hcz103_2 : w57.cell? ⟨gb626, 2, none⟩ = some (.int .u64 0) := (blk_cell BK626.out 2).trans rfl
                       have hfz103_0 := blk_frozen BK626.out 0
                       have hfz103_1 := blk_frozen BK626.out 1
                       have hfz103_2 := blk_frozen BK626.out 2
                       go_wp2_with (first | (go_at_call 55; (with_reducible refine (conn_Conn_State.calls g541 t620 t621 t622 t623 t624 t625 t648 t649 t650 t651 t652 t653 t654 w _ ?side1 ?side2 (by first | exact A82.out | (have h_ := A82.out; exact h_))).mono ?_); (case side1 => repeat (first | (with_reducible first | exact HI541.out | apply IsS137.alloc | apply IsS137.drewN | apply IsS137.drew | apply IsS137.set_0 | apply IsS137.set_1 | apply IsS137.set_2 | apply IsS137.set_3 | apply IsS137.set_4 | apply IsS137.set_5 | refine IsS137.far ?_ NB541_616.out _ | refine IsS137.far ?_ NB541_626.out _) | exact HI541.out)); (case side2 => repeat (first | (with_reducible first | exact HB.out | apply below_alloc | apply pw_below_drewN | apply below_drew1 | refine below_set ?_ (IsS137.ge HI541.out) | refine below_set ?_ GE616.out | refine below_set ?_ GE626.out) | exact HB.out)); rintro e w104 ⟨rfl, hi, hb, hk⟩; have n0_ := Aside0.mk (KeepBut.blk hk (g' := gb616) (o := .cells #[.int .i64 ((rd_T102 l1 x67_5).f0), .int .i64 ((rd_T102 l1 x67_5).f1), .int .u64 ((rd_T102 l1 x67_5).f2)] 102 (0, 0)) (by (with_reducible repeat (first | refine blk_drewN ?_ _ | refine blk_drew ?_ | refine blk_alloc ?_ _)); refine blk_far ?_ NB616_626.out _; (with_reducible repeat (first | refine blk_drewN ?_ _ | refine blk_drew ?_ | refine blk_alloc ?_ _)); refine blk_far ?_ NB616_626.out _; (with_reducible repeat (first | refine blk_drewN ?_ _ | refine blk_drew ?_ | refine blk_alloc ?_ _)); refine blk_far ?_ NB616_626.out _; (with_reducible repeat (first | refine blk_drewN ?_ _ | refine blk_drew ?_ | refine blk_alloc ?_ _)); exact BK616.out) NB616_541.out (by simp)); have n1_ := Aside0.mk (KeepBut.blk hk (g' := gb626) (o := .cells #[.bool t617, .int .i64 t618, .int .u64 t619] 104 (0, 0)) (by (with_reducible repeat (first | refine blk_drewN ?_ _ | refine blk_drew ?_ | refine blk_alloc ?_ _)); refine blk_put (cs := #[.bool t617, .int .i64 t618, .int .u64 0]) ?_ 2 _ rfl; (with_reducible repeat (first | refine blk_drewN ?_ _ | refine blk_drew ?_ | refine blk_alloc ?_ _)); refine blk_put (cs := #[.bool t617, .int .i64 0, .int .u64 0]) ?_ 1 _ rfl; (with_reducible repeat (first | refine blk_drewN ?_ _ | refine blk_drew ?_ | refine blk_alloc ?_ _)); refine blk_put (cs := #[.bool false, .int .i64 0, .int .u64 0]) ?_ 0 _ rfl; (with_reducible repeat (first | refine blk_drewN ?_ _ | refine blk_drew ?_ | refine blk_alloc ?_ _)); exact BK626.out) NB626_541.out (by simp)); have n2_ := Aside0.mk (hb); have n3_ := Aside0.mk (hi); clear BK616; clear BK626; clear HB; clear HI541; have BK616 := n0_; have BK626 := n1_; have HB := n2_; have HI541 := n3_; clear n0_ n1_ n2_ n3_; (try clear hb); (try clear hb2); (try clear hk); (try clear hi)))
                       go_meet
                       case rel => exact ⟨_, (true), (t649), (t650), (t651), (t652), (t653), (t654), (by first | rfl | (simp; done) | (simp [*]; done)), H', ⟨by have := HJ4.out; have := HK2.out; have := HJ18.out; have := HJ22.out; have := HK5.out; first | omega | exact Nat.le_refl _⟩, ⟨by (with_reducible repeat (first | refine blk_drewN ?_ _ | refine blk_drew ?_ | refine blk_alloc ?_ _)); exact BK616.out⟩, ⟨by (with_reducible repeat (first | refine blk_drewN ?_ _ | refine blk_drew ?_ | refine blk_alloc ?_ _)); exact BK626.out⟩, ⟨by repeat (first | (with_reducible first | exact HI541.out | apply IsS137.alloc | apply IsS137.drewN | apply IsS137.drew | apply IsS137.set_0 | apply IsS137.set_1 | apply IsS137.set_2 | apply IsS137.set_3 | apply IsS137.set_4 | apply IsS137.set_5 | refine IsS137.far ?_ NB541_616.out _ | refine IsS137.far ?_ NB541_626.out _) | exact HI541.out)⟩, ⟨by repeat (first | (with_reducible first | exact HB.out | apply below_alloc | apply pw_below_drewN | apply below_drew1 | refine below_set ?_ (IsS137.ge HI541.out) | refine below_set ?_ GE616.out | refine below_set ?_ GE626.out) | exact HB.out)⟩⟩
                     ·replace c81 := Bool.eq_false_iff.mpr c81
                      subst c81
                      have H1 : (if x10_18 = true then ((conn_Conn_State.f t620 t621 t622 t623 t624 t625).bind fun bt662 => (signalmanlaw09_ConnEnds.j6 k5 false x10_18 l1 (l1.length : Int) x67_5 (bt662.1 == 1) bt662.2.1 bt662.2.2.1 bt662.2.2.2.1 bt662.2.2.2.2.1 bt662.2.2.2.2.2.1 bt662.2.2.2.2.2.2)) else (signalmanlaw09_ConnEnds.j6 k5 false x10_18 l1 (l1.length : Int) x67_5 false t620 t621 t622 t623 t624 t625)) = some r := by rw [if_neg (show ¬ (false = true) by decide)] at H; exact H
                      clear H
                      have H := H1
                      clear H1
                      by_cases c105 : x10_18 = true
                      ·subst c105
                       have H1 : ((conn_Conn_State.f t620 t621 t622 t623 t624 t625).bind fun bt662 => (signalmanlaw09_ConnEnds.j6 k5 false true l1 (l1.length : Int) x67_5 (bt662.1 == 1) bt662.2.1 bt662.2.2.1 bt662.2.2.2.1 bt662.2.2.2.2.1 bt662.2.2.2.2.2.1 bt662.2.2.2.2.2.2)) = some r := by rw [if_pos rfl] at H; exact H
                       clear H
                       have H := H1
                       clear H1
                       replace H := Option.bind_eq_some_iff.mp H
                       obtain ⟨⟨t662, t663, t664, t665, t666, t667, t668⟩, A1060, H⟩ := H
                       replace H : (signalmanlaw09_ConnEnds.j6 k5 false true l1 (l1.length : Int) x67_5 (t662 == 1) t663 t664 t665 t666 t667 t668) = some r := H
                       have A106 := Aside0.mk A1060
                       clear A1060
                       have H' := Aside0.mk H
                       clear H
                       have hnb107 := NB616_626.out
                       have hnc107 := NB626_616.out
                       have hnb108 := NB616_541.out
                       have hnc108 := NB541_616.out
                       have hcz109_0 : w57.cell? ⟨gb616, 0, none⟩ = some (.int .i64 ((rd_T102 l1 x67_5).f0)) := (blk_cell BK616.out 0).trans rfl
                       have hcz109_1 : w57.cell? ⟨gb616, 1, none⟩ = some (.int .i64 ((rd_T102 l1 x67_5).f1)) := (blk_cell BK616.out 1).trans rfl
                       have hcz109_2 : w57.cell? ⟨gb616, 2, none⟩ = some (.int .u64 ((rd_T102 l1 x67_5).f2)) := (blk_cell BK616.out 2).trans rfl
                       have hfz109_0 := blk_frozen BK616.out 0
                       have hfz109_1 := blk_frozen BK616.out 1
                       have hfz109_2 := blk_frozen BK616.out 2
                       have hnb110 := NB626_541.out
                       have hnc110 := NB541_626.out
                       have hcz111_0 : w57.cell? ⟨gb626, 0, none⟩ = some (.bool false) := (blk_cell BK626.out 0).trans rfl
                       have hcz111_1 : w57.cell? ⟨gb626, 1, none⟩ = some (.int .i64 0) := (blk_cell BK626.out 1).trans rfl
                       have hcz111_2 : w57.cell? ⟨gb626, 2, none⟩ = some (.int .u64 0) := (blk_cell BK626.out 2).trans rfl
                       have hfz111_0 := blk_frozen BK626.out 0
                       have hfz111_1 := blk_frozen BK626.out 1
                       have hfz111_2 := blk_frozen BK626.out 2
                       go_wp2_with (first | (go_at_call 55; (with_reducible refine (conn_Conn_State.calls g541 t620 t621 t622 t623 t624 t625 t662 t663 t664 t665 t666 t667 t668 w _ ?side1 ?side2 (by first | exact A106.out | (have h_ := A106.out; exact h_))).mono ?_); (case side1 => repeat (first | (with_reducible first | exact HI541.out | apply IsS137.alloc | apply IsS137.drewN | apply IsS137.drew | apply IsS137.set_0 | apply IsS137.set_1 | apply IsS137.set_2 | apply IsS137.set_3 | apply IsS137.set_4 | apply IsS137.set_5 | refine IsS137.far ?_ NB541_616.out _ | refine IsS137.far ?_ NB541_626.out _) | exact HI541.out)); (case side2 => repeat (first | (with_reducible first | exact HB.out | apply below_alloc | apply pw_below_drewN | apply below_drew1 | refine below_set ?_ (IsS137.ge HI541.out) | refine below_set ?_ GE616.out | refine below_set ?_ GE626.out) | exact HB.out)); rintro e w112 ⟨rfl, hi, hb, hk⟩; have n0_ := Aside0.mk (KeepBut.blk hk (g' := gb616) (o := .cells #[.int .i64 ((rd_T102 l1 x67_5).f0), .int .i64 ((rd_T102 l1 x67_5).f1), .int .u64 ((rd_T102 l1 x67_5).f2)] 102 (0, 0)) (by (with_reducible repeat (first | refine blk_drewN ?_ _ | refine blk_drew ?_ | refine blk_alloc ?_ _)); refine blk_far ?_ NB616_626.out _; (with_reducible repeat (first | refine blk_drewN ?_ _ | refine blk_drew ?_ | refine blk_alloc ?_ _)); refine blk_far ?_ NB616_626.out _; (with_reducible repeat (first | refine blk_drewN ?_ _ | refine blk_drew ?_ | refine blk_alloc ?_ _)); refine blk_far ?_ NB616_626.out _; (with_reducible repeat (first | refine blk_drewN ?_ _ | refine blk_drew ?_ | refine blk_alloc ?_ _)); exact BK616.out) NB616_541.out (by simp)); have n1_ := Aside0.mk (KeepBut.blk hk (g' := gb626) (o := .cells #[.bool t617, .int .i64 t618, .int .u64 t619] 104 (0, 0)) (by (with_reducible repeat (first | refine blk_drewN ?_ _ | refine blk_drew ?_ | refine blk_alloc ?_ _)); refine blk_put (cs := #[.bool t617, .int .i64 t618, .int .u64 0]) ?_ 2 _ rfl; (with_reducible repeat (first | refine blk_drewN ?_ _ | refine blk_drew ?_ | refine blk_alloc ?_ _)); refine blk_put (cs := #[.bool t617, .int .i64 0, .int .u64 0]) ?_ 1 _ rfl; (with_reducible repeat (first | refine blk_drewN ?_ _ | refine blk_drew ?_ | refine blk_alloc ?_ _)); refine blk_put (cs := #[.bool false, .int .i64 0, .int .u64 0]) ?_ 0 _ rfl; (with_reducible repeat (first | refine blk_drewN ?_ _ | refine blk_drew ?_ | refine blk_alloc ?_ _)); exact BK626.out) NB626_541.out (by simp)); have n2_ := Aside0.mk (hb); have n3_ := Aside0.mk (hi); clear BK616; clear BK626; clear HB; clear HI541; have BK616 := n0_; have BK626 := n1_; have HB := n2_; have HI541 := n3_; clear n0_ n1_ n2_ n3_; (try clear hb); (try clear hb2); (try clear hk); (try clear hi)))
                       go_meet
                       case rel => exact ⟨_, ((t662 == 1)), (t663), (t664), (t665), (t666), (t667), (t668), (by first | rfl | (simp; done) | (simp [*]; done)), H', ⟨by have := HJ4.out; have := HK2.out; have := HJ18.out; have := HJ22.out; have := HK5.out; first | omega | exact Nat.le_refl _⟩, ⟨by (with_reducible repeat (first | refine blk_drewN ?_ _ | refine blk_drew ?_ | refine blk_alloc ?_ _)); exact BK616.out⟩, ⟨by (with_reducible repeat (first | refine blk_drewN ?_ _ | refine blk_drew ?_ | refine blk_alloc ?_ _)); exact BK626.out⟩, ⟨by repeat (first | (with_reducible first | exact HI541.out | apply IsS137.alloc | apply IsS137.drewN | apply IsS137.drew | apply IsS137.set_0 | apply IsS137.set_1 | apply IsS137.set_2 | apply IsS137.set_3 | apply IsS137.set_4 | apply IsS137.set_5 | refine IsS137.far ?_ NB541_616.out _ | refine IsS137.far ?_ NB541_626.out _) | exact HI541.out)⟩, ⟨by repeat (first | (with_reducible first | exact HB.out | apply below_alloc | apply pw_below_drewN | apply below_drew1 | refine below_set ?_ (IsS137.ge HI541.out) | refine below_set ?_ GE616.out | refine below_set ?_ GE626.out) | exact HB.out)⟩⟩
                      ·replace c105 := Bool.eq_false_iff.mpr c105
                       subst c105
                       have H1 : (signalmanlaw09_ConnEnds.j6 k5 false false l1 (l1.length : Int) x67_5 false t620 t621 t622 t623 t624 t625) = some r := by rw [if_neg (show ¬ (false = true) by decide)] at H; exact H
                       clear H
                       have H := H1
                       clear H1
                       have H' := Aside0.mk H
                       clear H
                       have hnb113 := NB616_626.out
                       have hnc113 := NB626_616.out
                       have hnb114 := NB616_541.out
                       have hnc114 := NB541_616.out
                       have hcz115_0 : w57.cell? ⟨gb616, 0, none⟩ = some (.int .i64 ((rd_T102 l1 x67_5).f0)) := (blk_cell BK616.out 0).trans rfl
                       have hcz115_1 : w57.cell? ⟨gb616, 1, none⟩ = some (.int .i64 ((rd_T102 l1 x67_5).f1)) := (blk_cell BK616.out 1).trans rfl
                       have hcz115_2 : w57.cell? ⟨gb616, 2, none⟩ = some (.int .u64 ((rd_T102 l1 x67_5).f2)) := (blk_cell BK616.out 2).trans rfl
                       have hfz115_0 := blk_frozen BK616.out 0
                       have hfz115_1 := blk_frozen BK616.out 1
                       have hfz115_2 := blk_frozen BK616.out 2
                       have hnb116 := NB626_541.out
                       have hnc116 := NB541_626.out
                       have hcz117_0 : w57.cell? ⟨gb626, 0, none⟩ = some (.bool false) := (blk_cell BK626.out 0).trans rfl
                       have hcz117_1 : w57.cell? ⟨gb626, 1, none⟩ = some (.int .i64 0) := (blk_cell BK626.out 1).trans rfl
                       have hcz117_2 : w57.cell? ⟨gb626, 2, none⟩ = some (.int .u64 0) := (blk_cell BK626.out 2).trans rfl
                       have hfz117_0 := blk_frozen BK626.out 0
                       have hfz117_1 := blk_frozen BK626.out 1
                       have hfz117_2 := blk_frozen BK626.out 2
                       go_wp2
                       go_meet
                       case rel => exact ⟨_, (false), (t620), (t621), (t622), (t623), (t624), (t625), (by first | rfl | (simp; done) | (simp [*]; done)), H', ⟨by have := HJ4.out; have := HK2.out; have := HJ18.out; have := HJ22.out; have := HK5.out; first | omega | exact Nat.le_refl _⟩, ⟨by (with_reducible repeat (first | refine blk_drewN ?_ _ | refine blk_drew ?_ | refine blk_alloc ?_ _)); refine blk_far ?_ NB616_626.out _; (with_reducible repeat (first | refine blk_drewN ?_ _ | refine blk_drew ?_ | refine blk_alloc ?_ _)); refine blk_far ?_ NB616_626.out _; (with_reducible repeat (first | refine blk_drewN ?_ _ | refine blk_drew ?_ | refine blk_alloc ?_ _)); refine blk_far ?_ NB616_626.out _; (with_reducible repeat (first | refine blk_drewN ?_ _ | refine blk_drew ?_ | refine blk_alloc ?_ _)); exact BK616.out⟩, ⟨by (with_reducible repeat (first | refine blk_drewN ?_ _ | refine blk_drew ?_ | refine blk_alloc ?_ _)); refine blk_put (cs := #[.bool t617, .int .i64 t618, .int .u64 0]) ?_ 2 _ rfl; (with_reducible repeat (first | refine blk_drewN ?_ _ | refine blk_drew ?_ | refine blk_alloc ?_ _)); refine blk_put (cs := #[.bool t617, .int .i64 0, .int .u64 0]) ?_ 1 _ rfl; (with_reducible repeat (first | refine blk_drewN ?_ _ | refine blk_drew ?_ | refine blk_alloc ?_ _)); refine blk_put (cs := #[.bool false, .int .i64 0, .int .u64 0]) ?_ 0 _ rfl; (with_reducible repeat (first | refine blk_drewN ?_ _ | refine blk_drew ?_ | refine blk_alloc ?_ _)); exact BK626.out⟩, ⟨by repeat (first | (with_reducible first | exact HI541.out | apply IsS137.alloc | apply IsS137.drewN | apply IsS137.drew | apply IsS137.set_0 | apply IsS137.set_1 | apply IsS137.set_2 | apply IsS137.set_3 | apply IsS137.set_4 | apply IsS137.set_5 | refine IsS137.far ?_ NB541_616.out _ | refine IsS137.far ?_ NB541_626.out _) | exact HI541.out)⟩, ⟨by repeat (first | (with_reducible first | exact HB.out | apply below_alloc | apply pw_below_drewN | apply below_drew1 | refine below_set ?_ (IsS137.ge HI541.out) | refine below_set ?_ GE616.out | refine below_set ?_ GE626.out) | exact HB.out)⟩⟩
                   ·rw [if_neg c74] at H
                    have c74b0 : (((rd_T102 l1 x67_5).f0) == 1) = false := beq_eq_false_iff_ne.mpr c74
                    have c74b1 : (((rd_T102 l1 x67_5).f0) != 1) = true := bne_iff_ne.mpr c74
                    by_cases c118 : x11_5 = true
                    ·subst c118
                     have H1 : ((conn_Conn_State.f t620 t621 t622 t623 t624 t625).bind fun bt669 => (if bt669.1 = 4 then (if x10_18 = true then ((conn_Conn_State.f bt669.2.1 bt669.2.2.1 bt669.2.2.2.1 bt669.2.2.2.2.1 bt669.2.2.2.2.2.1 bt669.2.2.2.2.2.2).bind fun bt676 => (signalmanlaw09_ConnEnds.j6 k5 false x10_18 l1 (l1.length : Int) x67_5 (bt676.1 == 1) bt676.2.1 bt676.2.2.1 bt676.2.2.2.1 bt676.2.2.2.2.1 bt676.2.2.2.2.2.1 bt676.2.2.2.2.2.2)) else (signalmanlaw09_ConnEnds.j6 k5 false x10_18 l1 (l1.length : Int) x67_5 false bt669.2.1 bt669.2.2.1 bt669.2.2.2.1 bt669.2.2.2.2.1 bt669.2.2.2.2.2.1 bt669.2.2.2.2.2.2)) else (signalmanlaw09_ConnEnds.j6 k5 false x10_18 l1 (l1.length : Int) x67_5 true bt669.2.1 bt669.2.2.1 bt669.2.2.2.1 bt669.2.2.2.2.1 bt669.2.2.2.2.2.1 bt669.2.2.2.2.2.2))) = some r := by rw [if_pos rfl] at H; exact H
                     clear H
                     have H := H1
                     clear H1
                     replace H := Option.bind_eq_some_iff.mp H
                     obtain ⟨⟨t669, t670, t671, t672, t673, t674, t675⟩, A1190, H⟩ := H
                     replace H : (if t669 = 4 then (if x10_18 = true then ((conn_Conn_State.f t670 t671 t672 t673 t674 t675).bind fun bt676 => (signalmanlaw09_ConnEnds.j6 k5 false x10_18 l1 (l1.length : Int) x67_5 (bt676.1 == 1) bt676.2.1 bt676.2.2.1 bt676.2.2.2.1 bt676.2.2.2.2.1 bt676.2.2.2.2.2.1 bt676.2.2.2.2.2.2)) else (signalmanlaw09_ConnEnds.j6 k5 false x10_18 l1 (l1.length : Int) x67_5 false t670 t671 t672 t673 t674 t675)) else (signalmanlaw09_ConnEnds.j6 k5 false x10_18 l1 (l1.length : Int) x67_5 true t670 t671 t672 t673 t674 t675)) = some r := H
                     have A119 := Aside0.mk A1190
                     clear A1190
                     by_cases c120 : t669 = 4
                     ·rw [if_pos c120] at H
                      have c120b0 : (t669 == 4) = true := beq_iff_eq.mpr c120
                      have c120b1 : (t669 != 4) = false := bne_eq_false_iff_eq.mpr c120
                      clear c120
                      by_cases c121 : x10_18 = true
                      ·subst c121
                       have H1 : ((conn_Conn_State.f t670 t671 t672 t673 t674 t675).bind fun bt676 => (signalmanlaw09_ConnEnds.j6 k5 false true l1 (l1.length : Int) x67_5 (bt676.1 == 1) bt676.2.1 bt676.2.2.1 bt676.2.2.2.1 bt676.2.2.2.2.1 bt676.2.2.2.2.2.1 bt676.2.2.2.2.2.2)) = some r := by rw [if_pos rfl] at H; exact H
                       clear H
                       have H := H1
                       clear H1
                       replace H := Option.bind_eq_some_iff.mp H
                       obtain ⟨⟨t676, t677, t678, t679, t680, t681, t682⟩, A1220, H⟩ := H
                       replace H : (signalmanlaw09_ConnEnds.j6 k5 false true l1 (l1.length : Int) x67_5 (t676 == 1) t677 t678 t679 t680 t681 t682) = some r := H
                       have A122 := Aside0.mk A1220
                       clear A1220
                       have H' := Aside0.mk H
                       clear H
                       have hnb123 := NB616_626.out
                       have hnc123 := NB626_616.out
                       have hnb124 := NB616_541.out
                       have hnc124 := NB541_616.out
                       have hcz125_0 : w57.cell? ⟨gb616, 0, none⟩ = some (.int .i64 ((rd_T102 l1 x67_5).f0)) := (blk_cell BK616.out 0).trans rfl
                       have hcz125_1 : w57.cell? ⟨gb616, 1, none⟩ = some (.int .i64 ((rd_T102 l1 x67_5).f1)) := (blk_cell BK616.out 1).trans rfl
                       have hcz125_2 : w57.cell? ⟨gb616, 2, none⟩ = some (.int .u64 ((rd_T102 l1 x67_5).f2)) := (blk_cell BK616.out 2).trans rfl
                       have hfz125_0 := blk_frozen BK616.out 0
                       have hfz125_1 := blk_frozen BK616.out 1
                       have hfz125_2 := blk_frozen BK616.out 2
                       go_wp2_with (first | (go_at_call 55; (with_reducible refine (conn_Conn_State.calls g541 t620 t621 t622 t623 t624 t625 t669 t670 t671 t672 t673 t674 t675 w _ ?side1 ?side2 (by first | exact A119.out | (have h_ := A119.out; exact h_))).mono ?_); (case side1 => repeat (first | (with_reducible first | exact HI541.out | apply IsS137.alloc | apply IsS137.drewN | apply IsS137.drew | apply IsS137.set_0 | apply IsS137.set_1 | apply IsS137.set_2 | apply IsS137.set_3 | apply IsS137.set_4 | apply IsS137.set_5 | refine IsS137.far ?_ NB541_616.out _ | refine IsS137.far ?_ NB541_626.out _) | exact HI541.out)); (case side2 => repeat (first | (with_reducible first | exact HB.out | apply below_alloc | apply pw_below_drewN | apply below_drew1 | refine below_set ?_ (IsS137.ge HI541.out) | refine below_set ?_ GE616.out | refine below_set ?_ GE626.out) | exact HB.out)); rintro e w126 ⟨rfl, hi, hb, hk⟩; have n0_ := Aside0.mk (KeepBut.blk hk (g' := gb616) (o := .cells #[.int .i64 ((rd_T102 l1 x67_5).f0), .int .i64 ((rd_T102 l1 x67_5).f1), .int .u64 ((rd_T102 l1 x67_5).f2)] 102 (0, 0)) (by (with_reducible repeat (first | refine blk_drewN ?_ _ | refine blk_drew ?_ | refine blk_alloc ?_ _)); refine blk_far ?_ NB616_626.out _; (with_reducible repeat (first | refine blk_drewN ?_ _ | refine blk_drew ?_ | refine blk_alloc ?_ _)); refine blk_far ?_ NB616_626.out _; (with_reducible repeat (first | refine blk_drewN ?_ _ | refine blk_drew ?_ | refine blk_alloc ?_ _)); refine blk_far ?_ NB616_626.out _; (with_reducible repeat (first | refine blk_drewN ?_ _ | refine blk_drew ?_ | refine blk_alloc ?_ _)); exact BK616.out) NB616_541.out (by simp)); have n1_ := Aside0.mk (KeepBut.blk hk (g' := gb626) (o := .cells #[.bool t617, .int .i64 t618, .int .u64 t619] 104 (0, 0)) (by (with_reducible repeat (first | refine blk_drewN ?_ _ | refine blk_drew ?_ | refine blk_alloc ?_ _)); refine blk_put (cs := #[.bool t617, .int .i64 t618, .int .u64 0]) ?_ 2 _ rfl; (with_reducible repeat (first | refine blk_drewN ?_ _ | refine blk_drew ?_ | refine blk_alloc ?_ _)); refine blk_put (cs := #[.bool t617, .int .i64 0, .int .u64 0]) ?_ 1 _ rfl; (with_reducible repeat (first | refine blk_drewN ?_ _ | refine blk_drew ?_ | refine blk_alloc ?_ _)); refine blk_put (cs := #[.bool false, .int .i64 0, .int .u64 0]) ?_ 0 _ rfl; (with_reducible repeat (first | refine blk_drewN ?_ _ | refine blk_drew ?_ | refine blk_alloc ?_ _)); exact BK626.out) NB626_541.out (by simp)); have n2_ := Aside0.mk (hb); have n3_ := Aside0.mk (hi); clear BK616; clear BK626; clear HB; clear HI541; have BK616 := n0_; have BK626 := n1_; have HB := n2_; have HI541 := n3_; clear n0_ n1_ n2_ n3_; (try clear hb); (try clear hb2); (try clear hk); (try clear hi)) | (go_at_call 55; (with_reducible refine (conn_Conn_State.calls g541 t670 t671 t672 t673 t674 t675 t676 t677 t678 t679 t680 t681 t682 w _ ?side1 ?side2 (by first | exact A122.out | (have h_ := A122.out; exact h_))).mono ?_); (case side1 => repeat (first | (with_reducible first | exact HI541.out | apply IsS137.alloc | apply IsS137.drewN | apply IsS137.drew | apply IsS137.set_0 | apply IsS137.set_1 | apply IsS137.set_2 | apply IsS137.set_3 | apply IsS137.set_4 | apply IsS137.set_5 | refine IsS137.far ?_ NB541_616.out _ | refine IsS137.far ?_ NB541_626.out _) | exact HI541.out)); (case side2 => repeat (first | (with_reducible first | exact HB.out | apply below_alloc | apply pw_below_drewN | apply below_drew1 | refine below_set ?_ (IsS137.ge HI541.out) | refine below_set ?_ GE616.out | refine below_set ?_ GE626.out) | exact HB.out)); rintro e w127 ⟨rfl, hi, hb, hk⟩; have n0_ := Aside0.mk (KeepBut.blk hk (g' := gb616) (o := .cells #[.int .i64 ((rd_T102 l1 x67_5).f0), .int .i64 ((rd_T102 l1 x67_5).f1), .int .u64 ((rd_T102 l1 x67_5).f2)] 102 (0, 0)) (by (with_reducible repeat (first | refine blk_drewN ?_ _ | refine blk_drew ?_ | refine blk_alloc ?_ _)); exact BK616.out) NB616_541.out (by simp)); have n1_ := Aside0.mk (KeepBut.blk hk (g' := gb626) (o := .cells #[.bool t617, .int .i64 t618, .int .u64 t619] 104 (0, 0)) (by (with_reducible repeat (first | refine blk_drewN ?_ _ | refine blk_drew ?_ | refine blk_alloc ?_ _)); exact BK626.out) NB626_541.out (by simp)); have n2_ := Aside0.mk (hb); have n3_ := Aside0.mk (hi); clear BK616; clear BK626; clear HB; clear HI541; have BK616 := n0_; have BK626 := n1_; have HB := n2_; have HI541 := n3_; clear n0_ n1_ n2_ n3_; (try clear hb); (try clear hb2); (try clear hk); (try clear hi)))
                       go_meet
                       case rel => exact ⟨_, ((t676 == 1)), (t677), (t678), (t679), (t680), (t681), (t682), (by first | rfl | (simp; done) | (simp [*]; done)), H', ⟨by have := HJ4.out; have := HK2.out; have := HJ18.out; have := HJ22.out; have := HK5.out; first | omega | exact Nat.le_refl _⟩, ⟨by (with_reducible repeat (first | refine blk_drewN ?_ _ | refine blk_drew ?_ | refine blk_alloc ?_ _)); exact BK616.out⟩, ⟨by (with_reducible repeat (first | refine blk_drewN ?_ _ | refine blk_drew ?_ | refine blk_alloc ?_ _)); exact BK626.out⟩, ⟨by repeat (first | (with_reducible first | exact HI541.out | apply IsS137.alloc | apply IsS137.drewN | apply IsS137.drew | apply IsS137.set_0 | apply IsS137.set_1 | apply IsS137.set_2 | apply IsS137.set_3 | apply IsS137.set_4 | apply IsS137.set_5 | refine IsS137.far ?_ NB541_616.out _ | refine IsS137.far ?_ NB541_626.out _) | exact HI541.out)⟩, ⟨by repeat (first | (with_reducible first | exact HB.out | apply below_alloc | apply pw_below_drewN | apply below_drew1 | refine below_set ?_ (IsS137.ge HI541.out) | refine below_set ?_ GE616.out | refine below_set ?_ GE626.out) | exact HB.out)⟩⟩
                      ·replace c121 := Bool.eq_false_iff.mpr c121
                       subst c121
                       have H1 : (signalmanlaw09_ConnEnds.j6 k5 false false l1 (l1.length : Int) x67_5 false t670 t671 t672 t673 t674 t675) = some r := by rw [if_neg (show ¬ (false = true) by decide)] at H; exact H
                       clear H
                       have H := H1
                       clear H1
                       have H' := Aside0.mk H
                       clear H
                       have hnb128 := NB616_626.out
                       have hnc128 := NB626_616.out
                       have hnb129 := NB616_541.out
                       have hnc129 := NB541_616.out
                       have hcz130_0 : w57.cell? ⟨gb616, 0, none⟩ = some (.int .i64 ((rd_T102 l1 x67_5).f0)) := (blk_cell BK616.out 0).trans rfl
                       have hcz130_1 : w57.cell? ⟨gb616, 1, none⟩ = some (.int .i64 ((rd_T102 l1 x67_5).f1)) := (blk_cell BK616.out 1).trans rfl
                       have hcz130_2 : w57.cell? ⟨gb616, 2, none⟩ = some (.int .u64 ((rd_T102 l1 x67_5).f2)) := (blk_cell BK616.out 2).trans rfl
                       have hfz130_0 := blk_frozen BK616.out 0
                       have hfz130_1 := blk_frozen BK616.out 1
                       have hfz130_2 := blk_frozen BK616.out 2
                       go_wp2_with (first | (go_at_call 55; (with_reducible refine (conn_Conn_State.calls g541 t620 t621 t622 t623 t624 t625 t669 t670 t671 t672 t673 t674 t675 w _ ?side1 ?side2 (by first | exact A119.out | (have h_ := A119.out; exact h_))).mono ?_); (case side1 => repeat (first | (with_reducible first | exact HI541.out | apply IsS137.alloc | apply IsS137.drewN | apply IsS137.drew | apply IsS137.set_0 | apply IsS137.set_1 | apply IsS137.set_2 | apply IsS137.set_3 | apply IsS137.set_4 | apply IsS137.set_5 | refine IsS137.far ?_ NB541_616.out _ | refine IsS137.far ?_ NB541_626.out _) | exact HI541.out)); (case side2 => repeat (first | (with_reducible first | exact HB.out | apply below_alloc | apply pw_below_drewN | apply below_drew1 | refine below_set ?_ (IsS137.ge HI541.out) | refine below_set ?_ GE616.out | refine below_set ?_ GE626.out) | exact HB.out)); rintro e w131 ⟨rfl, hi, hb, hk⟩; have n0_ := Aside0.mk (KeepBut.blk hk (g' := gb616) (o := .cells #[.int .i64 ((rd_T102 l1 x67_5).f0), .int .i64 ((rd_T102 l1 x67_5).f1), .int .u64 ((rd_T102 l1 x67_5).f2)] 102 (0, 0)) (by (with_reducible repeat (first | refine blk_drewN ?_ _ | refine blk_drew ?_ | refine blk_alloc ?_ _)); refine blk_far ?_ NB616_626.out _; (with_reducible repeat (first | refine blk_drewN ?_ _ | refine blk_drew ?_ | refine blk_alloc ?_ _)); refine blk_far ?_ NB616_626.out _; (with_reducible repeat (first | refine blk_drewN ?_ _ | refine blk_drew ?_ | refine blk_alloc ?_ _)); refine blk_far ?_ NB616_626.out _; (with_reducible repeat (first | refine blk_drewN ?_ _ | refine blk_drew ?_ | refine blk_alloc ?_ _)); exact BK616.out) NB616_541.out (by simp)); have n1_ := Aside0.mk (KeepBut.blk hk (g' := gb626) (o := .cells #[.bool t617, .int .i64 t618, .int .u64 t619] 104 (0, 0)) (by (with_reducible repeat (first | refine blk_drewN ?_ _ | refine blk_drew ?_ | refine blk_alloc ?_ _)); refine blk_put (cs := #[.bool t617, .int .i64 t618, .int .u64 0]) ?_ 2 _ rfl; (with_reducible repeat (first | refine blk_drewN ?_ _ | refine blk_drew ?_ | refine blk_alloc ?_ _)); refine blk_put (cs := #[.bool t617, .int .i64 0, .int .u64 0]) ?_ 1 _ rfl; (with_reducible repeat (first | refine blk_drewN ?_ _ | refine blk_drew ?_ | refine blk_alloc ?_ _)); refine blk_put (cs := #[.bool false, .int .i64 0, .int .u64 0]) ?_ 0 _ rfl; (with_reducible repeat (first | refine blk_drewN ?_ _ | refine blk_drew ?_ | refine blk_alloc ?_ _)); exact BK626.out) NB626_541.out (by simp)); have n2_ := Aside0.mk (hb); have n3_ := Aside0.mk (hi); clear BK616; clear BK626; clear HB; clear HI541; have BK616 := n0_; have BK626 := n1_; have HB := n2_; have HI541 := n3_; clear n0_ n1_ n2_ n3_; (try clear hb); (try clear hb2); (try clear hk); (try clear hi)))
                       go_meet
                       case rel => exact ⟨_, (false), (t670), (t671), (t672), (t673), (t674), (t675), (by first | rfl | (simp; done) | (simp [*]; done)), H', ⟨by have := HJ4.out; have := HK2.out; have := HJ18.out; have := HJ22.out; have := HK5.out; first | omega | exact Nat.le_refl _⟩, ⟨by (with_reducible repeat (first | refine blk_drewN ?_ _ | refine blk_drew ?_ | refine blk_alloc ?_ _)); exact BK616.out⟩, ⟨by (with_reducible repeat (first | refine blk_drewN ?_ _ | refine blk_drew ?_ | refine blk_alloc ?_ _)); exact BK626.out⟩, ⟨by repeat (first | (with_reducible first | exact HI541.out | apply IsS137.alloc | apply IsS137.drewN | apply IsS137.drew | apply IsS137.set_0 | apply IsS137.set_1 | apply IsS137.set_2 | apply IsS137.set_3 | apply IsS137.set_4 | apply IsS137.set_5 | refine IsS137.far ?_ NB541_616.out _ | refine IsS137.far ?_ NB541_626.out _) | exact HI541.out)⟩, ⟨by repeat (first | (with_reducible first | exact HB.out | apply below_alloc | apply pw_below_drewN | apply below_drew1 | refine below_set ?_ (IsS137.ge HI541.out) | refine below_set ?_ GE616.out | refine below_set ?_ GE626.out) | exact HB.out)⟩⟩
                     ·rw [if_neg c120] at H
                      have c120b0 : (t669 == 4) = false := beq_eq_false_iff_ne.mpr c120
                      have c120b1 : (t669 != 4) = true := bne_iff_ne.mpr c120
                      have H' := Aside0.mk H
                      clear H
                      have hnb132 := NB616_626.out
                      have hnc132 := NB626_616.out
                      have hnb133 := NB616_541.out
                      have hnc133 := NB541_616.out
                      have hcz134_0 : w57.cell? ⟨gb616, 0, none⟩ = some (.int .i64 ((rd_T102 l1 x67_5).f0)) := (blk_cell BK616.out 0).trans rfl
                      have hcz134_1 : w57.cell? ⟨gb616, 1, none⟩ = some (.int .i64 ((rd_T102 l1 x67_5).f1)) := (blk_cell BK616.out 1).trans rfl
                      have hcz134_2 : w57.cell? ⟨gb616, 2, none⟩ = some (.int .u64 ((rd_T102 l1 x67_5).f2)) := (blk_cell BK616.out 2).trans rfl
                      have hfz134_0 := blk_frozen BK616.out 0
                      have hfz134_1 := blk_frozen BK616.out 1
                      have hfz134_2 := blk_frozen BK616.out 2
                      go_wp2_with (first | (go_at_call 55; (with_reducible refine (conn_Conn_State.calls g541 t620 t621 t622 t623 t624 t625 t669 t670 t671 t672 t673 t674 t675 w _ ?side1 ?side2 (by first | exact A119.out | (have h_ := A119.out; exact h_))).mono ?_); (case side1 => repeat (first | (with_reducible first | exact HI541.out | apply IsS137.alloc | apply IsS137.drewN | apply IsS137.drew | apply IsS137.set_0 | apply IsS137.set_1 | apply IsS137.set_2 | apply IsS137.set_3 | apply IsS137.set_4 | apply IsS137.set_5 | refine IsS137.far ?_ NB541_616.out _ | refine IsS137.far ?_ NB541_626.out _) | exact HI541.out)); (case side2 => repeat (first | (with_reducible first | exact HB.out | apply below_alloc | apply pw_below_drewN | apply below_drew1 | refine below_set ?_ (IsS137.ge HI541.out) | refine below_set ?_ GE616.out | refine below_set ?_ GE626.out) | exact HB.out)); rintro e w135 ⟨rfl, hi, hb, hk⟩; have n0_ := Aside0.mk (KeepBut.blk hk (g' := gb616) (o := .cells #[.int .i64 ((rd_T102 l1 x67_5).f0), .int .i64 ((rd_T102 l1 x67_5).f1), .int .u64 ((rd_T102 l1 x67_5).f2)] 102 (0, 0)) (by (with_reducible repeat (first | refine blk_drewN ?_ _ | refine blk_drew ?_ | refine blk_alloc ?_ _)); refine blk_far ?_ NB616_626.out _; (with_reducible repeat (first | refine blk_drewN ?_ _ | refine blk_drew ?_ | refine blk_alloc ?_ _)); refine blk_far ?_ NB616_626.out _; (with_reducible repeat (first | refine blk_drewN ?_ _ | refine blk_drew ?_ | refine blk_alloc ?_ _)); refine blk_far ?_ NB616_626.out _; (with_reducible repeat (first | refine blk_drewN ?_ _ | refine blk_drew ?_ | refine blk_alloc ?_ _)); exact BK616.out) NB616_541.out (by simp)); have n1_ := Aside0.mk (KeepBut.blk hk (g' := gb626) (o := .cells #[.bool t617, .int .i64 t618, .int .u64 t619] 104 (0, 0)) (by (with_reducible repeat (first | refine blk_drewN ?_ _ | refine blk_drew ?_ | refine blk_alloc ?_ _)); refine blk_put (cs := #[.bool t617, .int .i64 t618, .int .u64 0]) ?_ 2 _ rfl; (with_reducible repeat (first | refine blk_drewN ?_ _ | refine blk_drew ?_ | refine blk_alloc ?_ _)); refine blk_put (cs := #[.bool t617, .int .i64 0, .int .u64 0]) ?_ 1 _ rfl; (with_reducible repeat (first | refine blk_drewN ?_ _ | refine blk_drew ?_ | refine blk_alloc ?_ _)); refine blk_put (cs := #[.bool false, .int .i64 0, .int .u64 0]) ?_ 0 _ rfl; (with_reducible repeat (first | refine blk_drewN ?_ _ | refine blk_drew ?_ | refine blk_alloc ?_ _)); exact BK626.out) NB626_541.out (by simp)); have n2_ := Aside0.mk (hb); have n3_ := Aside0.mk (hi); clear BK616; clear BK626; clear HB; clear HI541; have BK616 := n0_; have BK626 := n1_; have HB := n2_; have HI541 := n3_; clear n0_ n1_ n2_ n3_; (try clear hb); (try clear hb2); (try clear hk); (try clear hi)))
                      go_meet
                      case rel => exact ⟨_, (true), (t670), (t671), (t672), (t673), (t674), (t675), (by first | rfl | (simp; done) | (simp [*]; done)), H', ⟨by have := HJ4.out; have := HK2.out; have := HJ18.out; have := HJ22.out; have := HK5.out; first | omega | exact Nat.le_refl _⟩, ⟨by (with_reducible repeat (first | refine blk_drewN ?_ _ | refine blk_drew ?_ | refine blk_alloc ?_ _)); exact BK616.out⟩, ⟨by (with_reducible repeat (first | refine blk_drewN ?_ _ | refine blk_drew ?_ | refine blk_alloc ?_ _)); exact BK626.out⟩, ⟨by repeat (first | (with_reducible first | exact HI541.out | apply IsS137.alloc | apply IsS137.drewN | apply IsS137.drew | apply IsS137.set_0 | apply IsS137.set_1 | apply IsS137.set_2 | apply IsS137.set_3 | apply IsS137.set_4 | apply IsS137.set_5 | refine IsS137.far ?_ NB541_616.out _ | refine IsS137.far ?_ NB541_626.out _) | exact HI541.out)⟩, ⟨by repeat (first | (with_reducible first | exact HB.out | apply below_alloc | apply pw_below_drewN | apply below_drew1 | refine below_set ?_ (IsS137.ge HI541.out) | refine below_set ?_ GE616.out | refine below_set ?_ GE626.out) | exact HB.out)⟩⟩
                    ·replace c118 := Bool.eq_false_iff.mpr c118
                     subst c118
                     have H1 : (if x10_18 = true then ((conn_Conn_State.f t620 t621 t622 t623 t624 t625).bind fun bt683 => (signalmanlaw09_ConnEnds.j6 k5 false x10_18 l1 (l1.length : Int) x67_5 (bt683.1 == 1) bt683.2.1 bt683.2.2.1 bt683.2.2.2.1 bt683.2.2.2.2.1 bt683.2.2.2.2.2.1 bt683.2.2.2.2.2.2)) else (signalmanlaw09_ConnEnds.j6 k5 false x10_18 l1 (l1.length : Int) x67_5 false t620 t621 t622 t623 t624 t625)) = some r := by rw [if_neg (show ¬ (false = true) by decide)] at H; exact H
                     clear H
                     have H := H1
                     clear H1
                     by_cases c136 : x10_18 = true
                     ·subst c136
                      have H1 : ((conn_Conn_State.f t620 t621 t622 t623 t624 t625).bind fun bt683 => (signalmanlaw09_ConnEnds.j6 k5 false true l1 (l1.length : Int) x67_5 (bt683.1 == 1) bt683.2.1 bt683.2.2.1 bt683.2.2.2.1 bt683.2.2.2.2.1 bt683.2.2.2.2.2.1 bt683.2.2.2.2.2.2)) = some r := by rw [if_pos rfl] at H; exact H
                      clear H
                      have H := H1
                      clear H1
                      replace H := Option.bind_eq_some_iff.mp H
                      obtain ⟨⟨t683, t684, t685, t686, t687, t688, t689⟩, A1370, H⟩ := H
                      replace H : (signalmanlaw09_ConnEnds.j6 k5 false true l1 (l1.length : Int) x67_5 (t683 == 1) t684 t685 t686 t687 t688 t689) = some r := H
                      have A137 := Aside0.mk A1370
                      clear A1370
                      have H' := Aside0.mk H
                      clear H
                      have hnb138 := NB616_626.out
                      have hnc138 := NB626_616.out
                      have hnb139 := NB616_541.out
                      have hnc139 := NB541_616.out
                      have hcz140_0 : w57.cell? ⟨gb616, 0, none⟩ = some (.int .i64 ((rd_T102 l1 x67_5).f0)) := (blk_cell BK616.out 0).trans rfl
                      have hcz140_1 : w57.cell? ⟨gb616, 1, none⟩ = some (.int .i64 ((rd_T102 l1 x67_5).f1)) := (blk_cell BK616.out 1).trans rfl
                      have hcz140_2 : w57.cell? ⟨gb616, 2, none⟩ = some (.int .u64 ((rd_T102 l1 x67_5).f2)) := (blk_cell BK616.out 2).trans rfl
                      have hfz140_0 := blk_frozen BK616.out 0
                      have hfz140_1 := blk_frozen BK616.out 1
                      have hfz140_2 := blk_frozen BK616.out 2
                      go_wp2_with (first | (go_at_call 55; (with_reducible refine (conn_Conn_State.calls g541 t620 t621 t622 t623 t624 t625 t683 t684 t685 t686 t687 t688 t689 w _ ?side1 ?side2 (by first | exact A137.out | (have h_ := A137.out; exact h_))).mono ?_); (case side1 => repeat (first | (with_reducible first | exact HI541.out | apply IsS137.alloc | apply IsS137.drewN | apply IsS137.drew | apply IsS137.set_0 | apply IsS137.set_1 | apply IsS137.set_2 | apply IsS137.set_3 | apply IsS137.set_4 | apply IsS137.set_5 | refine IsS137.far ?_ NB541_616.out _ | refine IsS137.far ?_ NB541_626.out _) | exact HI541.out)); (case side2 => repeat (first | (with_reducible first | exact HB.out | apply below_alloc | apply pw_below_drewN | apply below_drew1 | refine below_set ?_ (IsS137.ge HI541.out) | refine below_set ?_ GE616.out | refine below_set ?_ GE626.out) | exact HB.out)); rintro e w141 ⟨rfl, hi, hb, hk⟩; have n0_ := Aside0.mk (KeepBut.blk hk (g' := gb616) (o := .cells #[.int .i64 ((rd_T102 l1 x67_5).f0), .int .i64 ((rd_T102 l1 x67_5).f1), .int .u64 ((rd_T102 l1 x67_5).f2)] 102 (0, 0)) (by (with_reducible repeat (first | refine blk_drewN ?_ _ | refine blk_drew ?_ | refine blk_alloc ?_ _)); refine blk_far ?_ NB616_626.out _; (with_reducible repeat (first | refine blk_drewN ?_ _ | refine blk_drew ?_ | refine blk_alloc ?_ _)); refine blk_far ?_ NB616_626.out _; (with_reducible repeat (first | refine blk_drewN ?_ _ | refine blk_drew ?_ | refine blk_alloc ?_ _)); refine blk_far ?_ NB616_626.out _; (with_reducible repeat (first | refine blk_drewN ?_ _ | refine blk_drew ?_ | refine blk_alloc ?_ _)); exact BK616.out) NB616_541.out (by simp)); have n1_ := Aside0.mk (KeepBut.blk hk (g' := gb626) (o := .cells #[.bool t617, .int .i64 t618, .int .u64 t619] 104 (0, 0)) (by (with_reducible repeat (first | refine blk_drewN ?_ _ | refine blk_drew ?_ | refine blk_alloc ?_ _)); refine blk_put (cs := #[.bool t617, .int .i64 t618, .int .u64 0]) ?_ 2 _ rfl; (with_reducible repeat (first | refine blk_drewN ?_ _ | refine blk_drew ?_ | refine blk_alloc ?_ _)); refine blk_put (cs := #[.bool t617, .int .i64 0, .int .u64 0]) ?_ 1 _ rfl; (with_reducible repeat (first | refine blk_drewN ?_ _ | refine blk_drew ?_ | refine blk_alloc ?_ _)); refine blk_put (cs := #[.bool false, .int .i64 0, .int .u64 0]) ?_ 0 _ rfl; (with_reducible repeat (first | refine blk_drewN ?_ _ | refine blk_drew ?_ | refine blk_alloc ?_ _)); exact BK626.out) NB626_541.out (by simp)); have n2_ := Aside0.mk (hb); have n3_ := Aside0.mk (hi); clear BK616; clear BK626; clear HB; clear HI541; have BK616 := n0_; have BK626 := n1_; have HB := n2_; have HI541 := n3_; clear n0_ n1_ n2_ n3_; (try clear hb); (try clear hb2); (try clear hk); (try clear hi)))
                      go_meet
                      case rel => exact ⟨_, ((t683 == 1)), (t684), (t685), (t686), (t687), (t688), (t689), (by first | rfl | (simp; done) | (simp [*]; done)), H', ⟨by have := HJ4.out; have := HK2.out; have := HJ18.out; have := HJ22.out; have := HK5.out; first | omega | exact Nat.le_refl _⟩, ⟨by (with_reducible repeat (first | refine blk_drewN ?_ _ | refine blk_drew ?_ | refine blk_alloc ?_ _)); exact BK616.out⟩, ⟨by (with_reducible repeat (first | refine blk_drewN ?_ _ | refine blk_drew ?_ | refine blk_alloc ?_ _)); exact BK626.out⟩, ⟨by repeat (first | (with_reducible first | exact HI541.out | apply IsS137.alloc | apply IsS137.drewN | apply IsS137.drew | apply IsS137.set_0 | apply IsS137.set_1 | apply IsS137.set_2 | apply IsS137.set_3 | apply IsS137.set_4 | apply IsS137.set_5 | refine IsS137.far ?_ NB541_616.out _ | refine IsS137.far ?_ NB541_626.out _) | exact HI541.out)⟩, ⟨by repeat (first | (with_reducible first | exact HB.out | apply below_alloc | apply pw_below_drewN | apply below_drew1 | refine below_set ?_ (IsS137.ge HI541.out) | refine below_set ?_ GE616.out | refine below_set ?_ GE626.out) | exact HB.out)⟩⟩
                     ·replace c136 := Bool.eq_false_iff.mpr c136
                      subst c136
                      have H1 : (signalmanlaw09_ConnEnds.j6 k5 false false l1 (l1.length : Int) x67_5 false t620 t621 t622 t623 t624 t625) = some r := by rw [if_neg (show ¬ (false = true) by decide)] at H; exact H
                      clear H
                      have H := H1
                      clear H1
                      have H' := Aside0.mk H
                      clear H
                      have hnb142 := NB616_626.out
                      have hnc142 := NB626_616.out
                      have hnb143 := NB616_541.out
                      have hnc143 := NB541_616.out
                      have hcz144_0 : w57.cell? ⟨gb616, 0, none⟩ = some (.int .i64 ((rd_T102 l1 x67_5).f0)) := (blk_cell BK616.out 0).trans rfl
                      have hcz144_1 : w57.cell? ⟨gb616, 1, none⟩ = some (.int .i64 ((rd_T102 l1 x67_5).f1)) := (blk_cell BK616.out 1).trans rfl
                      have hcz144_2 : w57.cell? ⟨gb616, 2, none⟩ = some (.int .u64 ((rd_T102 l1 x67_5).f2)) := (blk_cell BK616.out 2).trans rfl
                      have hfz144_0 := blk_frozen BK616.out 0
                      have hfz144_1 := blk_frozen BK616.out 1
                      have hfz144_2 := blk_frozen BK616.out 2
                      go_wp2
                      go_meet
                      case rel => exact ⟨_, (false), (t620), (t621), (t622), (t623), (t624), (t625), (by first | rfl | (simp; done) | (simp [*]; done)), H', ⟨by have := HJ4.out; have := HK2.out; have := HJ18.out; have := HJ22.out; have := HK5.out; first | omega | exact Nat.le_refl _⟩, ⟨by (with_reducible repeat (first | refine blk_drewN ?_ _ | refine blk_drew ?_ | refine blk_alloc ?_ _)); refine blk_far ?_ NB616_626.out _; (with_reducible repeat (first | refine blk_drewN ?_ _ | refine blk_drew ?_ | refine blk_alloc ?_ _)); refine blk_far ?_ NB616_626.out _; (with_reducible repeat (first | refine blk_drewN ?_ _ | refine blk_drew ?_ | refine blk_alloc ?_ _)); refine blk_far ?_ NB616_626.out _; (with_reducible repeat (first | refine blk_drewN ?_ _ | refine blk_drew ?_ | refine blk_alloc ?_ _)); exact BK616.out⟩, ⟨by (with_reducible repeat (first | refine blk_drewN ?_ _ | refine blk_drew ?_ | refine blk_alloc ?_ _)); refine blk_put (cs := #[.bool t617, .int .i64 t618, .int .u64 0]) ?_ 2 _ rfl; (with_reducible repeat (first | refine blk_drewN ?_ _ | refine blk_drew ?_ | refine blk_alloc ?_ _)); refine blk_put (cs := #[.bool t617, .int .i64 0, .int .u64 0]) ?_ 1 _ rfl; (with_reducible repeat (first | refine blk_drewN ?_ _ | refine blk_drew ?_ | refine blk_alloc ?_ _)); refine blk_put (cs := #[.bool false, .int .i64 0, .int .u64 0]) ?_ 0 _ rfl; (with_reducible repeat (first | refine blk_drewN ?_ _ | refine blk_drew ?_ | refine blk_alloc ?_ _)); exact BK626.out⟩, ⟨by repeat (first | (with_reducible first | exact HI541.out | apply IsS137.alloc | apply IsS137.drewN | apply IsS137.drew | apply IsS137.set_0 | apply IsS137.set_1 | apply IsS137.set_2 | apply IsS137.set_3 | apply IsS137.set_4 | apply IsS137.set_5 | refine IsS137.far ?_ NB541_616.out _ | refine IsS137.far ?_ NB541_626.out _) | exact HI541.out)⟩, ⟨by repeat (first | (with_reducible first | exact HB.out | apply below_alloc | apply pw_below_drewN | apply below_drew1 | refine below_set ?_ (IsS137.ge HI541.out) | refine below_set ?_ GE616.out | refine below_set ?_ GE626.out) | exact HB.out)⟩⟩
                 case rest =>
                  clear HC52
                  try clear c1
                  try clear c2
                  try clear p2
                  try clear c3
                  try clear c4
                  try clear c5
                  try clear p5
                  try clear q5
                  try clear hx5
                  try clear c6
                  try clear p6
                  try clear q6
                  try clear hx6
                  try clear c7
                  try clear c7b0
                  try clear c7b1
                  try clear c8
                  try clear c9
                  try clear c10
                  try clear c11
                  try clear c11b0
                  try clear c12
                  try clear c12b0
                  try clear c13
                  try clear c13b0
                  try clear c14
                  try clear c16
                  try clear c20
                  try clear c24
                  try clear c29
                  try clear c29b0
                  try clear c29b1
                  try clear c36
                  try clear c36b0
                  try clear c36b1
                  try clear c45
                  try clear c48
                  try clear c48b0
                  try clear c49
                  try clear c49b0
                  try clear c50
                  try clear c50b0
                  try clear c53
                  try clear c54
                  try clear p54
                  try clear q54
                  try clear hx54
                  try clear c55
                  try clear c58
                  try clear c59
                  try clear c61
                  try clear p61
                  try clear q61
                  try clear hx61
                  try clear c62
                  try clear c64
                  try clear c64b0
                  try clear c64b1
                  try clear c65
                  try clear c71
                  try clear c74
                  try clear c74b0
                  try clear c74b1
                  try clear c75
                  try clear c75b0
                  try clear c75b1
                  try clear c76
                  try clear c77
                  try clear c79
                  try clear c81
                  try clear c83
                  try clear c83b0
                  try clear c83b1
                  try clear c84
                  try clear c86
                  try clear c87
                  try clear c89
                  try clear c93
                  try clear c94
                  try clear c96
                  try clear c99
                  try clear c100
                  try clear c102
                  try clear c105
                  try clear c107
                  try clear c108
                  try clear c110
                  try clear c113
                  try clear c114
                  try clear c116
                  try clear c118
                  try clear c120
                  try clear c120b0
                  try clear c120b1
                  try clear c121
                  try clear c123
                  try clear c124
                  try clear c128
                  try clear c129
                  try clear c132
                  try clear c133
                  try clear c136
                  try clear c138
                  try clear c139
                  try clear c142
                  try clear c143
                  try clear hcz101_0
                  try clear hcz101_1
                  try clear hcz101_2
                  try clear hcz103_0
                  try clear hcz103_1
                  try clear hcz103_2
                  try clear hcz109_0
                  try clear hcz109_1
                  try clear hcz109_2
                  try clear hcz111_0
                  try clear hcz111_1
                  try clear hcz111_2
                  try clear hcz115_0
                  try clear hcz115_1
                  try clear hcz115_2
                  try clear hcz117_0
                  try clear hcz117_1
                  try clear hcz117_2
                  try clear hcz125_0
                  try clear hcz125_1
                  try clear hcz125_2
                  try clear hcz130_0
                  try clear hcz130_1
                  try clear hcz130_2
                  try clear hcz134_0
                  try clear hcz134_1
                  try clear hcz134_2
                  try clear hcz140_0
                  try clear hcz140_1
                  try clear hcz140_2
                  try clear hcz144_0
                  try clear hcz144_1
                  try clear hcz144_2
                  try clear hcz17_0
                  try clear hcz17_1
                  try clear hcz17_2
                  try clear hcz55_0
                  try clear hcz55_1
                  try clear hcz55_2
                  try clear hcz60_0
                  try clear hcz60_1
                  try clear hcz60_2
                  try clear hcz78_0
                  try clear hcz78_1
                  try clear hcz78_2
                  try clear hcz80_0
                  try clear hcz80_1
                  try clear hcz80_2
                  try clear hcz88_0
                  try clear hcz88_1
                  try clear hcz88_2
                  try clear hcz90_0
                  try clear hcz90_1
                  try clear hcz90_2
                  try clear hcz95_0
                  try clear hcz95_1
                  try clear hcz95_2
                  try clear hcz97_0
                  try clear hcz97_1
                  try clear hcz97_2
                  try clear hfz101_0
                  try clear hfz101_1
                  try clear hfz101_2
                  try clear hfz103_0
                  try clear hfz103_1
                  try clear hfz103_2
                  try clear hfz109_0
                  try clear hfz109_1
                  try clear hfz109_2
                  try clear hfz111_0
                  try clear hfz111_1
                  try clear hfz111_2
                  try clear hfz115_0
                  try clear hfz115_1
                  try clear hfz115_2
                  try clear hfz117_0
                  try clear hfz117_1
                  try clear hfz117_2
                  try clear hfz125_0
                  try clear hfz125_1
                  try clear hfz125_2
                  try clear hfz130_0
                  try clear hfz130_1
                  try clear hfz130_2
                  try clear hfz134_0
                  try clear hfz134_1
                  try clear hfz134_2
                  try clear hfz140_0
                  try clear hfz140_1
                  try clear hfz140_2
                  try clear hfz144_0
                  try clear hfz144_1
                  try clear hfz144_2
                  try clear hfz17_0
                  try clear hfz17_1
                  try clear hfz17_2
                  try clear hfz55_0
                  try clear hfz55_1
                  try clear hfz55_2
                  try clear hfz60_0
                  try clear hfz60_1
                  try clear hfz60_2
                  try clear hfz78_0
                  try clear hfz78_1
                  try clear hfz78_2
                  try clear hfz80_0
                  try clear hfz80_1
                  try clear hfz80_2
                  try clear hfz88_0
                  try clear hfz88_1
                  try clear hfz88_2
                  try clear hfz90_0
                  try clear hfz90_1
                  try clear hfz90_2
                  try clear hfz95_0
                  try clear hfz95_1
                  try clear hfz95_2
                  try clear hfz97_0
                  try clear hfz97_1
                  try clear hfz97_2
                  try clear hx542_0
                  try clear hx542_1
                  try clear hx542_2
                  try clear hx615_0
                  try clear hx615_1
                  try clear hx615_2
                  try clear p2
                  try clear p5
                  try clear p542
                  try clear p6
                  try clear p615
                  try clear q5
                  try clear q542
                  try clear q615
                  obtain ⟨kq, x101_51, x542000_51, x542001_51, x542002_51, x542003_51, x542004_51, x542005_51, rfl, HA, HJ51, BK616, BK626, HI541, HB⟩ := hcut
                  cases kq with
                  | zero => exact absurd HA.out (by simp [signalmanlaw09_ConnEnds.j6])
                  | succ kj51 =>
                   have H := HA.out
                   clear HA
                   simp only [signalmanlaw09_ConnEnds.j6] at H
                   by_cases c145 : x101_51 = true
                   ·subst c145
                    have H1 : (some false) = some r := by rw [if_pos rfl] at H; exact H
                    clear H
                    have H := H1
                    clear H1
                    obtain rfl := Option.some.inj H
                    go_wp2
                    go_ret
                    exact ⟨by first | rfl | (simp [errW_none, errW_some] <;> rfl) | (simp [*, errW_none, errW_some] <;> rfl), by repeat (first | (with_reducible first | exact HB.out | apply below_alloc | apply pw_below_drewN | apply below_drew1 | refine below_set ?_ (IsS137.ge HI541.out) | refine below_set ?_ GE616.out | refine below_set ?_ GE626.out) | exact HB.out)⟩
                   ·replace c145 := Bool.eq_false_iff.mpr c145
                    subst c145
                    have H1 : ((conn_Conn_State.f x542000_51 x542001_51 x542002_51 x542003_51 x542004_51 x542005_51).bind fun bt690 => (signalmanlaw09_ConnEnds.l1 kj51 a2 x10_18 (bt690.1 == 4) l1 (l1.length : Int) (wrap64 (x67_5 + 1)) bt690.2.1 bt690.2.2.1 bt690.2.2.2.1 bt690.2.2.2.2.1 bt690.2.2.2.2.2.1 bt690.2.2.2.2.2.2)) = some r := by rw [if_neg (show ¬ (false = true) by decide)] at H; exact H
                    clear H
                    have H := H1
                    clear H1
                    replace H := Option.bind_eq_some_iff.mp H
                    obtain ⟨⟨t690, t691, t692, t693, t694, t695, t696⟩, A1460, H⟩ := H
                    replace H : (signalmanlaw09_ConnEnds.l1 kj51 a2 x10_18 (t690 == 4) l1 (l1.length : Int) (wrap64 (x67_5 + 1)) t691 t692 t693 t694 t695 t696) = some r := H
                    have A146 := Aside0.mk A1460
                    clear A1460
                    have H' := Aside0.mk H
                    clear H
                    go_wp2_with (first | ((with_reducible refine gate_callee (f := 55) rfl ?_); refine goesL_ (some 103) rfl rfl Try.func55 (by kernel_rfl) rfl #[.pointer (some ⟨g541, 0, none⟩)] rfl (by (try simp only [List.map_toArray, List.map_cons, List.map_nil]); first | done | rfl | (simp only [List.length_drop, List.length_take]; rfl)) ?_; (with_reducible refine (conn_Conn_State.calls g541 x542000_51 x542001_51 x542002_51 x542003_51 x542004_51 x542005_51 t690 t691 t692 t693 t694 t695 t696 w _ ?side1 ?side2 (by first | exact A146.out | (have h_ := A146.out; exact h_))).mono ?_); (case side1 => repeat (first | (with_reducible first | exact HI541.out | apply IsS137.alloc | apply IsS137.drewN | apply IsS137.drew | apply IsS137.set_0 | apply IsS137.set_1 | apply IsS137.set_2 | apply IsS137.set_3 | apply IsS137.set_4 | apply IsS137.set_5 | refine IsS137.far ?_ NB541_616.out _ | refine IsS137.far ?_ NB541_626.out _) | exact HI541.out)); (case side2 => repeat (first | (with_reducible first | exact HB.out | apply below_alloc | apply pw_below_drewN | apply below_drew1 | refine below_set ?_ (IsS137.ge HI541.out) | refine below_set ?_ GE616.out | refine below_set ?_ GE626.out) | exact HB.out)); rintro e w147 ⟨rfl, hi, hb, hk⟩; refine ⟨_, rfl, ?_⟩; have n0_ := Aside0.mk (KeepBut.blk hk (g' := gb616) (o := .cells #[.int .i64 ((rd_T102 l1 x67_5).f0), .int .i64 ((rd_T102 l1 x67_5).f1), .int .u64 ((rd_T102 l1 x67_5).f2)] 102 (0, 0)) (by (with_reducible repeat (first | refine blk_drewN ?_ _ | refine blk_drew ?_ | refine blk_alloc ?_ _)); exact BK616.out) NB616_541.out (by simp)); have n1_ := Aside0.mk (KeepBut.blk hk (g' := gb626) (o := .cells #[.bool t617, .int .i64 t618, .int .u64 t619] 104 (0, 0)) (by (with_reducible repeat (first | refine blk_drewN ?_ _ | refine blk_drew ?_ | refine blk_alloc ?_ _)); exact BK626.out) NB626_541.out (by simp)); have n2_ := Aside0.mk (hb); have n3_ := Aside0.mk (hi); clear BK616; clear BK626; clear HB; clear HI541; have BK616 := n0_; have BK626 := n1_; have HB := n2_; have HI541 := n3_; clear n0_ n1_ n2_ n3_; (try clear hb); (try clear hb2); (try clear hk); (try clear hi)))
                    go_roundg kj51
                    case measure => have := HJ4.out; have := HK2.out; have := HJ18.out; have := HJ22.out; have := HK5.out; have := HJ51.out; omega
                    case rel => exact ⟨((t690 == 4)), (wrap64 (x67_5 + 1)), (t691), (t692), (t693), (t694), (t695), (t696), (by first | rfl | (simp; done) | (simp [*]; done)), (by first | rfl | (simp; done) | (simp [*]; done)), H', ⟨by have := HJ4.out; have := HK2.out; have := HJ18.out; have := HJ22.out; have := HK5.out; have := HJ51.out; omega⟩, ⟨by repeat (first | (with_reducible first | exact HI541.out | apply IsS137.alloc | apply IsS137.drewN | apply IsS137.drew | apply IsS137.set_0 | apply IsS137.set_1 | apply IsS137.set_2 | apply IsS137.set_3 | apply IsS137.set_4 | apply IsS137.set_5 | refine IsS137.far ?_ NB541_616.out _ | refine IsS137.far ?_ NB541_626.out _) | exact HI541.out)⟩, ⟨by repeat (first | (with_reducible first | exact HB.out | apply below_alloc | apply pw_below_drewN | apply below_drew1 | refine below_set ?_ (IsS137.ge HI541.out) | refine below_set ?_ GE616.out | refine below_set ?_ GE626.out) | exact HB.out)⟩⟩
                ·rw [if_neg c50] at H
                 exact absurd H (by simp)
               ·rw [if_neg c49] at H
                exact absurd H (by simp)
              ·rw [if_neg c48] at H
               have c48b0 : decide (x67_5 < (l1.length : Int)) = false := decide_eq_false c48
               clear c48
               obtain rfl := Option.some.inj H
               go_wp2
               go_ret
               exact ⟨by first | rfl | (simp [errW_none, errW_some] <;> rfl) | (simp [*, errW_none, errW_some] <;> rfl), by repeat (first | (with_reducible first | exact HB.out | apply below_alloc | apply pw_below_drewN | apply below_drew1 | refine below_set ?_ (IsS137.ge HI541.out)) | exact HB.out)⟩

end Go.Proofs.Ytagmefjpnmjcjaa.Co
