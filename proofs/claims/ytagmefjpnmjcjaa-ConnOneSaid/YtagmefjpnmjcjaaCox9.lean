-- By a program of this session (wip/pp: a turned copy of the kit's print) out of the translation; Lean checks it.
import Derived.Test.YtagmefjpnmjcjaaCox0
import Derived.Test.YtagmefjpnmjcjaaCox1
import Derived.Test.YtagmefjpnmjcjaaCox2
import Derived.Test.YtagmefjpnmjcjaaCox6
import Derived.Test.YtagmefjpnmjcjaaCox7
import Derived.Test.YtagmefjpnmjcjaaCoHand
namespace Go.Proofs.Ytagmefjpnmjcjaa.Co
open Go.RowKit Go.Proofs.YtagmefjpnmjcjaaW.PrintWords Go.Proofs.YtagmefjpnmjcjaaW.PrintLast Go.Proofs.YtagmefjpnmjcjaaW.PrintMore
attribute [local go_sem] max2_int min2_int max_two min_two max_three min_three max_four min_four   -- for this text's walks alone
set_option linter.unusedVariables false
set_option linter.unusedSimpArgs false

/-! ### signalmanlaw09_ConnOne: function 13 -/
mutual
def signalmanlaw09_ConnOne.l0 : Nat → Int → List (S102) → Int → Int → Int → Int → Int → Int → Bool → Bool → Option (Bool)
  | 0, _, _, _, _, _, _, _, _, _, _ => none
  | k + 1, x4, x18, x19, x20, x445000, x445001, x445002, x445003, x445004, x445005 => if x20 < x19 then (if 0 ≤ x20 then (if x20 < (x18.length : Int) then ((conn_Conn_Owner.f x445000 x445001 x445002 x445003 x445004 x445005).bind fun bt447 => ((conn_Conn_Flight.f bt447.2.1 bt447.2.2.1 bt447.2.2.2.1 bt447.2.2.2.2.1 bt447.2.2.2.2.2.1 bt447.2.2.2.2.2.2).bind fun bt454 => ((conn_Conn_State.f bt454.2.1 bt454.2.2.1 bt454.2.2.2.1 bt454.2.2.2.2.1 bt454.2.2.2.2.2.1 bt454.2.2.2.2.2.2).bind fun bt461 => ((signalmanlaw09_do.f k bt461.2.1 bt461.2.2.1 bt461.2.2.2.1 bt461.2.2.2.2.1 bt461.2.2.2.2.2.1 bt461.2.2.2.2.2.2 ((rd_T102 x18 x20).f0) ((rd_T102 x18 x20).f1) ((rd_T102 x18 x20).f2)).bind fun bt468 => ((conn_Conn_Owner.f bt468.2.2.2.1 bt468.2.2.2.2.1 bt468.2.2.2.2.2.1 bt468.2.2.2.2.2.2.1 bt468.2.2.2.2.2.2.2.1 bt468.2.2.2.2.2.2.2.2).bind fun bt478 => (if bt447.1 = bt478.1 then (signalmanlaw09_ConnOne.j1 k x4 bt447.1 bt454.1 bt461.1 bt478.1 x18 x19 x20 false bt478.2.1 bt478.2.2.1 bt478.2.2.2.1 bt478.2.2.2.2.1 bt478.2.2.2.2.2.1 bt478.2.2.2.2.2.2 ((rd_T102 x18 x20).f0) ((rd_T102 x18 x20).f1) ((rd_T102 x18 x20).f2) bt468.1 bt468.2.1 bt468.2.2.1) else (if bt447.1 = 0 then (signalmanlaw09_ConnOne.j1 k x4 bt447.1 bt454.1 bt461.1 bt478.1 x18 x19 x20 false bt478.2.1 bt478.2.2.1 bt478.2.2.2.1 bt478.2.2.2.2.1 bt478.2.2.2.2.2.1 bt478.2.2.2.2.2.2 ((rd_T102 x18 x20).f0) ((rd_T102 x18 x20).f1) ((rd_T102 x18 x20).f2) bt468.1 bt468.2.1 bt468.2.2.1) else (signalmanlaw09_ConnOne.j1 k x4 bt447.1 bt454.1 bt461.1 bt478.1 x18 x19 x20 (bt478.1 != 0) bt478.2.1 bt478.2.2.1 bt478.2.2.2.1 bt478.2.2.2.2.1 bt478.2.2.2.2.2.1 bt478.2.2.2.2.2.2 ((rd_T102 x18 x20).f0) ((rd_T102 x18 x20).f1) ((rd_T102 x18 x20).f2) bt468.1 bt468.2.1 bt468.2.2.1)))))))) else (none)) else (none)) else (some true)
def signalmanlaw09_ConnOne.j1 : Nat → Int → Int → Int → Int → Int → List (S102) → Int → Int → Bool → Int → Int → Int → Int → Bool → Bool → Int → Int → Int → Bool → Int → Int → Option (Bool)
  | 0, _, _, _, _, _, _, _, _, _, _, _, _, _, _, _, _, _, _, _, _, _ => none
  | k + 1, x4, x7, x8, x9, x11, x18, x19, x20, x45, x445000, x445001, x445002, x445003, x445004, x445005, x447000, x447001, x447002, x478000, x478001, x478002 => if x45 = true then (some false) else (if x11 = 0 then (signalmanlaw09_ConnOne.j2 k x4 x7 x8 x11 x18 x19 x20 false x445000 x445001 x445002 x445003 x445004 x445005 x447000 x447001 x447002 x478000 x478001 x478002) else (if x7 = 0 then (if x447000 = 0 then (if x478000 = true then (if x11 = x447001 then (signalmanlaw09_ConnOne.j2 k x4 x7 x8 x11 x18 x19 x20 (x9 != 1) x445000 x445001 x445002 x445003 x445004 x445005 x447000 x447001 x447002 x478000 x478001 x478002) else (signalmanlaw09_ConnOne.j2 k x4 x7 x8 x11 x18 x19 x20 true x445000 x445001 x445002 x445003 x445004 x445005 x447000 x447001 x447002 x478000 x478001 x478002)) else (signalmanlaw09_ConnOne.j2 k x4 x7 x8 x11 x18 x19 x20 true x445000 x445001 x445002 x445003 x445004 x445005 x447000 x447001 x447002 x478000 x478001 x478002)) else (signalmanlaw09_ConnOne.j2 k x4 x7 x8 x11 x18 x19 x20 true x445000 x445001 x445002 x445003 x445004 x445005 x447000 x447001 x447002 x478000 x478001 x478002)) else (signalmanlaw09_ConnOne.j2 k x4 x7 x8 x11 x18 x19 x20 false x445000 x445001 x445002 x445003 x445004 x445005 x447000 x447001 x447002 x478000 x478001 x478002)))
def signalmanlaw09_ConnOne.j2 : Nat → Int → Int → Int → Int → List (S102) → Int → Int → Bool → Int → Int → Int → Int → Bool → Bool → Int → Int → Int → Bool → Int → Int → Option (Bool)
  | 0, _, _, _, _, _, _, _, _, _, _, _, _, _, _, _, _, _, _, _, _ => none
  | k + 1, x4, x7, x8, x11, x18, x19, x20, x71, x445000, x445001, x445002, x445003, x445004, x445005, x447000, x447001, x447002, x478000, x478001, x478002 => if x71 = true then (some false) else (if x447000 = 1 then (signalmanlaw09_ConnOne.j3 k x4 x7 x8 x11 x18 x19 x20 (x478001 == 0) x445000 x445001 x445002 x445003 x445004 x445005 x447000 x447001 x447002 x478000 x478001 x478002) else (signalmanlaw09_ConnOne.j3 k x4 x7 x8 x11 x18 x19 x20 false x445000 x445001 x445002 x445003 x445004 x445005 x447000 x447001 x447002 x478000 x478001 x478002))
def signalmanlaw09_ConnOne.j3 : Nat → Int → Int → Int → Int → List (S102) → Int → Int → Bool → Int → Int → Int → Int → Bool → Bool → Int → Int → Int → Bool → Int → Int → Option (Bool)
  | 0, _, _, _, _, _, _, _, _, _, _, _, _, _, _, _, _, _, _, _, _ => none
  | k + 1, x4, x7, x8, x11, x18, x19, x20, x79, x445000, x445001, x445002, x445003, x445004, x445005, x447000, x447001, x447002, x478000, x478001, x478002 => if x79 = true then (if x7 = 0 then (signalmanlaw09_ConnOne.j4 k (wrap64 (x4 + 1)) x8 x11 x18 x19 x20 true x445000 x445001 x445002 x445003 x445004 x445005 x447000 x447001 x447002 x478000 x478001 x478002) else (if x8 = 0 then ((conn_Conn_Flight.f x445000 x445001 x445002 x445003 x445004 x445005).bind fun bt485 => (signalmanlaw09_ConnOne.j4 k (wrap64 (x4 + 1)) x8 x11 x18 x19 x20 (bt485.1 != x447002) bt485.2.1 bt485.2.2.1 bt485.2.2.2.1 bt485.2.2.2.2.1 bt485.2.2.2.2.2.1 bt485.2.2.2.2.2.2 x447000 x447001 x447002 x478000 x478001 x478002)) else (signalmanlaw09_ConnOne.j4 k (wrap64 (x4 + 1)) x8 x11 x18 x19 x20 true x445000 x445001 x445002 x445003 x445004 x445005 x447000 x447001 x447002 x478000 x478001 x478002))) else (signalmanlaw09_ConnOne.j5 k x4 x8 x11 x18 x19 x20 x445000 x445001 x445002 x445003 x445004 x445005 x447000 x447001 x447002 x478000 x478001 x478002)
def signalmanlaw09_ConnOne.j5 : Nat → Int → Int → Int → List (S102) → Int → Int → Int → Int → Int → Int → Bool → Bool → Int → Int → Int → Bool → Int → Int → Option (Bool)
  | 0, _, _, _, _, _, _, _, _, _, _, _, _, _, _, _, _, _, _ => none
  | k + 1, x4, x8, x11, x18, x19, x20, x445000, x445001, x445002, x445003, x445004, x445005, x447000, x447001, x447002, x478000, x478001, x478002 => if x447000 = 2 then (if x8 = 0 then (if (x478000 != false) = true then (signalmanlaw09_ConnOne.j6 k x4 x18 x19 x20 true x445000 x445001 x445002 x445003 x445004 x445005) else ((conn_Conn_Sent.f x445000 x445001 x445002 x445003 x445004 x445005).bind fun bt492 => (if bt492.1 = x4 then ((conn_Conn_Flight.f bt492.2.1 bt492.2.2.1 bt492.2.2.2.1 bt492.2.2.2.2.1 bt492.2.2.2.2.2.1 bt492.2.2.2.2.2.2).bind fun bt499 => (if bt499.1 = 0 then (signalmanlaw09_ConnOne.j6 k x4 x18 x19 x20 false bt499.2.1 bt499.2.2.1 bt499.2.2.2.1 bt499.2.2.2.2.1 bt499.2.2.2.2.2.1 bt499.2.2.2.2.2.2) else (signalmanlaw09_ConnOne.j6 k x4 x18 x19 x20 (x11 == 0) bt499.2.1 bt499.2.2.1 bt499.2.2.2.1 bt499.2.2.2.2.1 bt499.2.2.2.2.2.1 bt499.2.2.2.2.2.2))) else (signalmanlaw09_ConnOne.j6 k x4 x18 x19 x20 true bt492.2.1 bt492.2.2.1 bt492.2.2.2.1 bt492.2.2.2.2.1 bt492.2.2.2.2.2.1 bt492.2.2.2.2.2.2)))) else (if (x478000 != (x8 == x447002)) = true then (signalmanlaw09_ConnOne.j6 k x4 x18 x19 x20 true x445000 x445001 x445002 x445003 x445004 x445005) else ((conn_Conn_Sent.f x445000 x445001 x445002 x445003 x445004 x445005).bind fun bt506 => (if bt506.1 = x4 then ((conn_Conn_Flight.f bt506.2.1 bt506.2.2.1 bt506.2.2.2.1 bt506.2.2.2.2.1 bt506.2.2.2.2.2.1 bt506.2.2.2.2.2.2).bind fun bt513 => (if bt513.1 = 0 then (signalmanlaw09_ConnOne.j6 k x4 x18 x19 x20 false bt513.2.1 bt513.2.2.1 bt513.2.2.2.1 bt513.2.2.2.2.1 bt513.2.2.2.2.2.1 bt513.2.2.2.2.2.2) else (signalmanlaw09_ConnOne.j6 k x4 x18 x19 x20 (x11 == 0) bt513.2.1 bt513.2.2.1 bt513.2.2.2.1 bt513.2.2.2.2.1 bt513.2.2.2.2.2.1 bt513.2.2.2.2.2.2))) else (signalmanlaw09_ConnOne.j6 k x4 x18 x19 x20 true bt506.2.1 bt506.2.2.1 bt506.2.2.2.1 bt506.2.2.2.2.1 bt506.2.2.2.2.2.1 bt506.2.2.2.2.2.2))))) else ((conn_Conn_Sent.f x445000 x445001 x445002 x445003 x445004 x445005).bind fun bt520 => (if bt520.1 = x4 then ((conn_Conn_Flight.f bt520.2.1 bt520.2.2.1 bt520.2.2.2.1 bt520.2.2.2.2.1 bt520.2.2.2.2.2.1 bt520.2.2.2.2.2.2).bind fun bt527 => (if bt527.1 = 0 then (signalmanlaw09_ConnOne.j6 k x4 x18 x19 x20 false bt527.2.1 bt527.2.2.1 bt527.2.2.2.1 bt527.2.2.2.2.1 bt527.2.2.2.2.2.1 bt527.2.2.2.2.2.2) else (signalmanlaw09_ConnOne.j6 k x4 x18 x19 x20 (x11 == 0) bt527.2.1 bt527.2.2.1 bt527.2.2.2.1 bt527.2.2.2.2.1 bt527.2.2.2.2.2.1 bt527.2.2.2.2.2.2))) else (signalmanlaw09_ConnOne.j6 k x4 x18 x19 x20 true bt520.2.1 bt520.2.2.1 bt520.2.2.2.1 bt520.2.2.2.2.1 bt520.2.2.2.2.2.1 bt520.2.2.2.2.2.2)))
def signalmanlaw09_ConnOne.j6 : Nat → Int → List (S102) → Int → Int → Bool → Int → Int → Int → Int → Bool → Bool → Option (Bool)
  | 0, _, _, _, _, _, _, _, _, _, _, _ => none
  | k + 1, x4, x18, x19, x20, x125, x445000, x445001, x445002, x445003, x445004, x445005 => if x125 = true then (some false) else (signalmanlaw09_ConnOne.l0 k x4 x18 x19 (wrap64 (x20 + 1)) x445000 x445001 x445002 x445003 x445004 x445005)
def signalmanlaw09_ConnOne.j4 : Nat → Int → Int → Int → List (S102) → Int → Int → Bool → Int → Int → Int → Int → Bool → Bool → Int → Int → Int → Bool → Int → Int → Option (Bool)
  | 0, _, _, _, _, _, _, _, _, _, _, _, _, _, _, _, _, _, _, _ => none
  | k + 1, x4, x8, x11, x18, x19, x20, x94, x445000, x445001, x445002, x445003, x445004, x445005, x447000, x447001, x447002, x478000, x478001, x478002 => if x94 = true then (some false) else (signalmanlaw09_ConnOne.j5 k x4 x8 x11 x18 x19 x20 x445000 x445001 x445002 x445003 x445004 x445005 x447000 x447001 x447002 x478000 x478001 x478002)
end
def signalmanlaw09_ConnOne.f (k : Nat) (l0 : List (S102)) : Option (Bool) := (signalmanlaw09_awake.f k).bind fun _ => (if (l0.length : Int) > 200 then (some true) else ((conn_New.f 1).bind fun bt438 => (signalmanlaw09_ConnOne.l0 k 0 l0 (l0.length : Int) 0 bt438.1 bt438.2.1 bt438.2.2.1 bt438.2.2.2.1 bt438.2.2.2.2.1 bt438.2.2.2.2.2)))
theorem signalmanlaw09_ConnOne.mono_l : ∀ k, (∀ y0 y1 y2 y3 y4 y5 y6 y7 y8 y9, LeO (signalmanlaw09_ConnOne.l0 k y0 y1 y2 y3 y4 y5 y6 y7 y8 y9) (signalmanlaw09_ConnOne.l0 (k + 1) y0 y1 y2 y3 y4 y5 y6 y7 y8 y9)) ∧ (∀ y0 y1 y2 y3 y4 y5 y6 y7 y8 y9 y10 y11 y12 y13 y14 y15 y16 y17 y18 y19 y20, LeO (signalmanlaw09_ConnOne.j1 k y0 y1 y2 y3 y4 y5 y6 y7 y8 y9 y10 y11 y12 y13 y14 y15 y16 y17 y18 y19 y20) (signalmanlaw09_ConnOne.j1 (k + 1) y0 y1 y2 y3 y4 y5 y6 y7 y8 y9 y10 y11 y12 y13 y14 y15 y16 y17 y18 y19 y20)) ∧ (∀ y0 y1 y2 y3 y4 y5 y6 y7 y8 y9 y10 y11 y12 y13 y14 y15 y16 y17 y18 y19, LeO (signalmanlaw09_ConnOne.j2 k y0 y1 y2 y3 y4 y5 y6 y7 y8 y9 y10 y11 y12 y13 y14 y15 y16 y17 y18 y19) (signalmanlaw09_ConnOne.j2 (k + 1) y0 y1 y2 y3 y4 y5 y6 y7 y8 y9 y10 y11 y12 y13 y14 y15 y16 y17 y18 y19)) ∧ (∀ y0 y1 y2 y3 y4 y5 y6 y7 y8 y9 y10 y11 y12 y13 y14 y15 y16 y17 y18 y19, LeO (signalmanlaw09_ConnOne.j3 k y0 y1 y2 y3 y4 y5 y6 y7 y8 y9 y10 y11 y12 y13 y14 y15 y16 y17 y18 y19) (signalmanlaw09_ConnOne.j3 (k + 1) y0 y1 y2 y3 y4 y5 y6 y7 y8 y9 y10 y11 y12 y13 y14 y15 y16 y17 y18 y19)) ∧ (∀ y0 y1 y2 y3 y4 y5 y6 y7 y8 y9 y10 y11 y12 y13 y14 y15 y16 y17, LeO (signalmanlaw09_ConnOne.j5 k y0 y1 y2 y3 y4 y5 y6 y7 y8 y9 y10 y11 y12 y13 y14 y15 y16 y17) (signalmanlaw09_ConnOne.j5 (k + 1) y0 y1 y2 y3 y4 y5 y6 y7 y8 y9 y10 y11 y12 y13 y14 y15 y16 y17)) ∧ (∀ y0 y1 y2 y3 y4 y5 y6 y7 y8 y9 y10, LeO (signalmanlaw09_ConnOne.j6 k y0 y1 y2 y3 y4 y5 y6 y7 y8 y9 y10) (signalmanlaw09_ConnOne.j6 (k + 1) y0 y1 y2 y3 y4 y5 y6 y7 y8 y9 y10)) ∧ (∀ y0 y1 y2 y3 y4 y5 y6 y7 y8 y9 y10 y11 y12 y13 y14 y15 y16 y17 y18, LeO (signalmanlaw09_ConnOne.j4 k y0 y1 y2 y3 y4 y5 y6 y7 y8 y9 y10 y11 y12 y13 y14 y15 y16 y17 y18) (signalmanlaw09_ConnOne.j4 (k + 1) y0 y1 y2 y3 y4 y5 y6 y7 y8 y9 y10 y11 y12 y13 y14 y15 y16 y17 y18))
  | 0 => ⟨fun _ _ _ _ _ _ _ _ _ _ r h => by simp [signalmanlaw09_ConnOne.l0] at h, fun _ _ _ _ _ _ _ _ _ _ _ _ _ _ _ _ _ _ _ _ _ r h => by simp [signalmanlaw09_ConnOne.j1] at h, fun _ _ _ _ _ _ _ _ _ _ _ _ _ _ _ _ _ _ _ _ r h => by simp [signalmanlaw09_ConnOne.j2] at h, fun _ _ _ _ _ _ _ _ _ _ _ _ _ _ _ _ _ _ _ _ r h => by simp [signalmanlaw09_ConnOne.j3] at h, fun _ _ _ _ _ _ _ _ _ _ _ _ _ _ _ _ _ _ r h => by simp [signalmanlaw09_ConnOne.j5] at h, fun _ _ _ _ _ _ _ _ _ _ _ r h => by simp [signalmanlaw09_ConnOne.j6] at h, fun _ _ _ _ _ _ _ _ _ _ _ _ _ _ _ _ _ _ _ r h => by simp [signalmanlaw09_ConnOne.j4] at h⟩
  | k + 1 => by
    obtain ⟨ih0, ih1, ih2, ih3, ih4, ih5, ih6⟩ := signalmanlaw09_ConnOne.mono_l k
    refine ⟨?_, ?_, ?_, ?_, ?_, ?_, ?_⟩
    · intro y0 y1 y2 y3 y4 y5 y6 y7 y8 y9
      unfold signalmanlaw09_ConnOne.l0
      repeat' first
      | (with_reducible exact ih0 _ _ _ _ _ _ _ _ _ _)
      | (with_reducible exact ih1 _ _ _ _ _ _ _ _ _ _ _ _ _ _ _ _ _ _ _ _ _)
      | (with_reducible exact ih2 _ _ _ _ _ _ _ _ _ _ _ _ _ _ _ _ _ _ _ _)
      | (with_reducible exact ih3 _ _ _ _ _ _ _ _ _ _ _ _ _ _ _ _ _ _ _ _)
      | (with_reducible exact ih4 _ _ _ _ _ _ _ _ _ _ _ _ _ _ _ _ _ _)
      | (with_reducible exact ih5 _ _ _ _ _ _ _ _ _ _ _)
      | (with_reducible exact ih6 _ _ _ _ _ _ _ _ _ _ _ _ _ _ _ _ _ _ _)
      | (with_reducible exact signalmanlaw09_awake.mono _)
      | (with_reducible exact signalmanlaw09_do.mono _ _ _ _ _ _ _ _ _ _)
      | (with_reducible exact LeO.refl _)
      | (with_reducible exact LeO.none _)
      | (with_reducible refine LeO.ite ?_ ?_)
      | (with_reducible refine LeO.bind ?_ (fun _ => ?_))
      | exact ih0 _ _ _ _ _ _ _ _ _ _
      | exact ih1 _ _ _ _ _ _ _ _ _ _ _ _ _ _ _ _ _ _ _ _ _
      | exact ih2 _ _ _ _ _ _ _ _ _ _ _ _ _ _ _ _ _ _ _ _
      | exact ih3 _ _ _ _ _ _ _ _ _ _ _ _ _ _ _ _ _ _ _ _
      | exact ih4 _ _ _ _ _ _ _ _ _ _ _ _ _ _ _ _ _ _
      | exact ih5 _ _ _ _ _ _ _ _ _ _ _
      | exact ih6 _ _ _ _ _ _ _ _ _ _ _ _ _ _ _ _ _ _ _
      | exact signalmanlaw09_awake.mono _
      | exact signalmanlaw09_do.mono _ _ _ _ _ _ _ _ _ _
      | exact LeO.none _
      | refine LeO.ite ?_ ?_
      | refine LeO.bind ?_ (fun _ => ?_)
    · intro y0 y1 y2 y3 y4 y5 y6 y7 y8 y9 y10 y11 y12 y13 y14 y15 y16 y17 y18 y19 y20
      unfold signalmanlaw09_ConnOne.j1
      repeat' first
      | (with_reducible exact ih0 _ _ _ _ _ _ _ _ _ _)
      | (with_reducible exact ih1 _ _ _ _ _ _ _ _ _ _ _ _ _ _ _ _ _ _ _ _ _)
      | (with_reducible exact ih2 _ _ _ _ _ _ _ _ _ _ _ _ _ _ _ _ _ _ _ _)
      | (with_reducible exact ih3 _ _ _ _ _ _ _ _ _ _ _ _ _ _ _ _ _ _ _ _)
      | (with_reducible exact ih4 _ _ _ _ _ _ _ _ _ _ _ _ _ _ _ _ _ _)
      | (with_reducible exact ih5 _ _ _ _ _ _ _ _ _ _ _)
      | (with_reducible exact ih6 _ _ _ _ _ _ _ _ _ _ _ _ _ _ _ _ _ _ _)
      | (with_reducible exact signalmanlaw09_awake.mono _)
      | (with_reducible exact signalmanlaw09_do.mono _ _ _ _ _ _ _ _ _ _)
      | (with_reducible exact LeO.refl _)
      | (with_reducible exact LeO.none _)
      | (with_reducible refine LeO.ite ?_ ?_)
      | (with_reducible refine LeO.bind ?_ (fun _ => ?_))
      | exact ih0 _ _ _ _ _ _ _ _ _ _
      | exact ih1 _ _ _ _ _ _ _ _ _ _ _ _ _ _ _ _ _ _ _ _ _
      | exact ih2 _ _ _ _ _ _ _ _ _ _ _ _ _ _ _ _ _ _ _ _
      | exact ih3 _ _ _ _ _ _ _ _ _ _ _ _ _ _ _ _ _ _ _ _
      | exact ih4 _ _ _ _ _ _ _ _ _ _ _ _ _ _ _ _ _ _
      | exact ih5 _ _ _ _ _ _ _ _ _ _ _
      | exact ih6 _ _ _ _ _ _ _ _ _ _ _ _ _ _ _ _ _ _ _
      | exact signalmanlaw09_awake.mono _
      | exact signalmanlaw09_do.mono _ _ _ _ _ _ _ _ _ _
      | exact LeO.none _
      | refine LeO.ite ?_ ?_
      | refine LeO.bind ?_ (fun _ => ?_)
    · intro y0 y1 y2 y3 y4 y5 y6 y7 y8 y9 y10 y11 y12 y13 y14 y15 y16 y17 y18 y19
      unfold signalmanlaw09_ConnOne.j2
      repeat' first
      | (with_reducible exact ih0 _ _ _ _ _ _ _ _ _ _)
      | (with_reducible exact ih1 _ _ _ _ _ _ _ _ _ _ _ _ _ _ _ _ _ _ _ _ _)
      | (with_reducible exact ih2 _ _ _ _ _ _ _ _ _ _ _ _ _ _ _ _ _ _ _ _)
      | (with_reducible exact ih3 _ _ _ _ _ _ _ _ _ _ _ _ _ _ _ _ _ _ _ _)
      | (with_reducible exact ih4 _ _ _ _ _ _ _ _ _ _ _ _ _ _ _ _ _ _)
      | (with_reducible exact ih5 _ _ _ _ _ _ _ _ _ _ _)
      | (with_reducible exact ih6 _ _ _ _ _ _ _ _ _ _ _ _ _ _ _ _ _ _ _)
      | (with_reducible exact signalmanlaw09_awake.mono _)
      | (with_reducible exact signalmanlaw09_do.mono _ _ _ _ _ _ _ _ _ _)
      | (with_reducible exact LeO.refl _)
      | (with_reducible exact LeO.none _)
      | (with_reducible refine LeO.ite ?_ ?_)
      | (with_reducible refine LeO.bind ?_ (fun _ => ?_))
      | exact ih0 _ _ _ _ _ _ _ _ _ _
      | exact ih1 _ _ _ _ _ _ _ _ _ _ _ _ _ _ _ _ _ _ _ _ _
      | exact ih2 _ _ _ _ _ _ _ _ _ _ _ _ _ _ _ _ _ _ _ _
      | exact ih3 _ _ _ _ _ _ _ _ _ _ _ _ _ _ _ _ _ _ _ _
      | exact ih4 _ _ _ _ _ _ _ _ _ _ _ _ _ _ _ _ _ _
      | exact ih5 _ _ _ _ _ _ _ _ _ _ _
      | exact ih6 _ _ _ _ _ _ _ _ _ _ _ _ _ _ _ _ _ _ _
      | exact signalmanlaw09_awake.mono _
      | exact signalmanlaw09_do.mono _ _ _ _ _ _ _ _ _ _
      | exact LeO.none _
      | refine LeO.ite ?_ ?_
      | refine LeO.bind ?_ (fun _ => ?_)
    · intro y0 y1 y2 y3 y4 y5 y6 y7 y8 y9 y10 y11 y12 y13 y14 y15 y16 y17 y18 y19
      unfold signalmanlaw09_ConnOne.j3
      repeat' first
      | (with_reducible exact ih0 _ _ _ _ _ _ _ _ _ _)
      | (with_reducible exact ih1 _ _ _ _ _ _ _ _ _ _ _ _ _ _ _ _ _ _ _ _ _)
      | (with_reducible exact ih2 _ _ _ _ _ _ _ _ _ _ _ _ _ _ _ _ _ _ _ _)
      | (with_reducible exact ih3 _ _ _ _ _ _ _ _ _ _ _ _ _ _ _ _ _ _ _ _)
      | (with_reducible exact ih4 _ _ _ _ _ _ _ _ _ _ _ _ _ _ _ _ _ _)
      | (with_reducible exact ih5 _ _ _ _ _ _ _ _ _ _ _)
      | (with_reducible exact ih6 _ _ _ _ _ _ _ _ _ _ _ _ _ _ _ _ _ _ _)
      | (with_reducible exact signalmanlaw09_awake.mono _)
      | (with_reducible exact signalmanlaw09_do.mono _ _ _ _ _ _ _ _ _ _)
      | (with_reducible exact LeO.refl _)
      | (with_reducible exact LeO.none _)
      | (with_reducible refine LeO.ite ?_ ?_)
      | (with_reducible refine LeO.bind ?_ (fun _ => ?_))
      | exact ih0 _ _ _ _ _ _ _ _ _ _
      | exact ih1 _ _ _ _ _ _ _ _ _ _ _ _ _ _ _ _ _ _ _ _ _
      | exact ih2 _ _ _ _ _ _ _ _ _ _ _ _ _ _ _ _ _ _ _ _
      | exact ih3 _ _ _ _ _ _ _ _ _ _ _ _ _ _ _ _ _ _ _ _
      | exact ih4 _ _ _ _ _ _ _ _ _ _ _ _ _ _ _ _ _ _
      | exact ih5 _ _ _ _ _ _ _ _ _ _ _
      | exact ih6 _ _ _ _ _ _ _ _ _ _ _ _ _ _ _ _ _ _ _
      | exact signalmanlaw09_awake.mono _
      | exact signalmanlaw09_do.mono _ _ _ _ _ _ _ _ _ _
      | exact LeO.none _
      | refine LeO.ite ?_ ?_
      | refine LeO.bind ?_ (fun _ => ?_)
    · intro y0 y1 y2 y3 y4 y5 y6 y7 y8 y9 y10 y11 y12 y13 y14 y15 y16 y17
      unfold signalmanlaw09_ConnOne.j5
      repeat' first
      | (with_reducible exact ih0 _ _ _ _ _ _ _ _ _ _)
      | (with_reducible exact ih1 _ _ _ _ _ _ _ _ _ _ _ _ _ _ _ _ _ _ _ _ _)
      | (with_reducible exact ih2 _ _ _ _ _ _ _ _ _ _ _ _ _ _ _ _ _ _ _ _)
      | (with_reducible exact ih3 _ _ _ _ _ _ _ _ _ _ _ _ _ _ _ _ _ _ _ _)
      | (with_reducible exact ih4 _ _ _ _ _ _ _ _ _ _ _ _ _ _ _ _ _ _)
      | (with_reducible exact ih5 _ _ _ _ _ _ _ _ _ _ _)
      | (with_reducible exact ih6 _ _ _ _ _ _ _ _ _ _ _ _ _ _ _ _ _ _ _)
      | (with_reducible exact signalmanlaw09_awake.mono _)
      | (with_reducible exact signalmanlaw09_do.mono _ _ _ _ _ _ _ _ _ _)
      | (with_reducible exact LeO.refl _)
      | (with_reducible exact LeO.none _)
      | (with_reducible refine LeO.ite ?_ ?_)
      | (with_reducible refine LeO.bind ?_ (fun _ => ?_))
      | exact ih0 _ _ _ _ _ _ _ _ _ _
      | exact ih1 _ _ _ _ _ _ _ _ _ _ _ _ _ _ _ _ _ _ _ _ _
      | exact ih2 _ _ _ _ _ _ _ _ _ _ _ _ _ _ _ _ _ _ _ _
      | exact ih3 _ _ _ _ _ _ _ _ _ _ _ _ _ _ _ _ _ _ _ _
      | exact ih4 _ _ _ _ _ _ _ _ _ _ _ _ _ _ _ _ _ _
      | exact ih5 _ _ _ _ _ _ _ _ _ _ _
      | exact ih6 _ _ _ _ _ _ _ _ _ _ _ _ _ _ _ _ _ _ _
      | exact signalmanlaw09_awake.mono _
      | exact signalmanlaw09_do.mono _ _ _ _ _ _ _ _ _ _
      | exact LeO.none _
      | refine LeO.ite ?_ ?_
      | refine LeO.bind ?_ (fun _ => ?_)
    · intro y0 y1 y2 y3 y4 y5 y6 y7 y8 y9 y10
      unfold signalmanlaw09_ConnOne.j6
      repeat' first
      | (with_reducible exact ih0 _ _ _ _ _ _ _ _ _ _)
      | (with_reducible exact ih1 _ _ _ _ _ _ _ _ _ _ _ _ _ _ _ _ _ _ _ _ _)
      | (with_reducible exact ih2 _ _ _ _ _ _ _ _ _ _ _ _ _ _ _ _ _ _ _ _)
      | (with_reducible exact ih3 _ _ _ _ _ _ _ _ _ _ _ _ _ _ _ _ _ _ _ _)
      | (with_reducible exact ih4 _ _ _ _ _ _ _ _ _ _ _ _ _ _ _ _ _ _)
      | (with_reducible exact ih5 _ _ _ _ _ _ _ _ _ _ _)
      | (with_reducible exact ih6 _ _ _ _ _ _ _ _ _ _ _ _ _ _ _ _ _ _ _)
      | (with_reducible exact signalmanlaw09_awake.mono _)
      | (with_reducible exact signalmanlaw09_do.mono _ _ _ _ _ _ _ _ _ _)
      | (with_reducible exact LeO.refl _)
      | (with_reducible exact LeO.none _)
      | (with_reducible refine LeO.ite ?_ ?_)
      | (with_reducible refine LeO.bind ?_ (fun _ => ?_))
      | exact ih0 _ _ _ _ _ _ _ _ _ _
      | exact ih1 _ _ _ _ _ _ _ _ _ _ _ _ _ _ _ _ _ _ _ _ _
      | exact ih2 _ _ _ _ _ _ _ _ _ _ _ _ _ _ _ _ _ _ _ _
      | exact ih3 _ _ _ _ _ _ _ _ _ _ _ _ _ _ _ _ _ _ _ _
      | exact ih4 _ _ _ _ _ _ _ _ _ _ _ _ _ _ _ _ _ _
      | exact ih5 _ _ _ _ _ _ _ _ _ _ _
      | exact ih6 _ _ _ _ _ _ _ _ _ _ _ _ _ _ _ _ _ _ _
      | exact signalmanlaw09_awake.mono _
      | exact signalmanlaw09_do.mono _ _ _ _ _ _ _ _ _ _
      | exact LeO.none _
      | refine LeO.ite ?_ ?_
      | refine LeO.bind ?_ (fun _ => ?_)
    · intro y0 y1 y2 y3 y4 y5 y6 y7 y8 y9 y10 y11 y12 y13 y14 y15 y16 y17 y18
      unfold signalmanlaw09_ConnOne.j4
      repeat' first
      | (with_reducible exact ih0 _ _ _ _ _ _ _ _ _ _)
      | (with_reducible exact ih1 _ _ _ _ _ _ _ _ _ _ _ _ _ _ _ _ _ _ _ _ _)
      | (with_reducible exact ih2 _ _ _ _ _ _ _ _ _ _ _ _ _ _ _ _ _ _ _ _)
      | (with_reducible exact ih3 _ _ _ _ _ _ _ _ _ _ _ _ _ _ _ _ _ _ _ _)
      | (with_reducible exact ih4 _ _ _ _ _ _ _ _ _ _ _ _ _ _ _ _ _ _)
      | (with_reducible exact ih5 _ _ _ _ _ _ _ _ _ _ _)
      | (with_reducible exact ih6 _ _ _ _ _ _ _ _ _ _ _ _ _ _ _ _ _ _ _)
      | (with_reducible exact signalmanlaw09_awake.mono _)
      | (with_reducible exact signalmanlaw09_do.mono _ _ _ _ _ _ _ _ _ _)
      | (with_reducible exact LeO.refl _)
      | (with_reducible exact LeO.none _)
      | (with_reducible refine LeO.ite ?_ ?_)
      | (with_reducible refine LeO.bind ?_ (fun _ => ?_))
      | exact ih0 _ _ _ _ _ _ _ _ _ _
      | exact ih1 _ _ _ _ _ _ _ _ _ _ _ _ _ _ _ _ _ _ _ _ _
      | exact ih2 _ _ _ _ _ _ _ _ _ _ _ _ _ _ _ _ _ _ _ _
      | exact ih3 _ _ _ _ _ _ _ _ _ _ _ _ _ _ _ _ _ _ _ _
      | exact ih4 _ _ _ _ _ _ _ _ _ _ _ _ _ _ _ _ _ _
      | exact ih5 _ _ _ _ _ _ _ _ _ _ _
      | exact ih6 _ _ _ _ _ _ _ _ _ _ _ _ _ _ _ _ _ _ _
      | exact signalmanlaw09_awake.mono _
      | exact signalmanlaw09_do.mono _ _ _ _ _ _ _ _ _ _
      | exact LeO.none _
      | refine LeO.ite ?_ ?_
      | refine LeO.bind ?_ (fun _ => ?_)
theorem signalmanlaw09_ConnOne.mono : ∀ a0 k, LeO (signalmanlaw09_ConnOne.f k a0) (signalmanlaw09_ConnOne.f (k + 1) a0) := by
  intro a0 k
  obtain ⟨ih0, ih1, ih2, ih3, ih4, ih5, ih6⟩ := signalmanlaw09_ConnOne.mono_l k
  unfold signalmanlaw09_ConnOne.f
  repeat' first
      | (with_reducible exact ih0 _ _ _ _ _ _ _ _ _ _)
      | (with_reducible exact ih1 _ _ _ _ _ _ _ _ _ _ _ _ _ _ _ _ _ _ _ _ _)
      | (with_reducible exact ih2 _ _ _ _ _ _ _ _ _ _ _ _ _ _ _ _ _ _ _ _)
      | (with_reducible exact ih3 _ _ _ _ _ _ _ _ _ _ _ _ _ _ _ _ _ _ _ _)
      | (with_reducible exact ih4 _ _ _ _ _ _ _ _ _ _ _ _ _ _ _ _ _ _)
      | (with_reducible exact ih5 _ _ _ _ _ _ _ _ _ _ _)
      | (with_reducible exact ih6 _ _ _ _ _ _ _ _ _ _ _ _ _ _ _ _ _ _ _)
      | (with_reducible exact signalmanlaw09_awake.mono _)
      | (with_reducible exact signalmanlaw09_do.mono _ _ _ _ _ _ _ _ _ _)
      | (with_reducible exact LeO.refl _)
      | (with_reducible exact LeO.none _)
      | (with_reducible refine LeO.ite ?_ ?_)
      | (with_reducible refine LeO.bind ?_ (fun _ => ?_))
      | exact ih0 _ _ _ _ _ _ _ _ _ _
      | exact ih1 _ _ _ _ _ _ _ _ _ _ _ _ _ _ _ _ _ _ _ _ _
      | exact ih2 _ _ _ _ _ _ _ _ _ _ _ _ _ _ _ _ _ _ _ _
      | exact ih3 _ _ _ _ _ _ _ _ _ _ _ _ _ _ _ _ _ _ _ _
      | exact ih4 _ _ _ _ _ _ _ _ _ _ _ _ _ _ _ _ _ _
      | exact ih5 _ _ _ _ _ _ _ _ _ _ _
      | exact ih6 _ _ _ _ _ _ _ _ _ _ _ _ _ _ _ _ _ _ _
      | exact signalmanlaw09_awake.mono _
      | exact signalmanlaw09_do.mono _ _ _ _ _ _ _ _ _ _
      | exact LeO.none _
      | refine LeO.ite ?_ ?_
      | refine LeO.bind ?_ (fun _ => ?_)
def signalmanlaw09_ConnOne.T19 : Bool × List (List Nat × List Nat) := (true, [([], []), ([0], [0]), ([1], [1]), ([2], [2]), ([3, 2], [2, 3]), ([2, 4], [2, 4]), ([5, 2], [5]), ([6], [6]), ([7, 6, 6], [6, 7]), ([6], [6]), ([9, 6], [6, 9]), ([8, 10, 6], [6, 8, 10]), ([6, 11], [6, 11])])
def signalmanlaw09_ConnOne.B19 : List Nat := [0, 1, 3, 7, 15, 31, 63, 127, 255, 127, 639, 2047, 4095]
theorem signalmanlaw09_ConnOne.tab19 : rtab .any (opsOf Try.f13 19) = signalmanlaw09_ConnOne.T19 := by kernel_rfl
theorem signalmanlaw09_ConnOne.bits19 : waitsOk signalmanlaw09_ConnOne.T19.2 signalmanlaw09_ConnOne.B19 = true := by kernel_rfl
set_option maxHeartbeats 8000000 in
set_option maxRecDepth 100000 in
theorem signalmanlaw09_ConnOne.calls (k : Nat) (A0 : Option Addr) (c0 : Nat) (l0 : List (S102)) (r : Bool) (w : World) (hr0 : Kd.C k102 w A0 l0.length l0) (hc0 : l0.length ≤ c0) (h : signalmanlaw09_ConnOne.f k l0 = some r) :
    Calls Try.prog 13 #[.slice A0 l0.length c0] w fun e w' => e = .returned (.bool r) ∧ Below w.heap.size w w' := by
  have hu102 := Try.underlying102
  have hu104 := Try.underlying104
  have HR0 := Aside0.mk hr0
  have HC0 := Aside0.mk hc0
  clear hr0 hc0
  have HB := Aside0.mk (Below.refl w.heap.size w)
  have H : ((signalmanlaw09_awake.f k).bind fun _ => (if (l0.length : Int) > 200 then (some true) else ((conn_New.f 1).bind fun bt438 => (signalmanlaw09_ConnOne.l0 k 0 l0 (l0.length : Int) 0 bt438.1 bt438.2.1 bt438.2.2.1 bt438.2.2.2.1 bt438.2.2.2.2.1 bt438.2.2.2.2.2)))) = some r := h
  clear h
  replace H := Option.bind_eq_some_iff.mp H
  obtain ⟨z_, A20, H⟩ := H
  replace H : (if (l0.length : Int) > 200 then (some true) else ((conn_New.f 1).bind fun bt438 => (signalmanlaw09_ConnOne.l0 k 0 l0 (l0.length : Int) 0 bt438.1 bt438.2.1 bt438.2.2.1 bt438.2.2.2.1 bt438.2.2.2.2.1 bt438.2.2.2.2.2))) = some r := H
  have A2 := Aside0.mk (show signalmanlaw09_awake.f k  = some true from fold_ (g := fun k_ => signalmanlaw09_awake.f k_ ) (fun k_ => signalmanlaw09_awake.mono  k_) (k' := 40) (by kernel_rfl) A20)
  clear A20
  by_cases c3 : (l0.length : Int) > 200
  ·rw [if_pos c3] at H
   have c3b0 : decide (200 < (l0.length : Int)) = true := decide_eq_true c3
   have c3b1 : decide (200 < l0.length) = true := decide_eq_true (by omega)
   clear c3
   obtain rfl := Option.some.inj H
   go_enter Try.func13, Try.ntmps13
   go_wp2_with (first | ((with_reducible refine gate_callee (f := 50) rfl ?_); refine goesL_ (some 12) rfl rfl Try.func50 (by kernel_rfl) rfl #[] rfl (by (try simp only [List.map_toArray, List.map_cons, List.map_nil]); first | done | rfl | (simp only [List.length_drop, List.length_take]; rfl)) ?_; (with_reducible refine (signalmanlaw09_awake.calls k  true _ A2.out).mono ?_); rintro e w4 ⟨rfl, hb⟩; refine ⟨_, rfl, ?_⟩; have n0_ := Aside0.mk (below_step (by repeat (first | (with_reducible first | exact HB.out | apply below_alloc | apply pw_below_drewN | apply below_drew1) | exact HB.out)) hb); clear HB; have HB := n0_; clear n0_; (try clear hb); (try clear hb2); (try clear hk); (try clear hi)))
   go_ret
   exact ⟨by first | rfl | (simp [errW_none, errW_some] <;> rfl) | (simp [*, errW_none, errW_some] <;> rfl), by repeat (first | (with_reducible first | exact HB.out | apply below_alloc | apply pw_below_drewN | apply below_drew1) | exact HB.out)⟩
  ·rw [if_neg c3] at H
   have c3b0 : decide (200 < (l0.length : Int)) = false := decide_eq_false c3
   have c3b1 : decide (200 < l0.length) = false := decide_eq_false (by omega)
   clear c3
   replace H := Option.bind_eq_some_iff.mp H
   obtain ⟨⟨t438, t439, t440, t441, t442, t443⟩, A50, H⟩ := H
   replace H : (signalmanlaw09_ConnOne.l0 k 0 l0 (l0.length : Int) 0 t438 t439 t440 t441 t442 t443) = some r := H
   have A5 := Aside0.mk A50
   clear A50
   have H' := Aside0.mk H
   clear H
   go_enter Try.func13, Try.ntmps13
   go_wp2_with (first | ((with_reducible refine gate_callee (f := 50) rfl ?_); refine goesL_ (some 12) rfl rfl Try.func50 (by kernel_rfl) rfl #[] rfl (by (try simp only [List.map_toArray, List.map_cons, List.map_nil]); first | done | rfl | (simp only [List.length_drop, List.length_take]; rfl)) ?_; (with_reducible refine (signalmanlaw09_awake.calls k  true _ A2.out).mono ?_); rintro e w6 ⟨rfl, hb⟩; refine ⟨_, rfl, ?_⟩; have n0_ := Aside0.mk (below_step (by repeat (first | (with_reducible first | exact HB.out | apply below_alloc | apply pw_below_drewN | apply below_drew1) | exact HB.out)) hb); clear HB; have HB := n0_; clear n0_; (try clear hb); (try clear hb2); (try clear hk); (try clear hi)) | ((with_reducible refine gate_callee (f := 51) rfl ?_); refine goesL_ (some 17) rfl rfl Try.func51 (by kernel_rfl) rfl #[.int .u64 1] rfl (by (try simp only [List.map_toArray, List.map_cons, List.map_nil]); first | done | rfl | (simp only [List.length_drop, List.length_take]; rfl)) ?_; (with_reducible refine (conn_New.calls 1 t438 t439 t440 t441 t442 t443 w _ ?side1 A5.out).mono ?_); (case side1 => repeat (first | (with_reducible first | exact HB.out | apply below_alloc | apply pw_below_drewN | apply below_drew1) | exact HB.out)); rintro e w7 ⟨g444, rfl, hi, hb, hb2⟩; refine ⟨_, rfl, ?_⟩; have n0_ := Aside0.mk (hb); have n1_ := Aside0.mk (hi); clear HB; have HB := n0_; have HI444 := n1_; clear n0_ n1_; (try clear hb); (try clear hb2); (try clear hk); (try clear hi)))
   go_loopg [4, 20] k (fun kq v4 v20 w' => ∃ (x4_1 : Int) (x20_1 : Int) (x445000_1 : Int) (x445001_1 : Int) (x445002_1 : Int) (x445003_1 : Int) (x445004_1 : Bool) (x445005_1 : Bool), v4 = .int .i64 x4_1 ∧ v20 = .int .i64 x20_1 ∧ Aside0 (signalmanlaw09_ConnOne.l0 kq x4_1 l0 (l0.length : Int) x20_1 x445000_1 x445001_1 x445002_1 x445003_1 x445004_1 x445005_1 = some r) ∧ Aside0 (kq ≤ k) ∧ Aside0 (IsS137 w w' g444 x445000_1 x445001_1 x445002_1 x445003_1 x445004_1 x445005_1) ∧ Aside0 (Below w.heap.size w w'))
   case atStart => exact ⟨(0), (0), (t438), (t439), (t440), (t441), (t442), (t443), (by first | rfl | (simp; done) | (simp [*]; done)), (by first | rfl | (simp; done) | (simp [*]; done)), H', ⟨Nat.le_refl _⟩, ⟨by repeat (first | (with_reducible first | exact HI444.out | apply IsS137.alloc | apply IsS137.drewN | apply IsS137.drew | apply IsS137.set_0 | apply IsS137.set_1 | apply IsS137.set_2 | apply IsS137.set_3 | apply IsS137.set_4 | apply IsS137.set_5) | exact HI444.out)⟩, ⟨by repeat (first | (with_reducible first | exact HB.out | apply below_alloc | apply pw_below_drewN | apply below_drew1 | refine below_set ?_ (IsS137.ge HI444.out)) | exact HB.out)⟩⟩
   case round =>
    clear H'
    try clear c1
    try clear p2
    try clear c3
    try clear c3b0
    try clear c3b1
    try clear c5
    obtain ⟨x4_1, x20_1, x445000_1, x445001_1, x445002_1, x445003_1, x445004_1, x445005_1, rfl, rfl, HA, HK1, HI444, HB⟩ := hrel
    cases gk with
    | zero => exact absurd HA.out (by simp [signalmanlaw09_ConnOne.l0])
    | succ k1 =>
     have H := HA.out
     clear HA
     simp only [signalmanlaw09_ConnOne.l0] at H
     by_cases c8 : x20_1 < (l0.length : Int)
     ·rw [if_pos c8] at H
      have c8b0 : decide (x20_1 < (l0.length : Int)) = true := decide_eq_true c8
      clear c8
      by_cases c9 : 0 ≤ x20_1
      ·rw [if_pos c9] at H
       have c9b0 : decide (0 ≤ x20_1) = true := decide_eq_true c9
       clear c9
       by_cases c10 : x20_1 < (l0.length : Int)
       ·rw [if_pos c10] at H
        have c10b0 : decide (x20_1 < (l0.length : Int)) = true := decide_eq_true c10
        clear c10
        replace H := Option.bind_eq_some_iff.mp H
        obtain ⟨⟨t447, t448, t449, t450, t451, t452, t453⟩, A110, H⟩ := H
        replace H : ((conn_Conn_Flight.f t448 t449 t450 t451 t452 t453).bind fun bt454 => ((conn_Conn_State.f bt454.2.1 bt454.2.2.1 bt454.2.2.2.1 bt454.2.2.2.2.1 bt454.2.2.2.2.2.1 bt454.2.2.2.2.2.2).bind fun bt461 => ((signalmanlaw09_do.f k1 bt461.2.1 bt461.2.2.1 bt461.2.2.2.1 bt461.2.2.2.2.1 bt461.2.2.2.2.2.1 bt461.2.2.2.2.2.2 ((rd_T102 l0 x20_1).f0) ((rd_T102 l0 x20_1).f1) ((rd_T102 l0 x20_1).f2)).bind fun bt468 => ((conn_Conn_Owner.f bt468.2.2.2.1 bt468.2.2.2.2.1 bt468.2.2.2.2.2.1 bt468.2.2.2.2.2.2.1 bt468.2.2.2.2.2.2.2.1 bt468.2.2.2.2.2.2.2.2).bind fun bt478 => (if t447 = bt478.1 then (signalmanlaw09_ConnOne.j1 k1 x4_1 t447 bt454.1 bt461.1 bt478.1 l0 (l0.length : Int) x20_1 false bt478.2.1 bt478.2.2.1 bt478.2.2.2.1 bt478.2.2.2.2.1 bt478.2.2.2.2.2.1 bt478.2.2.2.2.2.2 ((rd_T102 l0 x20_1).f0) ((rd_T102 l0 x20_1).f1) ((rd_T102 l0 x20_1).f2) bt468.1 bt468.2.1 bt468.2.2.1) else (if t447 = 0 then (signalmanlaw09_ConnOne.j1 k1 x4_1 t447 bt454.1 bt461.1 bt478.1 l0 (l0.length : Int) x20_1 false bt478.2.1 bt478.2.2.1 bt478.2.2.2.1 bt478.2.2.2.2.1 bt478.2.2.2.2.2.1 bt478.2.2.2.2.2.2 ((rd_T102 l0 x20_1).f0) ((rd_T102 l0 x20_1).f1) ((rd_T102 l0 x20_1).f2) bt468.1 bt468.2.1 bt468.2.2.1) else (signalmanlaw09_ConnOne.j1 k1 x4_1 t447 bt454.1 bt461.1 bt478.1 l0 (l0.length : Int) x20_1 (bt478.1 != 0) bt478.2.1 bt478.2.2.1 bt478.2.2.2.1 bt478.2.2.2.2.1 bt478.2.2.2.2.2.1 bt478.2.2.2.2.2.2 ((rd_T102 l0 x20_1).f0) ((rd_T102 l0 x20_1).f1) ((rd_T102 l0 x20_1).f2) bt468.1 bt468.2.1 bt468.2.2.1))))))) = some r := H
        have A11 := Aside0.mk A110
        clear A110
        replace H := Option.bind_eq_some_iff.mp H
        obtain ⟨⟨t454, t455, t456, t457, t458, t459, t460⟩, A120, H⟩ := H
        replace H : ((conn_Conn_State.f t455 t456 t457 t458 t459 t460).bind fun bt461 => ((signalmanlaw09_do.f k1 bt461.2.1 bt461.2.2.1 bt461.2.2.2.1 bt461.2.2.2.2.1 bt461.2.2.2.2.2.1 bt461.2.2.2.2.2.2 ((rd_T102 l0 x20_1).f0) ((rd_T102 l0 x20_1).f1) ((rd_T102 l0 x20_1).f2)).bind fun bt468 => ((conn_Conn_Owner.f bt468.2.2.2.1 bt468.2.2.2.2.1 bt468.2.2.2.2.2.1 bt468.2.2.2.2.2.2.1 bt468.2.2.2.2.2.2.2.1 bt468.2.2.2.2.2.2.2.2).bind fun bt478 => (if t447 = bt478.1 then (signalmanlaw09_ConnOne.j1 k1 x4_1 t447 t454 bt461.1 bt478.1 l0 (l0.length : Int) x20_1 false bt478.2.1 bt478.2.2.1 bt478.2.2.2.1 bt478.2.2.2.2.1 bt478.2.2.2.2.2.1 bt478.2.2.2.2.2.2 ((rd_T102 l0 x20_1).f0) ((rd_T102 l0 x20_1).f1) ((rd_T102 l0 x20_1).f2) bt468.1 bt468.2.1 bt468.2.2.1) else (if t447 = 0 then (signalmanlaw09_ConnOne.j1 k1 x4_1 t447 t454 bt461.1 bt478.1 l0 (l0.length : Int) x20_1 false bt478.2.1 bt478.2.2.1 bt478.2.2.2.1 bt478.2.2.2.2.1 bt478.2.2.2.2.2.1 bt478.2.2.2.2.2.2 ((rd_T102 l0 x20_1).f0) ((rd_T102 l0 x20_1).f1) ((rd_T102 l0 x20_1).f2) bt468.1 bt468.2.1 bt468.2.2.1) else (signalmanlaw09_ConnOne.j1 k1 x4_1 t447 t454 bt461.1 bt478.1 l0 (l0.length : Int) x20_1 (bt478.1 != 0) bt478.2.1 bt478.2.2.1 bt478.2.2.2.1 bt478.2.2.2.2.1 bt478.2.2.2.2.2.1 bt478.2.2.2.2.2.2 ((rd_T102 l0 x20_1).f0) ((rd_T102 l0 x20_1).f1) ((rd_T102 l0 x20_1).f2) bt468.1 bt468.2.1 bt468.2.2.1)))))) = some r := H
        have A12 := Aside0.mk A120
        clear A120
        replace H := Option.bind_eq_some_iff.mp H
        obtain ⟨⟨t461, t462, t463, t464, t465, t466, t467⟩, A130, H⟩ := H
        replace H : ((signalmanlaw09_do.f k1 t462 t463 t464 t465 t466 t467 ((rd_T102 l0 x20_1).f0) ((rd_T102 l0 x20_1).f1) ((rd_T102 l0 x20_1).f2)).bind fun bt468 => ((conn_Conn_Owner.f bt468.2.2.2.1 bt468.2.2.2.2.1 bt468.2.2.2.2.2.1 bt468.2.2.2.2.2.2.1 bt468.2.2.2.2.2.2.2.1 bt468.2.2.2.2.2.2.2.2).bind fun bt478 => (if t447 = bt478.1 then (signalmanlaw09_ConnOne.j1 k1 x4_1 t447 t454 t461 bt478.1 l0 (l0.length : Int) x20_1 false bt478.2.1 bt478.2.2.1 bt478.2.2.2.1 bt478.2.2.2.2.1 bt478.2.2.2.2.2.1 bt478.2.2.2.2.2.2 ((rd_T102 l0 x20_1).f0) ((rd_T102 l0 x20_1).f1) ((rd_T102 l0 x20_1).f2) bt468.1 bt468.2.1 bt468.2.2.1) else (if t447 = 0 then (signalmanlaw09_ConnOne.j1 k1 x4_1 t447 t454 t461 bt478.1 l0 (l0.length : Int) x20_1 false bt478.2.1 bt478.2.2.1 bt478.2.2.2.1 bt478.2.2.2.2.1 bt478.2.2.2.2.2.1 bt478.2.2.2.2.2.2 ((rd_T102 l0 x20_1).f0) ((rd_T102 l0 x20_1).f1) ((rd_T102 l0 x20_1).f2) bt468.1 bt468.2.1 bt468.2.2.1) else (signalmanlaw09_ConnOne.j1 k1 x4_1 t447 t454 t461 bt478.1 l0 (l0.length : Int) x20_1 (bt478.1 != 0) bt478.2.1 bt478.2.2.1 bt478.2.2.2.1 bt478.2.2.2.2.1 bt478.2.2.2.2.2.1 bt478.2.2.2.2.2.2 ((rd_T102 l0 x20_1).f0) ((rd_T102 l0 x20_1).f1) ((rd_T102 l0 x20_1).f2) bt468.1 bt468.2.1 bt468.2.2.1))))) = some r := H
        have A13 := Aside0.mk A130
        clear A130
        replace H := Option.bind_eq_some_iff.mp H
        obtain ⟨⟨t468, t469, t470, t471, t472, t473, t474, t475, t476⟩, A140, H⟩ := H
        replace H : ((conn_Conn_Owner.f t471 t472 t473 t474 t475 t476).bind fun bt478 => (if t447 = bt478.1 then (signalmanlaw09_ConnOne.j1 k1 x4_1 t447 t454 t461 bt478.1 l0 (l0.length : Int) x20_1 false bt478.2.1 bt478.2.2.1 bt478.2.2.2.1 bt478.2.2.2.2.1 bt478.2.2.2.2.2.1 bt478.2.2.2.2.2.2 ((rd_T102 l0 x20_1).f0) ((rd_T102 l0 x20_1).f1) ((rd_T102 l0 x20_1).f2) t468 t469 t470) else (if t447 = 0 then (signalmanlaw09_ConnOne.j1 k1 x4_1 t447 t454 t461 bt478.1 l0 (l0.length : Int) x20_1 false bt478.2.1 bt478.2.2.1 bt478.2.2.2.1 bt478.2.2.2.2.1 bt478.2.2.2.2.2.1 bt478.2.2.2.2.2.2 ((rd_T102 l0 x20_1).f0) ((rd_T102 l0 x20_1).f1) ((rd_T102 l0 x20_1).f2) t468 t469 t470) else (signalmanlaw09_ConnOne.j1 k1 x4_1 t447 t454 t461 bt478.1 l0 (l0.length : Int) x20_1 (bt478.1 != 0) bt478.2.1 bt478.2.2.1 bt478.2.2.2.1 bt478.2.2.2.2.1 bt478.2.2.2.2.2.1 bt478.2.2.2.2.2.2 ((rd_T102 l0 x20_1).f0) ((rd_T102 l0 x20_1).f1) ((rd_T102 l0 x20_1).f2) t468 t469 t470)))) = some r := H
        have A14 := Aside0.mk A140
        clear A140
        replace H := Option.bind_eq_some_iff.mp H
        obtain ⟨⟨t478, t479, t480, t481, t482, t483, t484⟩, A150, H⟩ := H
        replace H : (if t447 = t478 then (signalmanlaw09_ConnOne.j1 k1 x4_1 t447 t454 t461 t478 l0 (l0.length : Int) x20_1 false t479 t480 t481 t482 t483 t484 ((rd_T102 l0 x20_1).f0) ((rd_T102 l0 x20_1).f1) ((rd_T102 l0 x20_1).f2) t468 t469 t470) else (if t447 = 0 then (signalmanlaw09_ConnOne.j1 k1 x4_1 t447 t454 t461 t478 l0 (l0.length : Int) x20_1 false t479 t480 t481 t482 t483 t484 ((rd_T102 l0 x20_1).f0) ((rd_T102 l0 x20_1).f1) ((rd_T102 l0 x20_1).f2) t468 t469 t470) else (signalmanlaw09_ConnOne.j1 k1 x4_1 t447 t454 t461 t478 l0 (l0.length : Int) x20_1 (t478 != 0) t479 t480 t481 t482 t483 t484 ((rd_T102 l0 x20_1).f0) ((rd_T102 l0 x20_1).f1) ((rd_T102 l0 x20_1).f2) t468 t469 t470))) = some r := H
        have A15 := Aside0.mk A150
        clear A150
        have HC16 := Aside0.mk H
        clear H
        have p445 : 0 ≤ (x20_1 : Int) := of_decide_eq_true (by first | (with_reducible assumption) | assumption)
        have q445 : x20_1 < (l0.length : Int) := of_decide_eq_true (by first | (with_reducible assumption) | assumption)
        obtain ⟨ad445, e445, hx445_0, hx445_1, hx445_2⟩ := at_T102 HR0.out x20_1 p445 q445
        cases e445
        replace hx445_0 := (HB.out.cell (World.block_lt_of_cell? w _ hx445_0)).trans hx445_0
        replace hx445_1 := (HB.out.cell (World.block_lt_of_cell? w _ hx445_1)).trans hx445_1
        replace hx445_2 := (HB.out.cell (World.block_lt_of_cell? w _ hx445_2)).trans hx445_2
        replace p445 := eq_true p445
        replace q445 := eq_true q445
        go_upto_region 13 with (first | ((with_reducible refine gate_dst (N := 6) rfl ?_); refine box_event ?hg (N := 6) ?hd (cs := #[.int .i64 0, .int .i64 0, .int .u64 0]) (t := 102) ?hr ?_; (case hd => rfl); (case hg => rfl); (case hr => first | (go_simp; done) | (go_simp; rfl)); intro gb446 hg w17 hbox hb; have n0_ := Aside0.mk (IsS137.below (by repeat (first | (with_reducible first | exact HI444.out | apply IsS137.alloc | apply IsS137.drewN | apply IsS137.drew | apply IsS137.set_0 | apply IsS137.set_1 | apply IsS137.set_2 | apply IsS137.set_3 | apply IsS137.set_4 | apply IsS137.set_5) | exact HI444.out)) hb); have n1_ := Aside0.mk (below_step (by repeat (first | (with_reducible first | exact HB.out | apply below_alloc | apply pw_below_drewN | apply below_drew1 | refine below_set ?_ (IsS137.ge HI444.out)) | exact HB.out)) hb); have n2_ := Aside0.mk (hbox); have n3_ := Aside0.mk ((by rw [hg]; exact (below_size (by repeat (first | (with_reducible first | exact HB.out | apply below_alloc | apply pw_below_drewN | apply below_drew1 | refine below_set ?_ (IsS137.ge HI444.out)) | exact HB.out))) : w.heap.size ≤ gb446)); have n4_ := Aside0.mk ((by rw [hg]; exact (below_size (by repeat (first | (with_reducible first | exact HB.out | apply below_alloc | apply pw_below_drewN | apply below_drew1 | refine below_set ?_ (IsS137.ge HI444.out)) | exact HB.out))) : w.heap.size ≤ gb446)); have n5_ := Aside0.mk ((by rw [hg]; exact Nat.ne_of_lt (IsS137.lt (show IsS137 w _ g444 x445000_1 x445001_1 x445002_1 x445003_1 x445004_1 x445005_1 from by repeat (first | (with_reducible first | exact HI444.out | apply IsS137.alloc | apply IsS137.drewN | apply IsS137.drew | apply IsS137.set_0 | apply IsS137.set_1 | apply IsS137.set_2 | apply IsS137.set_3 | apply IsS137.set_4 | apply IsS137.set_5) | exact HI444.out))) : g444 ≠ gb446)); have n6_ := Aside0.mk ((by rw [hg]; exact Nat.ne_of_gt (IsS137.lt (show IsS137 w _ g444 x445000_1 x445001_1 x445002_1 x445003_1 x445004_1 x445005_1 from by repeat (first | (with_reducible first | exact HI444.out | apply IsS137.alloc | apply IsS137.drewN | apply IsS137.drew | apply IsS137.set_0 | apply IsS137.set_1 | apply IsS137.set_2 | apply IsS137.set_3 | apply IsS137.set_4 | apply IsS137.set_5) | exact HI444.out))) : gb446 ≠ g444)); clear HI444; clear HB; have HI444 := n0_; have HB := n1_; have BK446 := n2_; have GW446 := n3_; have GE446 := n4_; have NB444_446 := n5_; have NB446_444 := n6_; clear n0_ n1_ n2_ n3_ n4_ n5_ n6_; clear hb hbox hg; have hnb18 := NB446_444.out; have hnc18 := NB444_446.out; have hcz19_0 : w17.cell? ⟨gb446, 0, none⟩ = some (.int .i64 0) := (blk_cell BK446.out 0).trans rfl; have hcz19_1 : w17.cell? ⟨gb446, 1, none⟩ = some (.int .i64 0) := (blk_cell BK446.out 1).trans rfl; have hcz19_2 : w17.cell? ⟨gb446, 2, none⟩ = some (.int .u64 0) := (blk_cell BK446.out 2).trans rfl; have hfz19_0 := blk_frozen BK446.out 0; have hfz19_1 := blk_frozen BK446.out 1; have hfz19_2 := blk_frozen BK446.out 2) | ((with_reducible refine gate_callee (f := 56) rfl ?_); refine goesL_ (some 25) rfl rfl Try.func56 (by kernel_rfl) rfl #[.pointer (some ⟨g444, 0, none⟩)] rfl (by (try simp only [List.map_toArray, List.map_cons, List.map_nil]); first | done | rfl | (simp only [List.length_drop, List.length_take]; rfl)) ?_; (with_reducible refine (conn_Conn_Owner.calls g444 x445000_1 x445001_1 x445002_1 x445003_1 x445004_1 x445005_1 t447 t448 t449 t450 t451 t452 t453 w _ ?side1 ?side2 (by first | exact A11.out | (have h_ := A11.out; exact h_))).mono ?_); (case side1 => repeat (first | (with_reducible first | exact HI444.out | apply IsS137.alloc | apply IsS137.drewN | apply IsS137.drew | apply IsS137.set_0 | apply IsS137.set_1 | apply IsS137.set_2 | apply IsS137.set_3 | apply IsS137.set_4 | apply IsS137.set_5 | refine IsS137.far ?_ NB444_446.out _) | exact HI444.out)); (case side2 => repeat (first | (with_reducible first | exact HB.out | apply below_alloc | apply pw_below_drewN | apply below_drew1 | refine below_set ?_ (IsS137.ge HI444.out) | refine below_set ?_ GE446.out) | exact HB.out)); rintro e w20 ⟨rfl, hi, hb, hk⟩; refine ⟨_, rfl, ?_⟩; have n0_ := Aside0.mk (KeepBut.blk hk (g' := gb446) (o := .cells #[.int .i64 ((rd_T102 l0 x20_1).f0), .int .i64 ((rd_T102 l0 x20_1).f1), .int .u64 ((rd_T102 l0 x20_1).f2)] 102 (0, 0)) (by (with_reducible repeat (first | refine blk_drewN ?_ _ | refine blk_drew ?_ | refine blk_alloc ?_ _)); refine blk_put (cs := #[.int .i64 ((rd_T102 l0 x20_1).f0), .int .i64 ((rd_T102 l0 x20_1).f1), .int .u64 0]) ?_ 2 _ rfl; (with_reducible repeat (first | refine blk_drewN ?_ _ | refine blk_drew ?_ | refine blk_alloc ?_ _)); refine blk_put (cs := #[.int .i64 ((rd_T102 l0 x20_1).f0), .int .i64 0, .int .u64 0]) ?_ 1 _ rfl; (with_reducible repeat (first | refine blk_drewN ?_ _ | refine blk_drew ?_ | refine blk_alloc ?_ _)); refine blk_put (cs := #[.int .i64 0, .int .i64 0, .int .u64 0]) ?_ 0 _ rfl; (with_reducible repeat (first | refine blk_drewN ?_ _ | refine blk_drew ?_ | refine blk_alloc ?_ _)); exact BK446.out) NB446_444.out (by simp)); have n1_ := Aside0.mk (hb); have n2_ := Aside0.mk (hi); clear BK446; clear HB; clear HI444; have BK446 := n0_; have HB := n1_; have HI444 := n2_; clear n0_ n1_ n2_; (try clear hb); (try clear hb2); (try clear hk); (try clear hi)) | ((with_reducible refine gate_callee (f := 57) rfl ?_); refine goesL_ (some 27) rfl rfl Try.func57 (by kernel_rfl) rfl #[.pointer (some ⟨g444, 0, none⟩)] rfl (by (try simp only [List.map_toArray, List.map_cons, List.map_nil]); first | done | rfl | (simp only [List.length_drop, List.length_take]; rfl)) ?_; (with_reducible refine (conn_Conn_Flight.calls g444 t448 t449 t450 t451 t452 t453 t454 t455 t456 t457 t458 t459 t460 w _ ?side1 ?side2 (by first | exact A12.out | (have h_ := A12.out; exact h_))).mono ?_); (case side1 => repeat (first | (with_reducible first | exact HI444.out | apply IsS137.alloc | apply IsS137.drewN | apply IsS137.drew | apply IsS137.set_0 | apply IsS137.set_1 | apply IsS137.set_2 | apply IsS137.set_3 | apply IsS137.set_4 | apply IsS137.set_5 | refine IsS137.far ?_ NB444_446.out _) | exact HI444.out)); (case side2 => repeat (first | (with_reducible first | exact HB.out | apply below_alloc | apply pw_below_drewN | apply below_drew1 | refine below_set ?_ (IsS137.ge HI444.out) | refine below_set ?_ GE446.out) | exact HB.out)); rintro e w21 ⟨rfl, hi, hb, hk⟩; refine ⟨_, rfl, ?_⟩; have n0_ := Aside0.mk (KeepBut.blk hk (g' := gb446) (o := .cells #[.int .i64 ((rd_T102 l0 x20_1).f0), .int .i64 ((rd_T102 l0 x20_1).f1), .int .u64 ((rd_T102 l0 x20_1).f2)] 102 (0, 0)) (by (with_reducible repeat (first | refine blk_drewN ?_ _ | refine blk_drew ?_ | refine blk_alloc ?_ _)); exact BK446.out) NB446_444.out (by simp)); have n1_ := Aside0.mk (hb); have n2_ := Aside0.mk (hi); clear BK446; clear HB; clear HI444; have BK446 := n0_; have HB := n1_; have HI444 := n2_; clear n0_ n1_ n2_; (try clear hb); (try clear hb2); (try clear hk); (try clear hi)) | ((with_reducible refine gate_callee (f := 55) rfl ?_); refine goesL_ (some 29) rfl rfl Try.func55 (by kernel_rfl) rfl #[.pointer (some ⟨g444, 0, none⟩)] rfl (by (try simp only [List.map_toArray, List.map_cons, List.map_nil]); first | done | rfl | (simp only [List.length_drop, List.length_take]; rfl)) ?_; (with_reducible refine (conn_Conn_State.calls g444 t455 t456 t457 t458 t459 t460 t461 t462 t463 t464 t465 t466 t467 w _ ?side1 ?side2 (by first | exact A13.out | (have h_ := A13.out; exact h_))).mono ?_); (case side1 => repeat (first | (with_reducible first | exact HI444.out | apply IsS137.alloc | apply IsS137.drewN | apply IsS137.drew | apply IsS137.set_0 | apply IsS137.set_1 | apply IsS137.set_2 | apply IsS137.set_3 | apply IsS137.set_4 | apply IsS137.set_5 | refine IsS137.far ?_ NB444_446.out _) | exact HI444.out)); (case side2 => repeat (first | (with_reducible first | exact HB.out | apply below_alloc | apply pw_below_drewN | apply below_drew1 | refine below_set ?_ (IsS137.ge HI444.out) | refine below_set ?_ GE446.out) | exact HB.out)); rintro e w22 ⟨rfl, hi, hb, hk⟩; refine ⟨_, rfl, ?_⟩; have n0_ := Aside0.mk (KeepBut.blk hk (g' := gb446) (o := .cells #[.int .i64 ((rd_T102 l0 x20_1).f0), .int .i64 ((rd_T102 l0 x20_1).f1), .int .u64 ((rd_T102 l0 x20_1).f2)] 102 (0, 0)) (by (with_reducible repeat (first | refine blk_drewN ?_ _ | refine blk_drew ?_ | refine blk_alloc ?_ _)); exact BK446.out) NB446_444.out (by simp)); have n1_ := Aside0.mk (hb); have n2_ := Aside0.mk (hi); clear BK446; clear HB; clear HI444; have BK446 := n0_; have HB := n1_; have HI444 := n2_; clear n0_ n1_ n2_; (try clear hb); (try clear hb2); (try clear hk); (try clear hi); have hcz23_0 : w22.cell? ⟨gb446, 0, none⟩ = some (.int .i64 ((rd_T102 l0 x20_1).f0)) := (blk_cell BK446.out 0).trans rfl; have hcz23_1 : w22.cell? ⟨gb446, 1, none⟩ = some (.int .i64 ((rd_T102 l0 x20_1).f1)) := (blk_cell BK446.out 1).trans rfl; have hcz23_2 : w22.cell? ⟨gb446, 2, none⟩ = some (.int .u64 ((rd_T102 l0 x20_1).f2)) := (blk_cell BK446.out 2).trans rfl; have hfz23_0 := blk_frozen BK446.out 0; have hfz23_1 := blk_frozen BK446.out 1; have hfz23_2 := blk_frozen BK446.out 2) | ((with_reducible refine gate_callee (f := 53) rfl ?_); refine goesL_ (some 32) rfl rfl Try.func53 (by kernel_rfl) rfl #[.pointer (some ⟨g444, 0, none⟩), .agg #[.int .i64 ((rd_T102 l0 x20_1).f0), .int .i64 ((rd_T102 l0 x20_1).f1), .int .u64 ((rd_T102 l0 x20_1).f2)]] rfl (by (try simp only [List.map_toArray, List.map_cons, List.map_nil]); first | done | rfl | (simp only [List.length_drop, List.length_take]; rfl)) ?_; (with_reducible refine (signalmanlaw09_do.calls k1 g444 t462 t463 t464 t465 t466 t467 ((rd_T102 l0 x20_1).f0) ((rd_T102 l0 x20_1).f1) ((rd_T102 l0 x20_1).f2) t468 t469 t470 t471 t472 t473 t474 t475 t476 w _ ?side1 ?side2 (by first | exact A14.out | (have h_ := A14.out; exact h_))).mono ?_); (case side1 => repeat (first | (with_reducible first | exact HI444.out | apply IsS137.alloc | apply IsS137.drewN | apply IsS137.drew | apply IsS137.set_0 | apply IsS137.set_1 | apply IsS137.set_2 | apply IsS137.set_3 | apply IsS137.set_4 | apply IsS137.set_5 | refine IsS137.far ?_ NB444_446.out _) | exact HI444.out)); (case side2 => repeat (first | (with_reducible first | exact HB.out | apply below_alloc | apply pw_below_drewN | apply below_drew1 | refine below_set ?_ (IsS137.ge HI444.out) | refine below_set ?_ GE446.out) | exact HB.out)); rintro e w24 ⟨rfl, hi, hb, hk⟩; refine ⟨_, rfl, ?_⟩; have n0_ := Aside0.mk (KeepBut.blk hk (g' := gb446) (o := .cells #[.int .i64 ((rd_T102 l0 x20_1).f0), .int .i64 ((rd_T102 l0 x20_1).f1), .int .u64 ((rd_T102 l0 x20_1).f2)] 102 (0, 0)) (by (with_reducible repeat (first | refine blk_drewN ?_ _ | refine blk_drew ?_ | refine blk_alloc ?_ _)); exact BK446.out) NB446_444.out (by simp)); have n1_ := Aside0.mk (hb); have n2_ := Aside0.mk (hi); clear BK446; clear HB; clear HI444; have BK446 := n0_; have HB := n1_; have HI444 := n2_; clear n0_ n1_ n2_; (try clear hb); (try clear hb2); (try clear hk); (try clear hi)) | ((with_reducible refine gate_dst (N := 10) rfl ?_); refine box_event ?hg (N := 10) ?hd (cs := #[.bool false, .int .i64 0, .int .u64 0]) (t := 104) ?hr ?_; (case hd => rfl); (case hg => rfl); (case hr => first | (go_simp; done) | (go_simp; rfl)); intro gb477 hg w25 hbox hb; have n0_ := Aside0.mk (IsS137.below (by repeat (first | (with_reducible first | exact HI444.out | apply IsS137.alloc | apply IsS137.drewN | apply IsS137.drew | apply IsS137.set_0 | apply IsS137.set_1 | apply IsS137.set_2 | apply IsS137.set_3 | apply IsS137.set_4 | apply IsS137.set_5 | refine IsS137.far ?_ NB444_446.out _) | exact HI444.out)) hb); have n1_ := Aside0.mk (blk_below (g := gb446) (o := .cells #[.int .i64 ((rd_T102 l0 x20_1).f0), .int .i64 ((rd_T102 l0 x20_1).f1), .int .u64 ((rd_T102 l0 x20_1).f2)] 102 (0, 0)) (by (with_reducible repeat (first | refine blk_drewN ?_ _ | refine blk_drew ?_ | refine blk_alloc ?_ _)); exact BK446.out) hb); have n2_ := Aside0.mk (below_step (by repeat (first | (with_reducible first | exact HB.out | apply below_alloc | apply pw_below_drewN | apply below_drew1 | refine below_set ?_ (IsS137.ge HI444.out) | refine below_set ?_ GE446.out) | exact HB.out)) hb); have n3_ := Aside0.mk (hbox); have n4_ := Aside0.mk ((by rw [hg]; exact (below_size (by repeat (first | (with_reducible first | exact HB.out | apply below_alloc | apply pw_below_drewN | apply below_drew1 | refine below_set ?_ (IsS137.ge HI444.out) | refine below_set ?_ GE446.out) | exact HB.out))) : w.heap.size ≤ gb477)); have n5_ := Aside0.mk ((by rw [hg]; exact (below_size (by repeat (first | (with_reducible first | exact HB.out | apply below_alloc | apply pw_below_drewN | apply below_drew1 | refine below_set ?_ (IsS137.ge HI444.out) | refine below_set ?_ GE446.out) | exact HB.out))) : w.heap.size ≤ gb477)); have n6_ := Aside0.mk ((by rw [hg]; exact Nat.ne_of_lt (blk_lt (g := gb446) (o := .cells #[.int .i64 ((rd_T102 l0 x20_1).f0), .int .i64 ((rd_T102 l0 x20_1).f1), .int .u64 ((rd_T102 l0 x20_1).f2)] 102 (0, 0)) (by (with_reducible repeat (first | refine blk_drewN ?_ _ | refine blk_drew ?_ | refine blk_alloc ?_ _)); exact BK446.out)) : gb446 ≠ gb477)); have n7_ := Aside0.mk ((by rw [hg]; exact Nat.ne_of_gt (blk_lt (g := gb446) (o := .cells #[.int .i64 ((rd_T102 l0 x20_1).f0), .int .i64 ((rd_T102 l0 x20_1).f1), .int .u64 ((rd_T102 l0 x20_1).f2)] 102 (0, 0)) (by (with_reducible repeat (first | refine blk_drewN ?_ _ | refine blk_drew ?_ | refine blk_alloc ?_ _)); exact BK446.out)) : gb477 ≠ gb446)); have n8_ := Aside0.mk ((by rw [hg]; exact Nat.ne_of_lt (IsS137.lt (show IsS137 w _ g444 t471 t472 t473 t474 t475 t476 from by repeat (first | (with_reducible first | exact HI444.out | apply IsS137.alloc | apply IsS137.drewN | apply IsS137.drew | apply IsS137.set_0 | apply IsS137.set_1 | apply IsS137.set_2 | apply IsS137.set_3 | apply IsS137.set_4 | apply IsS137.set_5 | refine IsS137.far ?_ NB444_446.out _) | exact HI444.out))) : g444 ≠ gb477)); have n9_ := Aside0.mk ((by rw [hg]; exact Nat.ne_of_gt (IsS137.lt (show IsS137 w _ g444 t471 t472 t473 t474 t475 t476 from by repeat (first | (with_reducible first | exact HI444.out | apply IsS137.alloc | apply IsS137.drewN | apply IsS137.drew | apply IsS137.set_0 | apply IsS137.set_1 | apply IsS137.set_2 | apply IsS137.set_3 | apply IsS137.set_4 | apply IsS137.set_5 | refine IsS137.far ?_ NB444_446.out _) | exact HI444.out))) : gb477 ≠ g444)); clear HI444; clear BK446; clear HB; have HI444 := n0_; have BK446 := n1_; have HB := n2_; have BK477 := n3_; have GW477 := n4_; have GE477 := n5_; have NB446_477 := n6_; have NB477_446 := n7_; have NB444_477 := n8_; have NB477_444 := n9_; clear n0_ n1_ n2_ n3_ n4_ n5_ n6_ n7_ n8_ n9_; clear hb hbox hg; have hnb26 := NB477_446.out; have hnc26 := NB446_477.out; have hnb27 := NB477_444.out; have hnc27 := NB444_477.out; have hcz28_0 : w25.cell? ⟨gb477, 0, none⟩ = some (.bool false) := (blk_cell BK477.out 0).trans rfl; have hcz28_1 : w25.cell? ⟨gb477, 1, none⟩ = some (.int .i64 0) := (blk_cell BK477.out 1).trans rfl; have hcz28_2 : w25.cell? ⟨gb477, 2, none⟩ = some (.int .u64 0) := (blk_cell BK477.out 2).trans rfl; have hfz28_0 := blk_frozen BK477.out 0; have hfz28_1 := blk_frozen BK477.out 1; have hfz28_2 := blk_frozen BK477.out 2) | ((with_reducible refine gate_callee (f := 56) rfl ?_); refine goesL_ (some 34) rfl rfl Try.func56 (by kernel_rfl) rfl #[.pointer (some ⟨g444, 0, none⟩)] rfl (by (try simp only [List.map_toArray, List.map_cons, List.map_nil]); first | done | rfl | (simp only [List.length_drop, List.length_take]; rfl)) ?_; (with_reducible refine (conn_Conn_Owner.calls g444 t471 t472 t473 t474 t475 t476 t478 t479 t480 t481 t482 t483 t484 w _ ?side1 ?side2 (by first | exact A15.out | (have h_ := A15.out; exact h_))).mono ?_); (case side1 => repeat (first | (with_reducible first | exact HI444.out | apply IsS137.alloc | apply IsS137.drewN | apply IsS137.drew | apply IsS137.set_0 | apply IsS137.set_1 | apply IsS137.set_2 | apply IsS137.set_3 | apply IsS137.set_4 | apply IsS137.set_5 | refine IsS137.far ?_ NB444_446.out _ | refine IsS137.far ?_ NB444_477.out _) | exact HI444.out)); (case side2 => repeat (first | (with_reducible first | exact HB.out | apply below_alloc | apply pw_below_drewN | apply below_drew1 | refine below_set ?_ (IsS137.ge HI444.out) | refine below_set ?_ GE446.out | refine below_set ?_ GE477.out) | exact HB.out)); rintro e w29 ⟨rfl, hi, hb, hk⟩; refine ⟨_, rfl, ?_⟩; have n0_ := Aside0.mk (KeepBut.blk hk (g' := gb446) (o := .cells #[.int .i64 ((rd_T102 l0 x20_1).f0), .int .i64 ((rd_T102 l0 x20_1).f1), .int .u64 ((rd_T102 l0 x20_1).f2)] 102 (0, 0)) (by (with_reducible repeat (first | refine blk_drewN ?_ _ | refine blk_drew ?_ | refine blk_alloc ?_ _)); refine blk_far ?_ NB446_477.out _; (with_reducible repeat (first | refine blk_drewN ?_ _ | refine blk_drew ?_ | refine blk_alloc ?_ _)); refine blk_far ?_ NB446_477.out _; (with_reducible repeat (first | refine blk_drewN ?_ _ | refine blk_drew ?_ | refine blk_alloc ?_ _)); refine blk_far ?_ NB446_477.out _; (with_reducible repeat (first | refine blk_drewN ?_ _ | refine blk_drew ?_ | refine blk_alloc ?_ _)); exact BK446.out) NB446_444.out (by simp)); have n1_ := Aside0.mk (KeepBut.blk hk (g' := gb477) (o := .cells #[.bool t468, .int .i64 t469, .int .u64 t470] 104 (0, 0)) (by (with_reducible repeat (first | refine blk_drewN ?_ _ | refine blk_drew ?_ | refine blk_alloc ?_ _)); refine blk_put (cs := #[.bool t468, .int .i64 t469, .int .u64 0]) ?_ 2 _ rfl; (with_reducible repeat (first | refine blk_drewN ?_ _ | refine blk_drew ?_ | refine blk_alloc ?_ _)); refine blk_put (cs := #[.bool t468, .int .i64 0, .int .u64 0]) ?_ 1 _ rfl; (with_reducible repeat (first | refine blk_drewN ?_ _ | refine blk_drew ?_ | refine blk_alloc ?_ _)); refine blk_put (cs := #[.bool false, .int .i64 0, .int .u64 0]) ?_ 0 _ rfl; (with_reducible repeat (first | refine blk_drewN ?_ _ | refine blk_drew ?_ | refine blk_alloc ?_ _)); exact BK477.out) NB477_444.out (by simp)); have n2_ := Aside0.mk (hb); have n3_ := Aside0.mk (hi); clear BK446; clear BK477; clear HB; clear HI444; have BK446 := n0_; have BK477 := n1_; have HB := n2_; have HI444 := n3_; clear n0_ n1_ n2_ n3_; (try clear hb); (try clear hb2); (try clear hk); (try clear hi)))
        (try simp only [Act.put, List.setIfInBounds_toArray, List.set_cons_zero, List.set_cons_succ])
        go_cut [45] (fun v45 wc => ∃ (kq : Nat) (x45_15 : Bool), v45 = .bool x45_15 ∧ Aside0 (signalmanlaw09_ConnOne.j1 kq x4_1 t447 t454 t461 t478 l0 (l0.length : Int) x20_1 x45_15 t479 t480 t481 t482 t483 t484 ((rd_T102 l0 x20_1).f0) ((rd_T102 l0 x20_1).f1) ((rd_T102 l0 x20_1).f2) t468 t469 t470 = some r) ∧ Aside0 (kq ≤ k1) ∧ Aside0 (wc.heap[gb446]? = some (.cells #[.int .i64 ((rd_T102 l0 x20_1).f0), .int .i64 ((rd_T102 l0 x20_1).f1), .int .u64 ((rd_T102 l0 x20_1).f2)] 102 (0, 0))) ∧ Aside0 (wc.heap[gb477]? = some (.cells #[.bool t468, .int .i64 t469, .int .u64 t470] 104 (0, 0))) ∧ Aside0 (IsS137 w wc g444 t479 t480 t481 t482 t483 t484) ∧ Aside0 (Below w.heap.size w wc))
        case first =>
         have H := HC16.out
         clear HC16
         by_cases c30 : t447 = t478
         ·rw [if_pos c30] at H
          have c30b0 : (t447 == t478) = true := beq_iff_eq.mpr c30
          have c30b1 : (t447 != t478) = false := bne_eq_false_iff_eq.mpr c30
          clear c30
          (first | rw [c30b0] | (simp only [i64_w, i32_w]; rw [c30b0]) | skip)
          have H' := Aside0.mk H
          clear H
          go_wp2
          go_meet
          case rel => exact ⟨_, (false), (by first | rfl | (simp; done) | (simp [*]; done)), H', ⟨by have := HK1.out; first | omega | exact Nat.le_refl _⟩, ⟨by (with_reducible repeat (first | refine blk_drewN ?_ _ | refine blk_drew ?_ | refine blk_alloc ?_ _)); exact BK446.out⟩, ⟨by (with_reducible repeat (first | refine blk_drewN ?_ _ | refine blk_drew ?_ | refine blk_alloc ?_ _)); exact BK477.out⟩, ⟨by repeat (first | (with_reducible first | exact HI444.out | apply IsS137.alloc | apply IsS137.drewN | apply IsS137.drew | apply IsS137.set_0 | apply IsS137.set_1 | apply IsS137.set_2 | apply IsS137.set_3 | apply IsS137.set_4 | apply IsS137.set_5 | refine IsS137.far ?_ NB444_446.out _ | refine IsS137.far ?_ NB444_477.out _) | exact HI444.out)⟩, ⟨by repeat (first | (with_reducible first | exact HB.out | apply below_alloc | apply pw_below_drewN | apply below_drew1 | refine below_set ?_ (IsS137.ge HI444.out) | refine below_set ?_ GE446.out | refine below_set ?_ GE477.out) | exact HB.out)⟩⟩
         ·rw [if_neg c30] at H
          have c30b0 : (t447 == t478) = false := beq_eq_false_iff_ne.mpr c30
          have c30b1 : (t447 != t478) = true := bne_iff_ne.mpr c30
          (first | rw [c30b0] | (simp only [i64_w, i32_w]; rw [c30b0]) | skip)
          by_cases c31 : t447 = 0
          ·rw [if_pos c31] at H
           have c31b0 : (t447 == 0) = true := beq_iff_eq.mpr c31
           have c31b1 : (t447 != 0) = false := bne_eq_false_iff_eq.mpr c31
           clear c31
           have H' := Aside0.mk H
           clear H
           go_wp2
           go_meet
           case rel => exact ⟨_, (false), (by first | rfl | (simp; done) | (simp [*]; done)), H', ⟨by have := HK1.out; first | omega | exact Nat.le_refl _⟩, ⟨by (with_reducible repeat (first | refine blk_drewN ?_ _ | refine blk_drew ?_ | refine blk_alloc ?_ _)); exact BK446.out⟩, ⟨by (with_reducible repeat (first | refine blk_drewN ?_ _ | refine blk_drew ?_ | refine blk_alloc ?_ _)); exact BK477.out⟩, ⟨by repeat (first | (with_reducible first | exact HI444.out | apply IsS137.alloc | apply IsS137.drewN | apply IsS137.drew | apply IsS137.set_0 | apply IsS137.set_1 | apply IsS137.set_2 | apply IsS137.set_3 | apply IsS137.set_4 | apply IsS137.set_5 | refine IsS137.far ?_ NB444_446.out _ | refine IsS137.far ?_ NB444_477.out _) | exact HI444.out)⟩, ⟨by repeat (first | (with_reducible first | exact HB.out | apply below_alloc | apply pw_below_drewN | apply below_drew1 | refine below_set ?_ (IsS137.ge HI444.out) | refine below_set ?_ GE446.out | refine below_set ?_ GE477.out) | exact HB.out)⟩⟩
          ·rw [if_neg c31] at H
           have c31b0 : (t447 == 0) = false := beq_eq_false_iff_ne.mpr c31
           have c31b1 : (t447 != 0) = true := bne_iff_ne.mpr c31
           have H' := Aside0.mk H
           clear H
           go_wp2
           go_meet
           case rel => exact ⟨_, ((t478 != 0)), (by first | rfl | (simp; done) | (simp [*]; done)), H', ⟨by have := HK1.out; first | omega | exact Nat.le_refl _⟩, ⟨by (with_reducible repeat (first | refine blk_drewN ?_ _ | refine blk_drew ?_ | refine blk_alloc ?_ _)); exact BK446.out⟩, ⟨by (with_reducible repeat (first | refine blk_drewN ?_ _ | refine blk_drew ?_ | refine blk_alloc ?_ _)); exact BK477.out⟩, ⟨by repeat (first | (with_reducible first | exact HI444.out | apply IsS137.alloc | apply IsS137.drewN | apply IsS137.drew | apply IsS137.set_0 | apply IsS137.set_1 | apply IsS137.set_2 | apply IsS137.set_3 | apply IsS137.set_4 | apply IsS137.set_5 | refine IsS137.far ?_ NB444_446.out _ | refine IsS137.far ?_ NB444_477.out _) | exact HI444.out)⟩, ⟨by repeat (first | (with_reducible first | exact HB.out | apply below_alloc | apply pw_below_drewN | apply below_drew1 | refine below_set ?_ (IsS137.ge HI444.out) | refine below_set ?_ GE446.out | refine below_set ?_ GE477.out) | exact HB.out)⟩⟩
        case rest =>
         clear HC16
         try clear c1
         try clear c2
         try clear p2
         try clear c3
         try clear c3b0
         try clear c3b1
         try clear p4
         try clear q4
         try clear hx4
         try clear c5
         try clear c8
         try clear c8b0
         try clear c9
         try clear c9b0
         try clear c10
         try clear c10b0
         try clear c13
         try clear c18
         try clear c26
         try clear c27
         try clear c30
         try clear c30b0
         try clear c30b1
         try clear c31
         try clear c31b0
         try clear c31b1
         try clear hcz19_0
         try clear hcz19_1
         try clear hcz19_2
         try clear hcz23_0
         try clear hcz23_1
         try clear hcz23_2
         try clear hcz28_0
         try clear hcz28_1
         try clear hcz28_2
         try clear hfz19_0
         try clear hfz19_1
         try clear hfz19_2
         try clear hfz23_0
         try clear hfz23_1
         try clear hfz23_2
         try clear hfz28_0
         try clear hfz28_1
         try clear hfz28_2
         try clear hx445_0
         try clear hx445_1
         try clear hx445_2
         try clear p2
         try clear p445
         try clear q445
         obtain ⟨kq, x45_15, rfl, HA, HJ15, BK446, BK477, HI444, HB⟩ := hcut
         cases kq with
         | zero => exact absurd HA.out (by simp [signalmanlaw09_ConnOne.j1])
         | succ kj15 =>
          have H := HA.out
          clear HA
          simp only [signalmanlaw09_ConnOne.j1] at H
          by_cases c32 : x45_15 = true
          ·subst c32
           have H1 : (some false) = some r := by rw [if_pos rfl] at H; exact H
           clear H
           have H := H1
           clear H1
           obtain rfl := Option.some.inj H
           go_wp2
           go_ret
           exact ⟨by first | rfl | (simp [errW_none, errW_some] <;> rfl) | (simp [*, errW_none, errW_some] <;> rfl), by repeat (first | (with_reducible first | exact HB.out | apply below_alloc | apply pw_below_drewN | apply below_drew1 | refine below_set ?_ (IsS137.ge HI444.out) | refine below_set ?_ GE446.out | refine below_set ?_ GE477.out) | exact HB.out)⟩
          ·replace c32 := Bool.eq_false_iff.mpr c32
           subst c32
           have H1 : (if t478 = 0 then (signalmanlaw09_ConnOne.j2 kj15 x4_1 t447 t454 t478 l0 (l0.length : Int) x20_1 false t479 t480 t481 t482 t483 t484 ((rd_T102 l0 x20_1).f0) ((rd_T102 l0 x20_1).f1) ((rd_T102 l0 x20_1).f2) t468 t469 t470) else (if t447 = 0 then (if ((rd_T102 l0 x20_1).f0) = 0 then (if t468 = true then (if t478 = ((rd_T102 l0 x20_1).f1) then (signalmanlaw09_ConnOne.j2 kj15 x4_1 t447 t454 t478 l0 (l0.length : Int) x20_1 (t461 != 1) t479 t480 t481 t482 t483 t484 ((rd_T102 l0 x20_1).f0) ((rd_T102 l0 x20_1).f1) ((rd_T102 l0 x20_1).f2) t468 t469 t470) else (signalmanlaw09_ConnOne.j2 kj15 x4_1 t447 t454 t478 l0 (l0.length : Int) x20_1 true t479 t480 t481 t482 t483 t484 ((rd_T102 l0 x20_1).f0) ((rd_T102 l0 x20_1).f1) ((rd_T102 l0 x20_1).f2) t468 t469 t470)) else (signalmanlaw09_ConnOne.j2 kj15 x4_1 t447 t454 t478 l0 (l0.length : Int) x20_1 true t479 t480 t481 t482 t483 t484 ((rd_T102 l0 x20_1).f0) ((rd_T102 l0 x20_1).f1) ((rd_T102 l0 x20_1).f2) t468 t469 t470)) else (signalmanlaw09_ConnOne.j2 kj15 x4_1 t447 t454 t478 l0 (l0.length : Int) x20_1 true t479 t480 t481 t482 t483 t484 ((rd_T102 l0 x20_1).f0) ((rd_T102 l0 x20_1).f1) ((rd_T102 l0 x20_1).f2) t468 t469 t470)) else (signalmanlaw09_ConnOne.j2 kj15 x4_1 t447 t454 t478 l0 (l0.length : Int) x20_1 false t479 t480 t481 t482 t483 t484 ((rd_T102 l0 x20_1).f0) ((rd_T102 l0 x20_1).f1) ((rd_T102 l0 x20_1).f2) t468 t469 t470))) = some r := by rw [if_neg (show ¬ (false = true) by decide)] at H; exact H
           clear H
           have H := H1
           clear H1
           have HC33 := Aside0.mk H
           clear H
           go_upto_region 15 with (fail)
           go_cut [71] (fun v71 wc => ∃ (kq : Nat) (x71_32 : Bool), v71 = .bool x71_32 ∧ Aside0 (signalmanlaw09_ConnOne.j2 kq x4_1 t447 t454 t478 l0 (l0.length : Int) x20_1 x71_32 t479 t480 t481 t482 t483 t484 ((rd_T102 l0 x20_1).f0) ((rd_T102 l0 x20_1).f1) ((rd_T102 l0 x20_1).f2) t468 t469 t470 = some r) ∧ Aside0 (kq ≤ kj15) ∧ Aside0 (wc.heap[gb446]? = some (.cells #[.int .i64 ((rd_T102 l0 x20_1).f0), .int .i64 ((rd_T102 l0 x20_1).f1), .int .u64 ((rd_T102 l0 x20_1).f2)] 102 (0, 0))) ∧ Aside0 (wc.heap[gb477]? = some (.cells #[.bool t468, .int .i64 t469, .int .u64 t470] 104 (0, 0))) ∧ Aside0 (IsS137 w wc g444 t479 t480 t481 t482 t483 t484) ∧ Aside0 (Below w.heap.size w wc))
           case first =>
            have H := HC33.out
            clear HC33
            by_cases c34 : t478 = 0
            ·rw [if_pos c34] at H
             have c34b0 : (t478 == 0) = true := beq_iff_eq.mpr c34
             have c34b1 : (t478 != 0) = false := bne_eq_false_iff_eq.mpr c34
             clear c34
             (first | rw [c34b0] | (simp only [i64_w, i32_w]; rw [c34b0]) | skip)
             have H' := Aside0.mk H
             clear H
             go_wp2
             go_meet
             case rel => exact ⟨_, (false), (by first | rfl | (simp; done) | (simp [*]; done)), H', ⟨by have := HK1.out; have := HJ15.out; first | omega | exact Nat.le_refl _⟩, ⟨by (with_reducible repeat (first | refine blk_drewN ?_ _ | refine blk_drew ?_ | refine blk_alloc ?_ _)); exact BK446.out⟩, ⟨by (with_reducible repeat (first | refine blk_drewN ?_ _ | refine blk_drew ?_ | refine blk_alloc ?_ _)); exact BK477.out⟩, ⟨by repeat (first | (with_reducible first | exact HI444.out | apply IsS137.alloc | apply IsS137.drewN | apply IsS137.drew | apply IsS137.set_0 | apply IsS137.set_1 | apply IsS137.set_2 | apply IsS137.set_3 | apply IsS137.set_4 | apply IsS137.set_5 | refine IsS137.far ?_ NB444_446.out _ | refine IsS137.far ?_ NB444_477.out _) | exact HI444.out)⟩, ⟨by repeat (first | (with_reducible first | exact HB.out | apply below_alloc | apply pw_below_drewN | apply below_drew1 | refine below_set ?_ (IsS137.ge HI444.out) | refine below_set ?_ GE446.out | refine below_set ?_ GE477.out) | exact HB.out)⟩⟩
            ·rw [if_neg c34] at H
             have c34b0 : (t478 == 0) = false := beq_eq_false_iff_ne.mpr c34
             have c34b1 : (t478 != 0) = true := bne_iff_ne.mpr c34
             (first | rw [c34b0] | (simp only [i64_w, i32_w]; rw [c34b0]) | skip)
             by_cases c35 : t447 = 0
             ·rw [if_pos c35] at H
              have c35b0 : (t447 == 0) = true := beq_iff_eq.mpr c35
              have c35b1 : (t447 != 0) = false := bne_eq_false_iff_eq.mpr c35
              clear c35
              by_cases c36 : ((rd_T102 l0 x20_1).f0) = 0
              ·rw [if_pos c36] at H
               have c36b0 : (((rd_T102 l0 x20_1).f0) == 0) = true := beq_iff_eq.mpr c36
               have c36b1 : (((rd_T102 l0 x20_1).f0) != 0) = false := bne_eq_false_iff_eq.mpr c36
               clear c36
               by_cases c37 : t468 = true
               ·subst c37
                have H1 : (if t478 = ((rd_T102 l0 x20_1).f1) then (signalmanlaw09_ConnOne.j2 kj15 x4_1 t447 t454 t478 l0 (l0.length : Int) x20_1 (t461 != 1) t479 t480 t481 t482 t483 t484 ((rd_T102 l0 x20_1).f0) ((rd_T102 l0 x20_1).f1) ((rd_T102 l0 x20_1).f2) true t469 t470) else (signalmanlaw09_ConnOne.j2 kj15 x4_1 t447 t454 t478 l0 (l0.length : Int) x20_1 true t479 t480 t481 t482 t483 t484 ((rd_T102 l0 x20_1).f0) ((rd_T102 l0 x20_1).f1) ((rd_T102 l0 x20_1).f2) true t469 t470)) = some r := by rw [if_pos rfl] at H; exact H
                clear H
                have H := H1
                clear H1
                by_cases c38 : t478 = ((rd_T102 l0 x20_1).f1)
                ·rw [if_pos c38] at H
                 have c38b0 : (t478 == ((rd_T102 l0 x20_1).f1)) = true := beq_iff_eq.mpr c38
                 have c38b1 : (t478 != ((rd_T102 l0 x20_1).f1)) = false := bne_eq_false_iff_eq.mpr c38
                 clear c38
                 have H' := Aside0.mk H
                 clear H
                 have hnb39 := NB446_477.out
                 have hnc39 := NB477_446.out
                 have hnb40 := NB446_444.out
                 have hnc40 := NB444_446.out
                 have hcz41_0 : wc.cell? ⟨gb446, 0, none⟩ = some (.int .i64 ((rd_T102 l0 x20_1).f0)) := (blk_cell BK446.out 0).trans rfl
                 have hcz41_1 : wc.cell? ⟨gb446, 1, none⟩ = some (.int .i64 ((rd_T102 l0 x20_1).f1)) := (blk_cell BK446.out 1).trans rfl
                 have hcz41_2 : wc.cell? ⟨gb446, 2, none⟩ = some (.int .u64 ((rd_T102 l0 x20_1).f2)) := (blk_cell BK446.out 2).trans rfl
                 have hfz41_0 := blk_frozen BK446.out 0
                 have hfz41_1 := blk_frozen BK446.out 1
                 have hfz41_2 := blk_frozen BK446.out 2
                 have hnb42 := NB477_444.out
                 have hnc42 := NB444_477.out
                 have hcz43_0 : wc.cell? ⟨gb477, 0, none⟩ = some (.bool true) := (blk_cell BK477.out 0).trans rfl
                 have hcz43_1 : wc.cell? ⟨gb477, 1, none⟩ = some (.int .i64 t469) := (blk_cell BK477.out 1).trans rfl
                 have hcz43_2 : wc.cell? ⟨gb477, 2, none⟩ = some (.int .u64 t470) := (blk_cell BK477.out 2).trans rfl
                 have hfz43_0 := blk_frozen BK477.out 0
                 have hfz43_1 := blk_frozen BK477.out 1
                 have hfz43_2 := blk_frozen BK477.out 2
                 go_wp2
                 go_meet
                 case rel => exact ⟨_, ((t461 != 1)), (by first | rfl | (simp; done) | (simp [*]; done)), H', ⟨by have := HK1.out; have := HJ15.out; first | omega | exact Nat.le_refl _⟩, ⟨by (with_reducible repeat (first | refine blk_drewN ?_ _ | refine blk_drew ?_ | refine blk_alloc ?_ _)); exact BK446.out⟩, ⟨by (with_reducible repeat (first | refine blk_drewN ?_ _ | refine blk_drew ?_ | refine blk_alloc ?_ _)); exact BK477.out⟩, ⟨by repeat (first | (with_reducible first | exact HI444.out | apply IsS137.alloc | apply IsS137.drewN | apply IsS137.drew | apply IsS137.set_0 | apply IsS137.set_1 | apply IsS137.set_2 | apply IsS137.set_3 | apply IsS137.set_4 | apply IsS137.set_5 | refine IsS137.far ?_ NB444_446.out _ | refine IsS137.far ?_ NB444_477.out _) | exact HI444.out)⟩, ⟨by repeat (first | (with_reducible first | exact HB.out | apply below_alloc | apply pw_below_drewN | apply below_drew1 | refine below_set ?_ (IsS137.ge HI444.out) | refine below_set ?_ GE446.out | refine below_set ?_ GE477.out) | exact HB.out)⟩⟩
                ·rw [if_neg c38] at H
                 have c38b0 : (t478 == ((rd_T102 l0 x20_1).f1)) = false := beq_eq_false_iff_ne.mpr c38
                 have c38b1 : (t478 != ((rd_T102 l0 x20_1).f1)) = true := bne_iff_ne.mpr c38
                 have H' := Aside0.mk H
                 clear H
                 have hnb44 := NB446_477.out
                 have hnc44 := NB477_446.out
                 have hnb45 := NB446_444.out
                 have hnc45 := NB444_446.out
                 have hcz46_0 : wc.cell? ⟨gb446, 0, none⟩ = some (.int .i64 ((rd_T102 l0 x20_1).f0)) := (blk_cell BK446.out 0).trans rfl
                 have hcz46_1 : wc.cell? ⟨gb446, 1, none⟩ = some (.int .i64 ((rd_T102 l0 x20_1).f1)) := (blk_cell BK446.out 1).trans rfl
                 have hcz46_2 : wc.cell? ⟨gb446, 2, none⟩ = some (.int .u64 ((rd_T102 l0 x20_1).f2)) := (blk_cell BK446.out 2).trans rfl
                 have hfz46_0 := blk_frozen BK446.out 0
                 have hfz46_1 := blk_frozen BK446.out 1
                 have hfz46_2 := blk_frozen BK446.out 2
                 have hnb47 := NB477_444.out
                 have hnc47 := NB444_477.out
                 have hcz48_0 : wc.cell? ⟨gb477, 0, none⟩ = some (.bool true) := (blk_cell BK477.out 0).trans rfl
                 have hcz48_1 : wc.cell? ⟨gb477, 1, none⟩ = some (.int .i64 t469) := (blk_cell BK477.out 1).trans rfl
                 have hcz48_2 : wc.cell? ⟨gb477, 2, none⟩ = some (.int .u64 t470) := (blk_cell BK477.out 2).trans rfl
                 have hfz48_0 := blk_frozen BK477.out 0
                 have hfz48_1 := blk_frozen BK477.out 1
                 have hfz48_2 := blk_frozen BK477.out 2
                 go_wp2
                 go_meet
                 case rel => exact ⟨_, (true), (by first | rfl | (simp; done) | (simp [*]; done)), H', ⟨by have := HK1.out; have := HJ15.out; first | omega | exact Nat.le_refl _⟩, ⟨by (with_reducible repeat (first | refine blk_drewN ?_ _ | refine blk_drew ?_ | refine blk_alloc ?_ _)); exact BK446.out⟩, ⟨by (with_reducible repeat (first | refine blk_drewN ?_ _ | refine blk_drew ?_ | refine blk_alloc ?_ _)); exact BK477.out⟩, ⟨by repeat (first | (with_reducible first | exact HI444.out | apply IsS137.alloc | apply IsS137.drewN | apply IsS137.drew | apply IsS137.set_0 | apply IsS137.set_1 | apply IsS137.set_2 | apply IsS137.set_3 | apply IsS137.set_4 | apply IsS137.set_5 | refine IsS137.far ?_ NB444_446.out _ | refine IsS137.far ?_ NB444_477.out _) | exact HI444.out)⟩, ⟨by repeat (first | (with_reducible first | exact HB.out | apply below_alloc | apply pw_below_drewN | apply below_drew1 | refine below_set ?_ (IsS137.ge HI444.out) | refine below_set ?_ GE446.out | refine below_set ?_ GE477.out) | exact HB.out)⟩⟩
               ·replace c37 := Bool.eq_false_iff.mpr c37
                subst c37
                have H1 : (signalmanlaw09_ConnOne.j2 kj15 x4_1 t447 t454 t478 l0 (l0.length : Int) x20_1 true t479 t480 t481 t482 t483 t484 ((rd_T102 l0 x20_1).f0) ((rd_T102 l0 x20_1).f1) ((rd_T102 l0 x20_1).f2) false t469 t470) = some r := by rw [if_neg (show ¬ (false = true) by decide)] at H; exact H
                clear H
                have H := H1
                clear H1
                have H' := Aside0.mk H
                clear H
                have hnb49 := NB446_477.out
                have hnc49 := NB477_446.out
                have hnb50 := NB446_444.out
                have hnc50 := NB444_446.out
                have hcz51_0 : wc.cell? ⟨gb446, 0, none⟩ = some (.int .i64 ((rd_T102 l0 x20_1).f0)) := (blk_cell BK446.out 0).trans rfl
                have hcz51_1 : wc.cell? ⟨gb446, 1, none⟩ = some (.int .i64 ((rd_T102 l0 x20_1).f1)) := (blk_cell BK446.out 1).trans rfl
                have hcz51_2 : wc.cell? ⟨gb446, 2, none⟩ = some (.int .u64 ((rd_T102 l0 x20_1).f2)) := (blk_cell BK446.out 2).trans rfl
                have hfz51_0 := blk_frozen BK446.out 0
                have hfz51_1 := blk_frozen BK446.out 1
                have hfz51_2 := blk_frozen BK446.out 2
                have hnb52 := NB477_444.out
                have hnc52 := NB444_477.out
                have hcz53_0 : wc.cell? ⟨gb477, 0, none⟩ = some (.bool false) := (blk_cell BK477.out 0).trans rfl
                have hcz53_1 : wc.cell? ⟨gb477, 1, none⟩ = some (.int .i64 t469) := (blk_cell BK477.out 1).trans rfl
                have hcz53_2 : wc.cell? ⟨gb477, 2, none⟩ = some (.int .u64 t470) := (blk_cell BK477.out 2).trans rfl
                have hfz53_0 := blk_frozen BK477.out 0
                have hfz53_1 := blk_frozen BK477.out 1
                have hfz53_2 := blk_frozen BK477.out 2
                go_wp2
                go_meet
                case rel => exact ⟨_, (true), (by first | rfl | (simp; done) | (simp [*]; done)), H', ⟨by have := HK1.out; have := HJ15.out; first | omega | exact Nat.le_refl _⟩, ⟨by (with_reducible repeat (first | refine blk_drewN ?_ _ | refine blk_drew ?_ | refine blk_alloc ?_ _)); exact BK446.out⟩, ⟨by (with_reducible repeat (first | refine blk_drewN ?_ _ | refine blk_drew ?_ | refine blk_alloc ?_ _)); exact BK477.out⟩, ⟨by repeat (first | (with_reducible first | exact HI444.out | apply IsS137.alloc | apply IsS137.drewN | apply IsS137.drew | apply IsS137.set_0 | apply IsS137.set_1 | apply IsS137.set_2 | apply IsS137.set_3 | apply IsS137.set_4 | apply IsS137.set_5 | refine IsS137.far ?_ NB444_446.out _ | refine IsS137.far ?_ NB444_477.out _) | exact HI444.out)⟩, ⟨by repeat (first | (with_reducible first | exact HB.out | apply below_alloc | apply pw_below_drewN | apply below_drew1 | refine below_set ?_ (IsS137.ge HI444.out) | refine below_set ?_ GE446.out | refine below_set ?_ GE477.out) | exact HB.out)⟩⟩
              ·rw [if_neg c36] at H
               have c36b0 : (((rd_T102 l0 x20_1).f0) == 0) = false := beq_eq_false_iff_ne.mpr c36
               have c36b1 : (((rd_T102 l0 x20_1).f0) != 0) = true := bne_iff_ne.mpr c36
               have H' := Aside0.mk H
               clear H
               have hnb54 := NB446_477.out
               have hnc54 := NB477_446.out
               have hnb55 := NB446_444.out
               have hnc55 := NB444_446.out
               have hcz56_0 : wc.cell? ⟨gb446, 0, none⟩ = some (.int .i64 ((rd_T102 l0 x20_1).f0)) := (blk_cell BK446.out 0).trans rfl
               have hcz56_1 : wc.cell? ⟨gb446, 1, none⟩ = some (.int .i64 ((rd_T102 l0 x20_1).f1)) := (blk_cell BK446.out 1).trans rfl
               have hcz56_2 : wc.cell? ⟨gb446, 2, none⟩ = some (.int .u64 ((rd_T102 l0 x20_1).f2)) := (blk_cell BK446.out 2).trans rfl
               have hfz56_0 := blk_frozen BK446.out 0
               have hfz56_1 := blk_frozen BK446.out 1
               have hfz56_2 := blk_frozen BK446.out 2
               go_wp2
               go_meet
               case rel => exact ⟨_, (true), (by first | rfl | (simp; done) | (simp [*]; done)), H', ⟨by have := HK1.out; have := HJ15.out; first | omega | exact Nat.le_refl _⟩, ⟨by (with_reducible repeat (first | refine blk_drewN ?_ _ | refine blk_drew ?_ | refine blk_alloc ?_ _)); exact BK446.out⟩, ⟨by (with_reducible repeat (first | refine blk_drewN ?_ _ | refine blk_drew ?_ | refine blk_alloc ?_ _)); exact BK477.out⟩, ⟨by repeat (first | (with_reducible first | exact HI444.out | apply IsS137.alloc | apply IsS137.drewN | apply IsS137.drew | apply IsS137.set_0 | apply IsS137.set_1 | apply IsS137.set_2 | apply IsS137.set_3 | apply IsS137.set_4 | apply IsS137.set_5 | refine IsS137.far ?_ NB444_446.out _ | refine IsS137.far ?_ NB444_477.out _) | exact HI444.out)⟩, ⟨by repeat (first | (with_reducible first | exact HB.out | apply below_alloc | apply pw_below_drewN | apply below_drew1 | refine below_set ?_ (IsS137.ge HI444.out) | refine below_set ?_ GE446.out | refine below_set ?_ GE477.out) | exact HB.out)⟩⟩
             ·rw [if_neg c35] at H
              have c35b0 : (t447 == 0) = false := beq_eq_false_iff_ne.mpr c35
              have c35b1 : (t447 != 0) = true := bne_iff_ne.mpr c35
              have H' := Aside0.mk H
              clear H
              go_wp2
              go_meet
              case rel => exact ⟨_, (false), (by first | rfl | (simp; done) | (simp [*]; done)), H', ⟨by have := HK1.out; have := HJ15.out; first | omega | exact Nat.le_refl _⟩, ⟨by (with_reducible repeat (first | refine blk_drewN ?_ _ | refine blk_drew ?_ | refine blk_alloc ?_ _)); exact BK446.out⟩, ⟨by (with_reducible repeat (first | refine blk_drewN ?_ _ | refine blk_drew ?_ | refine blk_alloc ?_ _)); exact BK477.out⟩, ⟨by repeat (first | (with_reducible first | exact HI444.out | apply IsS137.alloc | apply IsS137.drewN | apply IsS137.drew | apply IsS137.set_0 | apply IsS137.set_1 | apply IsS137.set_2 | apply IsS137.set_3 | apply IsS137.set_4 | apply IsS137.set_5 | refine IsS137.far ?_ NB444_446.out _ | refine IsS137.far ?_ NB444_477.out _) | exact HI444.out)⟩, ⟨by repeat (first | (with_reducible first | exact HB.out | apply below_alloc | apply pw_below_drewN | apply below_drew1 | refine below_set ?_ (IsS137.ge HI444.out) | refine below_set ?_ GE446.out | refine below_set ?_ GE477.out) | exact HB.out)⟩⟩
           case rest =>
            clear HC33
            try clear c1
            try clear c2
            try clear p2
            try clear c3
            try clear c3b0
            try clear c3b1
            try clear c4
            try clear p4
            try clear q4
            try clear hx4
            try clear c5
            try clear c8
            try clear c8b0
            try clear c9
            try clear c9b0
            try clear c10
            try clear c10b0
            try clear c13
            try clear c18
            try clear c26
            try clear c27
            try clear c30
            try clear c30b0
            try clear c30b1
            try clear c31
            try clear c31b0
            try clear c31b1
            try clear c32
            try clear c34
            try clear c34b0
            try clear c34b1
            try clear c35
            try clear c35b0
            try clear c35b1
            try clear c36
            try clear c36b0
            try clear c36b1
            try clear c37
            try clear c38
            try clear c38b0
            try clear c38b1
            try clear c39
            try clear c40
            try clear c42
            try clear c44
            try clear p44
            try clear q44
            try clear hx44
            try clear c45
            try clear c47
            try clear c49
            try clear c50
            try clear c51
            try clear c52
            try clear c53
            try clear c54
            try clear c55
            try clear c56
            try clear hcz19_0
            try clear hcz19_1
            try clear hcz19_2
            try clear hcz23_0
            try clear hcz23_1
            try clear hcz23_2
            try clear hcz28_0
            try clear hcz28_1
            try clear hcz28_2
            try clear hcz41_0
            try clear hcz41_1
            try clear hcz41_2
            try clear hcz43_0
            try clear hcz43_1
            try clear hcz43_2
            try clear hcz46_0
            try clear hcz46_1
            try clear hcz46_2
            try clear hcz48_0
            try clear hcz48_1
            try clear hcz48_2
            try clear hcz51_0
            try clear hcz51_1
            try clear hcz51_2
            try clear hcz53_0
            try clear hcz53_1
            try clear hcz53_2
            try clear hcz56_0
            try clear hcz56_1
            try clear hcz56_2
            try clear hfz19_0
            try clear hfz19_1
            try clear hfz19_2
            try clear hfz23_0
            try clear hfz23_1
            try clear hfz23_2
            try clear hfz28_0
            try clear hfz28_1
            try clear hfz28_2
            try clear hfz41_0
            try clear hfz41_1
            try clear hfz41_2
            try clear hfz43_0
            try clear hfz43_1
            try clear hfz43_2
            try clear hfz46_0
            try clear hfz46_1
            try clear hfz46_2
            try clear hfz48_0
            try clear hfz48_1
            try clear hfz48_2
            try clear hfz51_0
            try clear hfz51_1
            try clear hfz51_2
            try clear hfz53_0
            try clear hfz53_1
            try clear hfz53_2
            try clear hfz56_0
            try clear hfz56_1
            try clear hfz56_2
            try clear hx445_0
            try clear hx445_1
            try clear hx445_2
            try clear p2
            try clear p4
            try clear p445
            try clear q4
            try clear q445
            obtain ⟨kq, x71_32, rfl, HA, HJ32, BK446, BK477, HI444, HB⟩ := hcut
            cases kq with
            | zero => exact absurd HA.out (by simp [signalmanlaw09_ConnOne.j2])
            | succ kj32 =>
             have H := HA.out
             clear HA
             simp only [signalmanlaw09_ConnOne.j2] at H
             by_cases c57 : x71_32 = true
             ·subst c57
              have H1 : (some false) = some r := by rw [if_pos rfl] at H; exact H
              clear H
              have H := H1
              clear H1
              obtain rfl := Option.some.inj H
              go_wp2
              go_ret
              exact ⟨by first | rfl | (simp [errW_none, errW_some] <;> rfl) | (simp [*, errW_none, errW_some] <;> rfl), by repeat (first | (with_reducible first | exact HB.out | apply below_alloc | apply pw_below_drewN | apply below_drew1 | refine below_set ?_ (IsS137.ge HI444.out) | refine below_set ?_ GE446.out | refine below_set ?_ GE477.out) | exact HB.out)⟩
             ·replace c57 := Bool.eq_false_iff.mpr c57
              subst c57
              have H1 : (if ((rd_T102 l0 x20_1).f0) = 1 then (signalmanlaw09_ConnOne.j3 kj32 x4_1 t447 t454 t478 l0 (l0.length : Int) x20_1 (t469 == 0) t479 t480 t481 t482 t483 t484 ((rd_T102 l0 x20_1).f0) ((rd_T102 l0 x20_1).f1) ((rd_T102 l0 x20_1).f2) t468 t469 t470) else (signalmanlaw09_ConnOne.j3 kj32 x4_1 t447 t454 t478 l0 (l0.length : Int) x20_1 false t479 t480 t481 t482 t483 t484 ((rd_T102 l0 x20_1).f0) ((rd_T102 l0 x20_1).f1) ((rd_T102 l0 x20_1).f2) t468 t469 t470)) = some r := by rw [if_neg (show ¬ (false = true) by decide)] at H; exact H
              clear H
              have H := H1
              clear H1
              have HC58 := Aside0.mk H
              clear H
              go_upto_region 17 with (fail)
              go_cut [79] (fun v79 wc => ∃ (kq : Nat) (x79_57 : Bool), v79 = .bool x79_57 ∧ Aside0 (signalmanlaw09_ConnOne.j3 kq x4_1 t447 t454 t478 l0 (l0.length : Int) x20_1 x79_57 t479 t480 t481 t482 t483 t484 ((rd_T102 l0 x20_1).f0) ((rd_T102 l0 x20_1).f1) ((rd_T102 l0 x20_1).f2) t468 t469 t470 = some r) ∧ Aside0 (kq ≤ kj32) ∧ Aside0 (wc.heap[gb446]? = some (.cells #[.int .i64 ((rd_T102 l0 x20_1).f0), .int .i64 ((rd_T102 l0 x20_1).f1), .int .u64 ((rd_T102 l0 x20_1).f2)] 102 (0, 0))) ∧ Aside0 (wc.heap[gb477]? = some (.cells #[.bool t468, .int .i64 t469, .int .u64 t470] 104 (0, 0))) ∧ Aside0 (IsS137 w wc g444 t479 t480 t481 t482 t483 t484) ∧ Aside0 (Below w.heap.size w wc))
              case first =>
               have H := HC58.out
               clear HC58
               by_cases c59 : ((rd_T102 l0 x20_1).f0) = 1
               ·rw [if_pos c59] at H
                have c59b0 : (((rd_T102 l0 x20_1).f0) == 1) = true := beq_iff_eq.mpr c59
                have c59b1 : (((rd_T102 l0 x20_1).f0) != 1) = false := bne_eq_false_iff_eq.mpr c59
                clear c59
                (first | rw [c59b0] | (simp only [i64_w, i32_w]; rw [c59b0]) | skip)
                have H' := Aside0.mk H
                clear H
                have hnb60 := NB446_477.out
                have hnc60 := NB477_446.out
                have hnb61 := NB446_444.out
                have hnc61 := NB444_446.out
                have hcz62_0 : wc.cell? ⟨gb446, 0, none⟩ = some (.int .i64 ((rd_T102 l0 x20_1).f0)) := (blk_cell BK446.out 0).trans rfl
                have hcz62_1 : wc.cell? ⟨gb446, 1, none⟩ = some (.int .i64 ((rd_T102 l0 x20_1).f1)) := (blk_cell BK446.out 1).trans rfl
                have hcz62_2 : wc.cell? ⟨gb446, 2, none⟩ = some (.int .u64 ((rd_T102 l0 x20_1).f2)) := (blk_cell BK446.out 2).trans rfl
                have hfz62_0 := blk_frozen BK446.out 0
                have hfz62_1 := blk_frozen BK446.out 1
                have hfz62_2 := blk_frozen BK446.out 2
                have hnb63 := NB477_444.out
                have hnc63 := NB444_477.out
                have hcz64_0 : wc.cell? ⟨gb477, 0, none⟩ = some (.bool t468) := (blk_cell BK477.out 0).trans rfl
                have hcz64_1 : wc.cell? ⟨gb477, 1, none⟩ = some (.int .i64 t469) := (blk_cell BK477.out 1).trans rfl
                have hcz64_2 : wc.cell? ⟨gb477, 2, none⟩ = some (.int .u64 t470) := (blk_cell BK477.out 2).trans rfl
                have hfz64_0 := blk_frozen BK477.out 0
                have hfz64_1 := blk_frozen BK477.out 1
                have hfz64_2 := blk_frozen BK477.out 2
                go_wp2
                go_meet
                case rel => exact ⟨_, ((t469 == 0)), (by first | rfl | (simp; done) | (simp [*]; done)), H', ⟨by have := HK1.out; have := HJ15.out; have := HJ32.out; first | omega | exact Nat.le_refl _⟩, ⟨by (with_reducible repeat (first | refine blk_drewN ?_ _ | refine blk_drew ?_ | refine blk_alloc ?_ _)); exact BK446.out⟩, ⟨by (with_reducible repeat (first | refine blk_drewN ?_ _ | refine blk_drew ?_ | refine blk_alloc ?_ _)); exact BK477.out⟩, ⟨by repeat (first | (with_reducible first | exact HI444.out | apply IsS137.alloc | apply IsS137.drewN | apply IsS137.drew | apply IsS137.set_0 | apply IsS137.set_1 | apply IsS137.set_2 | apply IsS137.set_3 | apply IsS137.set_4 | apply IsS137.set_5 | refine IsS137.far ?_ NB444_446.out _ | refine IsS137.far ?_ NB444_477.out _) | exact HI444.out)⟩, ⟨by repeat (first | (with_reducible first | exact HB.out | apply below_alloc | apply pw_below_drewN | apply below_drew1 | refine below_set ?_ (IsS137.ge HI444.out) | refine below_set ?_ GE446.out | refine below_set ?_ GE477.out) | exact HB.out)⟩⟩
               ·rw [if_neg c59] at H
                have c59b0 : (((rd_T102 l0 x20_1).f0) == 1) = false := beq_eq_false_iff_ne.mpr c59
                have c59b1 : (((rd_T102 l0 x20_1).f0) != 1) = true := bne_iff_ne.mpr c59
                (first | rw [c59b0] | (simp only [i64_w, i32_w]; rw [c59b0]) | skip)
                have H' := Aside0.mk H
                clear H
                have hnb65 := NB446_477.out
                have hnc65 := NB477_446.out
                have hnb66 := NB446_444.out
                have hnc66 := NB444_446.out
                have hcz67_0 : wc.cell? ⟨gb446, 0, none⟩ = some (.int .i64 ((rd_T102 l0 x20_1).f0)) := (blk_cell BK446.out 0).trans rfl
                have hcz67_1 : wc.cell? ⟨gb446, 1, none⟩ = some (.int .i64 ((rd_T102 l0 x20_1).f1)) := (blk_cell BK446.out 1).trans rfl
                have hcz67_2 : wc.cell? ⟨gb446, 2, none⟩ = some (.int .u64 ((rd_T102 l0 x20_1).f2)) := (blk_cell BK446.out 2).trans rfl
                have hfz67_0 := blk_frozen BK446.out 0
                have hfz67_1 := blk_frozen BK446.out 1
                have hfz67_2 := blk_frozen BK446.out 2
                go_wp2
                go_meet
                case rel => exact ⟨_, (false), (by first | rfl | (simp; done) | (simp [*]; done)), H', ⟨by have := HK1.out; have := HJ15.out; have := HJ32.out; first | omega | exact Nat.le_refl _⟩, ⟨by (with_reducible repeat (first | refine blk_drewN ?_ _ | refine blk_drew ?_ | refine blk_alloc ?_ _)); exact BK446.out⟩, ⟨by (with_reducible repeat (first | refine blk_drewN ?_ _ | refine blk_drew ?_ | refine blk_alloc ?_ _)); exact BK477.out⟩, ⟨by repeat (first | (with_reducible first | exact HI444.out | apply IsS137.alloc | apply IsS137.drewN | apply IsS137.drew | apply IsS137.set_0 | apply IsS137.set_1 | apply IsS137.set_2 | apply IsS137.set_3 | apply IsS137.set_4 | apply IsS137.set_5 | refine IsS137.far ?_ NB444_446.out _ | refine IsS137.far ?_ NB444_477.out _) | exact HI444.out)⟩, ⟨by repeat (first | (with_reducible first | exact HB.out | apply below_alloc | apply pw_below_drewN | apply below_drew1 | refine below_set ?_ (IsS137.ge HI444.out) | refine below_set ?_ GE446.out | refine below_set ?_ GE477.out) | exact HB.out)⟩⟩
              case rest =>
               clear HC58
               try clear c1
               try clear c2
               try clear p2
               try clear c3
               try clear c3b0
               try clear c3b1
               try clear c4
               try clear p4
               try clear q4
               try clear hx4
               try clear c5
               try clear c6
               try clear c8
               try clear c8b0
               try clear c9
               try clear c9b0
               try clear c10
               try clear c10b0
               try clear c13
               try clear c18
               try clear c26
               try clear c27
               try clear c30
               try clear c30b0
               try clear c30b1
               try clear c31
               try clear c31b0
               try clear c31b1
               try clear c32
               try clear c34
               try clear c34b0
               try clear c34b1
               try clear c35
               try clear c35b0
               try clear c35b1
               try clear c36
               try clear c36b0
               try clear c36b1
               try clear c37
               try clear c38
               try clear c38b0
               try clear c38b1
               try clear c39
               try clear c40
               try clear c42
               try clear c44
               try clear p44
               try clear q44
               try clear hx44
               try clear c45
               try clear c47
               try clear c49
               try clear c50
               try clear c51
               try clear c52
               try clear c53
               try clear c54
               try clear c55
               try clear c56
               try clear c57
               try clear c59
               try clear c59b0
               try clear c59b1
               try clear c60
               try clear c61
               try clear c63
               try clear c65
               try clear c66
               try clear hcz19_0
               try clear hcz19_1
               try clear hcz19_2
               try clear hcz23_0
               try clear hcz23_1
               try clear hcz23_2
               try clear hcz28_0
               try clear hcz28_1
               try clear hcz28_2
               try clear hcz41_0
               try clear hcz41_1
               try clear hcz41_2
               try clear hcz43_0
               try clear hcz43_1
               try clear hcz43_2
               try clear hcz46_0
               try clear hcz46_1
               try clear hcz46_2
               try clear hcz48_0
               try clear hcz48_1
               try clear hcz48_2
               try clear hcz51_0
               try clear hcz51_1
               try clear hcz51_2
               try clear hcz53_0
               try clear hcz53_1
               try clear hcz53_2
               try clear hcz56_0
               try clear hcz56_1
               try clear hcz56_2
               try clear hcz62_0
               try clear hcz62_1
               try clear hcz62_2
               try clear hcz64_0
               try clear hcz64_1
               try clear hcz64_2
               try clear hcz67_0
               try clear hcz67_1
               try clear hcz67_2
               try clear hfz19_0
               try clear hfz19_1
               try clear hfz19_2
               try clear hfz23_0
               try clear hfz23_1
               try clear hfz23_2
               try clear hfz28_0
               try clear hfz28_1
               try clear hfz28_2
               try clear hfz41_0
               try clear hfz41_1
               try clear hfz41_2
               try clear hfz43_0
               try clear hfz43_1
               try clear hfz43_2
               try clear hfz46_0
               try clear hfz46_1
               try clear hfz46_2
               try clear hfz48_0
               try clear hfz48_1
               try clear hfz48_2
               try clear hfz51_0
               try clear hfz51_1
               try clear hfz51_2
               try clear hfz53_0
               try clear hfz53_1
               try clear hfz53_2
               try clear hfz56_0
               try clear hfz56_1
               try clear hfz56_2
               try clear hfz62_0
               try clear hfz62_1
               try clear hfz62_2
               try clear hfz64_0
               try clear hfz64_1
               try clear hfz64_2
               try clear hfz67_0
               try clear hfz67_1
               try clear hfz67_2
               try clear hx445_0
               try clear hx445_1
               try clear hx445_2
               try clear p2
               try clear p4
               try clear p44
               try clear p445
               try clear q4
               try clear q44
               try clear q445
               obtain ⟨kq, x79_57, rfl, HA, HJ57, BK446, BK477, HI444, HB⟩ := hcut
               cases kq with
               | zero => exact absurd HA.out (by simp [signalmanlaw09_ConnOne.j3])
               | succ kj57 =>
                have H := HA.out
                clear HA
                simp only [signalmanlaw09_ConnOne.j3] at H
                have HC68 := Aside0.mk H
                clear H
                go_upto_if 79 with (fail)
                go_cut [4] (fun v4 wc => ∃ (kq : Nat) (x4_67 : Int) (x445000_67 : Int) (x445001_67 : Int) (x445002_67 : Int) (x445003_67 : Int) (x445004_67 : Bool) (x445005_67 : Bool), v4 = .int .i64 x4_67 ∧ Aside0 (signalmanlaw09_ConnOne.j5 kq x4_67 t454 t478 l0 (l0.length : Int) x20_1 x445000_67 x445001_67 x445002_67 x445003_67 x445004_67 x445005_67 ((rd_T102 l0 x20_1).f0) ((rd_T102 l0 x20_1).f1) ((rd_T102 l0 x20_1).f2) t468 t469 t470 = some r) ∧ Aside0 (kq ≤ kj57) ∧ Aside0 (wc.heap[gb446]? = some (.cells #[.int .i64 ((rd_T102 l0 x20_1).f0), .int .i64 ((rd_T102 l0 x20_1).f1), .int .u64 ((rd_T102 l0 x20_1).f2)] 102 (0, 0))) ∧ Aside0 (wc.heap[gb477]? = some (.cells #[.bool t468, .int .i64 t469, .int .u64 t470] 104 (0, 0))) ∧ Aside0 (IsS137 w wc g444 x445000_67 x445001_67 x445002_67 x445003_67 x445004_67 x445005_67) ∧ Aside0 (Below w.heap.size w wc))
                case first =>
                 have H := HC68.out
                 clear HC68
                 by_cases c69 : x79_57 = true
                 ·subst c69
                  have H1 : (if t447 = 0 then (signalmanlaw09_ConnOne.j4 kj57 (wrap64 (x4_1 + 1)) t454 t478 l0 (l0.length : Int) x20_1 true t479 t480 t481 t482 t483 t484 ((rd_T102 l0 x20_1).f0) ((rd_T102 l0 x20_1).f1) ((rd_T102 l0 x20_1).f2) t468 t469 t470) else (if t454 = 0 then ((conn_Conn_Flight.f t479 t480 t481 t482 t483 t484).bind fun bt485 => (signalmanlaw09_ConnOne.j4 kj57 (wrap64 (x4_1 + 1)) t454 t478 l0 (l0.length : Int) x20_1 (bt485.1 != ((rd_T102 l0 x20_1).f2)) bt485.2.1 bt485.2.2.1 bt485.2.2.2.1 bt485.2.2.2.2.1 bt485.2.2.2.2.2.1 bt485.2.2.2.2.2.2 ((rd_T102 l0 x20_1).f0) ((rd_T102 l0 x20_1).f1) ((rd_T102 l0 x20_1).f2) t468 t469 t470)) else (signalmanlaw09_ConnOne.j4 kj57 (wrap64 (x4_1 + 1)) t454 t478 l0 (l0.length : Int) x20_1 true t479 t480 t481 t482 t483 t484 ((rd_T102 l0 x20_1).f0) ((rd_T102 l0 x20_1).f1) ((rd_T102 l0 x20_1).f2) t468 t469 t470))) = some r := by rw [if_pos rfl] at H; exact H
                  clear H
                  have H := H1
                  clear H1
                  have HC70 := Aside0.mk H
                  clear H
                  go_upto_region 19 with (fail)
                  go_cut [94] (fun v94 wc => ∃ (kq : Nat) (x94_69 : Bool) (x445000_69 : Int) (x445001_69 : Int) (x445002_69 : Int) (x445003_69 : Int) (x445004_69 : Bool) (x445005_69 : Bool), v94 = .bool x94_69 ∧ Aside0 (signalmanlaw09_ConnOne.j4 kq (wrap64 (x4_1 + 1)) t454 t478 l0 (l0.length : Int) x20_1 x94_69 x445000_69 x445001_69 x445002_69 x445003_69 x445004_69 x445005_69 ((rd_T102 l0 x20_1).f0) ((rd_T102 l0 x20_1).f1) ((rd_T102 l0 x20_1).f2) t468 t469 t470 = some r) ∧ Aside0 (kq ≤ kj57) ∧ Aside0 (wc.heap[gb446]? = some (.cells #[.int .i64 ((rd_T102 l0 x20_1).f0), .int .i64 ((rd_T102 l0 x20_1).f1), .int .u64 ((rd_T102 l0 x20_1).f2)] 102 (0, 0))) ∧ Aside0 (wc.heap[gb477]? = some (.cells #[.bool t468, .int .i64 t469, .int .u64 t470] 104 (0, 0))) ∧ Aside0 (IsS137 w wc g444 x445000_69 x445001_69 x445002_69 x445003_69 x445004_69 x445005_69) ∧ Aside0 (Below w.heap.size w wc))
                  case first =>
                   have H := HC70.out
                   clear HC70
                   by_cases c71 : t447 = 0
                   ·rw [if_pos c71] at H
                    have c71b0 : (t447 == 0) = true := beq_iff_eq.mpr c71
                    have c71b1 : (t447 != 0) = false := bne_eq_false_iff_eq.mpr c71
                    clear c71
                    (first | rw [c71b0] | (simp only [i64_w, i32_w]; rw [c71b0]) | skip)
                    have H' := Aside0.mk H
                    clear H
                    try go_wp2
                    have n0_ := Aside0.mk (blk_drew BK446.out)
                    have n1_ := Aside0.mk (blk_drew BK477.out)
                    have n2_ := Aside0.mk (IsS137.drew HI444.out)
                    have n3_ := Aside0.mk (below_drew1 HB.out)
                    clear BK446
                    clear BK477
                    clear HI444
                    clear HB
                    have BK446 := n0_
                    have BK477 := n1_
                    have HI444 := n2_
                    have HB := n3_
                    clear n0_ n1_ n2_ n3_
                    refine start_ (n := 13) (S := fun w' => True) (ds := []) #[false, false, false, false, false, false, false, false, false, false, false, false, false] (by kernel_rfl) rfl rfl trivial (fun hHeld => ?_); refine with_tabW signalmanlaw09_ConnOne.tab19 signalmanlaw09_ConnOne.bits19 (fun HT_ HW_ => ?_)
                    generalize wc.drew = w72 at BK446 BK477 HI444 HB hHeld ⊢
                    refine pure_ (i := 0) (N := some 82) (v := ?_) (a' := ?_) #[true, false, false, false, false, false, false, false, false, false, false, false, false] rfl rfl (any_of HT_.out (by kernel_rfl)) (fun _ _ _ h => h) (Or.inl ⟨by rfl, ?_⟩) ?_ ?_
                    rotate_left
                    ·intro w'
                     go_simp
                     with_reducible rfl
                    rotate_left
                    ·simp only [Act.put, List.setIfInBounds_toArray, List.set_cons_zero, List.set_cons_succ, i64_w, i32_w]
                     rfl
                    refine pure_ (i := 1) (N := some 83) (v := ?_) (a' := ?_) #[true, true, false, false, false, false, false, false, false, false, false, false, false] rfl rfl (any_of HT_.out (by kernel_rfl)) (fun _ _ _ h => h) (Or.inl ⟨by rfl, ?_⟩) ?_ ?_
                    rotate_left
                    ·intro w'
                     go_simp
                     with_reducible rfl
                    rotate_left
                    ·simp only [Act.put, List.setIfInBounds_toArray, List.set_cons_zero, List.set_cons_succ, i64_w, i32_w]
                     rfl
                    refine pure_ (i := 2) (N := some 84) (v := ?_) (a' := ?_) #[true, true, true, false, false, false, false, false, false, false, false, false, false] rfl rfl (any_of HT_.out (by kernel_rfl)) (fun _ _ _ h => h) (Or.inl ⟨by rfl, ?_⟩) ?_ ?_
                    rotate_left
                    ·intro w'
                     go_simp
                     with_reducible rfl
                    rotate_left
                    ·simp only [Act.put, List.setIfInBounds_toArray, List.set_cons_zero, List.set_cons_succ, i64_w, i32_w]
                     rfl
                    refine pure_ (i := 3) (N := some 85) (v := undef) (a' := ?_) #[true, true, true, true, false, false, false, false, false, false, false, false, false] rfl rfl (any_of HT_.out (by kernel_rfl)) (fun _ _ _ h => h) (Or.inr ⟨by rfl, rfl⟩) ?_ ?_
                    rotate_left
                    ·simp only [Act.put, List.setIfInBounds_toArray, List.set_cons_zero, List.set_cons_succ, i64_w, i32_w]
                     rfl
                    refine pure_ (i := 4) (N := some 86) (v := undef) (a' := ?_) #[true, true, true, true, true, false, false, false, false, false, false, false, false] rfl rfl (any_of HT_.out (by kernel_rfl)) (fun _ _ _ h => h) (Or.inr ⟨by rfl, rfl⟩) ?_ ?_
                    rotate_left
                    ·simp only [Act.put, List.setIfInBounds_toArray, List.set_cons_zero, List.set_cons_succ, i64_w, i32_w]
                     rfl
                    refine pure_ (i := 5) (N := some 87) (v := ?_) (a' := ?_) #[true, true, true, true, true, true, false, false, false, false, false, false, false] rfl rfl (any_of HT_.out (by kernel_rfl)) (fun _ _ _ h => h) (Or.inl ⟨by rfl, ?_⟩) ?_ ?_
                    rotate_left
                    ·intro w'
                     go_simp
                     with_reducible rfl
                    rotate_left
                    ·simp only [Act.put, List.setIfInBounds_toArray, List.set_cons_zero, List.set_cons_succ, i64_w, i32_w]
                     rfl
                    refine pure_ (i := 6) (N := some 88) (v := ?_) (a' := ?_) #[true, true, true, true, true, true, true, false, false, false, false, false, false] rfl rfl (any_of HT_.out (by kernel_rfl)) (fun _ _ _ h => h) (Or.inl ⟨by rfl, ?_⟩) ?_ ?_
                    rotate_left
                    ·intro w'
                     go_simp
                     with_reducible rfl
                    rotate_left
                    ·simp only [Act.put, List.setIfInBounds_toArray, List.set_cons_zero, List.set_cons_succ, i64_w, i32_w]
                     rfl
                    refine pure_ (i := 7) (N := some 89) (v := undef) (a' := ?_) #[true, true, true, true, true, true, true, true, false, false, false, false, false] rfl rfl (any_of HT_.out (by kernel_rfl)) (fun _ _ _ h => h) (Or.inr ⟨by rfl, rfl⟩) ?_ ?_
                    rotate_left
                    ·simp only [Act.put, List.setIfInBounds_toArray, List.set_cons_zero, List.set_cons_succ, i64_w, i32_w]
                     rfl
                    refine pure_ (i := 8) (N := some 90) (v := undef) (a' := ?_) #[true, true, true, true, true, true, true, true, true, false, false, false, false] rfl rfl (any_of HT_.out (by kernel_rfl)) (fun _ _ _ h => h) (Or.inr ⟨by rfl, rfl⟩) ?_ ?_
                    rotate_left
                    ·simp only [Act.put, List.setIfInBounds_toArray, List.set_cons_zero, List.set_cons_succ, i64_w, i32_w]
                     rfl
                    refine pure_ (i := 9) (N := some 91) (v := undef) (a' := ?_) #[true, true, true, true, true, true, true, true, true, true, false, false, false] rfl rfl (any_of HT_.out (by kernel_rfl)) (fun _ _ _ h => h) (Or.inr ⟨by rfl, rfl⟩) ?_ ?_
                    rotate_left
                    ·simp only [Act.put, List.setIfInBounds_toArray, List.set_cons_zero, List.set_cons_succ, i64_w, i32_w]
                     rfl
                    refine pure_ (i := 10) (N := some 92) (v := undef) (a' := ?_) #[true, true, true, true, true, true, true, true, true, true, true, false, false] rfl rfl (any_of HT_.out (by kernel_rfl)) (fun _ _ _ h => h) (Or.inr ⟨by rfl, rfl⟩) ?_ ?_
                    rotate_left
                    ·simp only [Act.put, List.setIfInBounds_toArray, List.set_cons_zero, List.set_cons_succ, i64_w, i32_w]
                     rfl
                    refine pure_ (i := 11) (N := some 93) (v := undef) (a' := ?_) #[true, true, true, true, true, true, true, true, true, true, true, true, false] rfl rfl (any_of HT_.out (by kernel_rfl)) (fun _ _ _ h => h) (Or.inr ⟨by rfl, rfl⟩) ?_ ?_
                    rotate_left
                    ·simp only [Act.put, List.setIfInBounds_toArray, List.set_cons_zero, List.set_cons_succ, i64_w, i32_w]
                     rfl
                    refine pure_ (i := 12) (N := some 94) (v := ?_) (a' := ?_) #[true, true, true, true, true, true, true, true, true, true, true, true, true] rfl rfl (any_of HT_.out (by kernel_rfl)) (fun _ _ _ h => h) (Or.inl ⟨by rfl, ?_⟩) ?_ ?_
                    rotate_left
                    ·intro w'
                     go_simp
                     with_reducible rfl
                    rotate_left
                    ·simp only [Act.put, List.setIfInBounds_toArray, List.set_cons_zero, List.set_cons_succ, i64_w, i32_w]
                     rfl
                    refine done_ (done_of HT_.out (by kernel_rfl)) ?_
                    try go_wp2
                    go_meet
                    case rel => exact ⟨_, (true), (t479), (t480), (t481), (t482), (t483), (t484), (by first | rfl | (simp; done) | (simp [*]; done)), H', ⟨by have := HK1.out; have := HJ15.out; have := HJ32.out; have := HJ57.out; first | omega | exact Nat.le_refl _⟩, ⟨by (with_reducible repeat (first | refine blk_drewN ?_ _ | refine blk_drew ?_ | refine blk_alloc ?_ _)); exact BK446.out⟩, ⟨by (with_reducible repeat (first | refine blk_drewN ?_ _ | refine blk_drew ?_ | refine blk_alloc ?_ _)); exact BK477.out⟩, ⟨by repeat (first | (with_reducible first | exact HI444.out | apply IsS137.alloc | apply IsS137.drewN | apply IsS137.drew | apply IsS137.set_0 | apply IsS137.set_1 | apply IsS137.set_2 | apply IsS137.set_3 | apply IsS137.set_4 | apply IsS137.set_5 | refine IsS137.far ?_ NB444_446.out _ | refine IsS137.far ?_ NB444_477.out _) | exact HI444.out)⟩, ⟨by repeat (first | (with_reducible first | exact HB.out | apply below_alloc | apply pw_below_drewN | apply below_drew1 | refine below_set ?_ (IsS137.ge HI444.out) | refine below_set ?_ GE446.out | refine below_set ?_ GE477.out) | exact HB.out)⟩⟩
                   ·rw [if_neg c71] at H
                    have c71b0 : (t447 == 0) = false := beq_eq_false_iff_ne.mpr c71
                    have c71b1 : (t447 != 0) = true := bne_iff_ne.mpr c71
                    (first | rw [c71b0] | (simp only [i64_w, i32_w]; rw [c71b0]) | skip)
                    by_cases c73 : t454 = 0
                    ·rw [if_pos c73] at H
                     have c73b0 : (t454 == 0) = true := beq_iff_eq.mpr c73
                     have c73b1 : (t454 != 0) = false := bne_eq_false_iff_eq.mpr c73
                     clear c73
                     replace H := Option.bind_eq_some_iff.mp H
                     obtain ⟨⟨t485, t486, t487, t488, t489, t490, t491⟩, A740, H⟩ := H
                     replace H : (signalmanlaw09_ConnOne.j4 kj57 (wrap64 (x4_1 + 1)) t454 t478 l0 (l0.length : Int) x20_1 (t485 != ((rd_T102 l0 x20_1).f2)) t486 t487 t488 t489 t490 t491 ((rd_T102 l0 x20_1).f0) ((rd_T102 l0 x20_1).f1) ((rd_T102 l0 x20_1).f2) t468 t469 t470) = some r := H
                     have A74 := Aside0.mk A740
                     clear A740
                     have H' := Aside0.mk H
                     clear H
                     try go_wp2
                     have n0_ := Aside0.mk (blk_drew BK446.out)
                     have n1_ := Aside0.mk (blk_drew BK477.out)
                     have n2_ := Aside0.mk (IsS137.drew HI444.out)
                     have n3_ := Aside0.mk (below_drew1 HB.out)
                     clear BK446
                     clear BK477
                     clear HI444
                     clear HB
                     have BK446 := n0_
                     have BK477 := n1_
                     have HI444 := n2_
                     have HB := n3_
                     clear n0_ n1_ n2_ n3_
                     refine start_ (n := 13) (S := fun w' => w'.cell? ⟨gb446, 0, none⟩ = some (.int .i64 ((rd_T102 l0 x20_1).f0)) ∧ w'.cell? ⟨gb446, 1, none⟩ = some (.int .i64 ((rd_T102 l0 x20_1).f1)) ∧ w'.cell? ⟨gb446, 2, none⟩ = some (.int .u64 ((rd_T102 l0 x20_1).f2))) (ds := []) #[false, false, false, false, false, false, false, false, false, false, false, false, false] (by kernel_rfl) rfl rfl ⟨(blk_cell BK446.out 0).trans rfl, (blk_cell BK446.out 1).trans rfl, (blk_cell BK446.out 2).trans rfl⟩ (fun hHeld => ?_); refine with_tabW signalmanlaw09_ConnOne.tab19 signalmanlaw09_ConnOne.bits19 (fun HT_ HW_ => ?_)
                     generalize wc.drew = w75 at BK446 BK477 HI444 HB hHeld ⊢
                     refine pure_ (i := 0) (N := some 82) (v := ?_) (a' := ?_) #[true, false, false, false, false, false, false, false, false, false, false, false, false] rfl rfl (any_of HT_.out (by kernel_rfl)) (fun _ _ _ h => h) (Or.inl ⟨by rfl, ?_⟩) ?_ ?_
                     rotate_left
                     ·intro w'
                      go_simp
                      with_reducible rfl
                     rotate_left
                     ·simp only [Act.put, List.setIfInBounds_toArray, List.set_cons_zero, List.set_cons_succ, i64_w, i32_w]
                      rfl
                     refine pure_ (i := 1) (N := some 83) (v := ?_) (a' := ?_) #[true, true, false, false, false, false, false, false, false, false, false, false, false] rfl rfl (any_of HT_.out (by kernel_rfl)) (fun _ _ _ h => h) (Or.inl ⟨by rfl, ?_⟩) ?_ ?_
                     rotate_left
                     ·intro w'
                      go_simp
                      with_reducible rfl
                     rotate_left
                     ·simp only [Act.put, List.setIfInBounds_toArray, List.set_cons_zero, List.set_cons_succ, i64_w, i32_w]
                      rfl
                     refine pure_ (i := 2) (N := some 84) (v := ?_) (a' := ?_) #[true, true, true, false, false, false, false, false, false, false, false, false, false] rfl rfl (any_of HT_.out (by kernel_rfl)) (fun _ _ _ h => h) (Or.inl ⟨by rfl, ?_⟩) ?_ ?_
                     rotate_left
                     ·intro w'
                      go_simp
                      with_reducible rfl
                     rotate_left
                     ·simp only [Act.put, List.setIfInBounds_toArray, List.set_cons_zero, List.set_cons_succ, i64_w, i32_w]
                      rfl
                     refine pure_ (i := 3) (N := some 85) (v := ?_) (a' := ?_) #[true, true, true, true, false, false, false, false, false, false, false, false, false] rfl rfl (any_of HT_.out (by kernel_rfl)) (fun _ _ _ h => h) (Or.inl ⟨by rfl, ?_⟩) ?_ ?_
                     rotate_left
                     ·intro w'
                      go_simp
                      with_reducible rfl
                     rotate_left
                     ·simp only [Act.put, List.setIfInBounds_toArray, List.set_cons_zero, List.set_cons_succ, i64_w, i32_w]
                      rfl
                     refine pure_ (i := 4) (N := some 86) (v := ?_) (a' := ?_) #[true, true, true, true, true, false, false, false, false, false, false, false, false] rfl rfl (any_of HT_.out (by kernel_rfl)) (fun _ _ _ h => h) (Or.inl ⟨by rfl, ?_⟩) ?_ ?_
                     rotate_left
                     ·intro w'
                      go_simp
                      with_reducible rfl
                     rotate_left
                     ·simp only [Act.put, List.setIfInBounds_toArray, List.set_cons_zero, List.set_cons_succ, i64_w, i32_w]
                      rfl
                     refine pure_ (i := 5) (N := some 87) (v := ?_) (a' := ?_) #[true, true, true, true, true, true, false, false, false, false, false, false, false] rfl rfl (any_of HT_.out (by kernel_rfl)) (fun _ _ _ h => h) (Or.inl ⟨by rfl, ?_⟩) ?_ ?_
                     rotate_left
                     ·intro w'
                      go_simp
                      with_reducible rfl
                     rotate_left
                     ·simp only [Act.put, List.setIfInBounds_toArray, List.set_cons_zero, List.set_cons_succ, i64_w, i32_w]
                      rfl
                     refine pure_ (i := 6) (N := some 88) (v := ?_) (a' := ?_) #[true, true, true, true, true, true, true, false, false, false, false, false, false] rfl rfl (any_of HT_.out (by kernel_rfl)) (fun _ _ _ h => h) (Or.inl ⟨by rfl, ?_⟩) ?_ ?_
                     rotate_left
                     ·intro w'
                      go_simp
                      with_reducible rfl
                     rotate_left
                     ·simp only [Act.put, List.setIfInBounds_toArray, List.set_cons_zero, List.set_cons_succ, i64_w, i32_w]
                      rfl
                     refine pure_ (i := 7) (N := some 89) (v := ?_) (a' := ?_) #[true, true, true, true, true, true, true, true, false, false, false, false, false] rfl rfl (any_of HT_.out (by kernel_rfl)) (fun _ _ _ h => h) (Or.inl ⟨by rfl, ?_⟩) ?_ ?_
                     rotate_left
                     ·intro w'
                      go_simp
                      with_reducible rfl
                     rotate_left
                     ·simp only [Act.put, List.setIfInBounds_toArray, List.set_cons_zero, List.set_cons_succ, i64_w, i32_w]
                      rfl
                     refine pure_ (i := 9) (N := some 91) (v := ?_) (a' := ?_) #[true, true, true, true, true, true, true, true, false, true, false, false, false] rfl rfl (any_of HT_.out (by kernel_rfl)) (fun _ _ _ h => h) (Or.inl ⟨by rfl, ?_⟩) ?_ ?_
                     rotate_left
                     ·intro w'
                      go_simp
                      with_reducible rfl
                     rotate_left
                     ·simp only [Act.put, List.setIfInBounds_toArray, List.set_cons_zero, List.set_cons_succ, i64_w, i32_w]
                      rfl
                     refine take_ (i := 10) (N := some 92) (v := ?_) (a' := ?_) #[true, true, true, true, true, true, true, true, false, true, true, false, false] rfl rfl (take_ofW HT_.out HW_.out (by kernel_rfl)) (fun _ _ _ h => h) (Or.inl ⟨by rfl, ?_⟩) hHeld ?_ ?_
                     rotate_left
                     ·rintro w' ⟨s0, s1, s2⟩
                      go_simp
                      with_reducible rfl
                     rotate_left
                     ·simp only [Act.put, List.setIfInBounds_toArray, List.set_cons_zero, List.set_cons_succ, i64_w, i32_w]
                      rfl
                     refine one_ (i := 8) (N := some 90) #[true, true, true, true, true, true, true, true, true, true, true, false, false] rfl rfl (one_of HT_.out (by kernel_rfl)) (by decide) (fun K hK => ?_)
                     refine goes_ Try.func57 (by kernel_rfl) rfl #[.pointer (some ⟨g444, 0, none⟩)] (by rfl) rfl rfl (by (try simp only [List.map_toArray, List.map_cons, List.map_nil]); first | done | rfl | (simp only [List.length_drop, List.length_take]; rfl)) ?_
                     with_reducible refine (conn_Conn_Flight.calls g444 t479 t480 t481 t482 t483 t484 t485 t486 t487 t488 t489 t490 t491 w _ ?side1 ?side2 (by first | exact A74.out | (have h_ := A74.out; exact h_))).mono ?_
                     (case side1 => repeat (first | (with_reducible first | exact HI444.out | apply IsS137.alloc | apply IsS137.drewN | apply IsS137.drew | apply IsS137.set_0 | apply IsS137.set_1 | apply IsS137.set_2 | apply IsS137.set_3 | apply IsS137.set_4 | apply IsS137.set_5 | refine IsS137.far ?_ NB444_446.out _ | refine IsS137.far ?_ NB444_477.out _) | exact HI444.out))
                     (case side2 => repeat (first | (with_reducible first | exact HB.out | apply below_alloc | apply pw_below_drewN | apply below_drew1 | refine below_set ?_ (IsS137.ge HI444.out) | refine below_set ?_ GE446.out | refine below_set ?_ GE477.out) | exact HB.out))
                     rintro e w76 ⟨rfl, hi, hb, hk⟩
                     refine ⟨_, rfl, ?_⟩
                     have n0_ := Aside0.mk (KeepBut.blk hk (g' := gb446) (o := .cells #[.int .i64 ((rd_T102 l0 x20_1).f0), .int .i64 ((rd_T102 l0 x20_1).f1), .int .u64 ((rd_T102 l0 x20_1).f2)] 102 (0, 0)) (by (with_reducible repeat (first | refine blk_drewN ?_ _ | refine blk_drew ?_ | refine blk_alloc ?_ _)); exact BK446.out) NB446_444.out (by simp))
                     have n1_ := Aside0.mk (KeepBut.blk hk (g' := gb477) (o := .cells #[.bool t468, .int .i64 t469, .int .u64 t470] 104 (0, 0)) (by (with_reducible repeat (first | refine blk_drewN ?_ _ | refine blk_drew ?_ | refine blk_alloc ?_ _)); exact BK477.out) NB477_444.out (by simp))
                     have n2_ := Aside0.mk (hb)
                     have n3_ := Aside0.mk (hi)
                     clear BK446
                     clear BK477
                     clear HB
                     clear HI444
                     have BK446 := n0_
                     have BK477 := n1_
                     have HB := n2_
                     have HI444 := n3_
                     clear n0_ n1_ n2_ n3_
                     (try clear hb)
                     (try clear hb2)
                     (try clear hk)
                     (try clear hi)
                     refine hK.out _ _ ⟨(blk_cell BK446.out 0).trans rfl, (blk_cell BK446.out 1).trans rfl, (blk_cell BK446.out 2).trans rfl⟩ (fun hHeld => ?_)
                     clear hK K
                     refine norm_ (a' := ?_) ?_ ?_
                     rotate_left
                     ·show Act.put _ (some 90) _ = _
                      simp only [Act.put, List.setIfInBounds_toArray, List.set_cons_zero, List.set_cons_succ, i64_w, i32_w]
                      rfl
                     refine pure_ (i := 11) (N := some 93) (v := ?_) (a' := ?_) #[true, true, true, true, true, true, true, true, true, true, true, true, false] rfl rfl (any_of HT_.out (by kernel_rfl)) (fun _ _ _ h => h) (Or.inl ⟨by rfl, ?_⟩) ?_ ?_
                     rotate_left
                     ·intro w'
                      go_simp
                      with_reducible rfl
                     rotate_left
                     ·simp only [Act.put, List.setIfInBounds_toArray, List.set_cons_zero, List.set_cons_succ, i64_w, i32_w]
                      rfl
                     refine pure_ (i := 12) (N := some 94) (v := ?_) (a' := ?_) #[true, true, true, true, true, true, true, true, true, true, true, true, true] rfl rfl (any_of HT_.out (by kernel_rfl)) (fun _ _ _ h => h) (Or.inl ⟨by rfl, ?_⟩) ?_ ?_
                     rotate_left
                     ·intro w'
                      go_simp
                      with_reducible rfl
                     rotate_left
                     ·simp only [Act.put, List.setIfInBounds_toArray, List.set_cons_zero, List.set_cons_succ, i64_w, i32_w]
                      rfl
                     refine done_ (done_of HT_.out (by kernel_rfl)) ?_
                     try go_wp2
                     go_meet
                     case rel => exact ⟨_, ((t485 != ((rd_T102 l0 x20_1).f2))), (t486), (t487), (t488), (t489), (t490), (t491), (by first | rfl | (simp; done) | (simp [*]; done)), H', ⟨by have := HK1.out; have := HJ15.out; have := HJ32.out; have := HJ57.out; first | omega | exact Nat.le_refl _⟩, ⟨by (with_reducible repeat (first | refine blk_drewN ?_ _ | refine blk_drew ?_ | refine blk_alloc ?_ _)); exact BK446.out⟩, ⟨by (with_reducible repeat (first | refine blk_drewN ?_ _ | refine blk_drew ?_ | refine blk_alloc ?_ _)); exact BK477.out⟩, ⟨by repeat (first | (with_reducible first | exact HI444.out | apply IsS137.alloc | apply IsS137.drewN | apply IsS137.drew | apply IsS137.set_0 | apply IsS137.set_1 | apply IsS137.set_2 | apply IsS137.set_3 | apply IsS137.set_4 | apply IsS137.set_5 | refine IsS137.far ?_ NB444_446.out _ | refine IsS137.far ?_ NB444_477.out _) | exact HI444.out)⟩, ⟨by repeat (first | (with_reducible first | exact HB.out | apply below_alloc | apply pw_below_drewN | apply below_drew1 | refine below_set ?_ (IsS137.ge HI444.out) | refine below_set ?_ GE446.out | refine below_set ?_ GE477.out) | exact HB.out)⟩⟩
                    ·rw [if_neg c73] at H
                     have c73b0 : (t454 == 0) = false := beq_eq_false_iff_ne.mpr c73
                     have c73b1 : (t454 != 0) = true := bne_iff_ne.mpr c73
                     have H' := Aside0.mk H
                     clear H
                     try go_wp2
                     have n0_ := Aside0.mk (blk_drew BK446.out)
                     have n1_ := Aside0.mk (blk_drew BK477.out)
                     have n2_ := Aside0.mk (IsS137.drew HI444.out)
                     have n3_ := Aside0.mk (below_drew1 HB.out)
                     clear BK446
                     clear BK477
                     clear HI444
                     clear HB
                     have BK446 := n0_
                     have BK477 := n1_
                     have HI444 := n2_
                     have HB := n3_
                     clear n0_ n1_ n2_ n3_
                     refine start_ (n := 13) (S := fun w' => True) (ds := []) #[false, false, false, false, false, false, false, false, false, false, false, false, false] (by kernel_rfl) rfl rfl trivial (fun hHeld => ?_); refine with_tabW signalmanlaw09_ConnOne.tab19 signalmanlaw09_ConnOne.bits19 (fun HT_ HW_ => ?_)
                     generalize wc.drew = w77 at BK446 BK477 HI444 HB hHeld ⊢
                     refine pure_ (i := 0) (N := some 82) (v := ?_) (a' := ?_) #[true, false, false, false, false, false, false, false, false, false, false, false, false] rfl rfl (any_of HT_.out (by kernel_rfl)) (fun _ _ _ h => h) (Or.inl ⟨by rfl, ?_⟩) ?_ ?_
                     rotate_left
                     ·intro w'
                      go_simp
                      with_reducible rfl
                     rotate_left
                     ·simp only [Act.put, List.setIfInBounds_toArray, List.set_cons_zero, List.set_cons_succ, i64_w, i32_w]
                      rfl
                     refine pure_ (i := 1) (N := some 83) (v := ?_) (a' := ?_) #[true, true, false, false, false, false, false, false, false, false, false, false, false] rfl rfl (any_of HT_.out (by kernel_rfl)) (fun _ _ _ h => h) (Or.inl ⟨by rfl, ?_⟩) ?_ ?_
                     rotate_left
                     ·intro w'
                      go_simp
                      with_reducible rfl
                     rotate_left
                     ·simp only [Act.put, List.setIfInBounds_toArray, List.set_cons_zero, List.set_cons_succ, i64_w, i32_w]
                      rfl
                     refine pure_ (i := 2) (N := some 84) (v := ?_) (a' := ?_) #[true, true, true, false, false, false, false, false, false, false, false, false, false] rfl rfl (any_of HT_.out (by kernel_rfl)) (fun _ _ _ h => h) (Or.inl ⟨by rfl, ?_⟩) ?_ ?_
                     rotate_left
                     ·intro w'
                      go_simp
                      with_reducible rfl
                     rotate_left
                     ·simp only [Act.put, List.setIfInBounds_toArray, List.set_cons_zero, List.set_cons_succ, i64_w, i32_w]
                      rfl
                     refine pure_ (i := 3) (N := some 85) (v := ?_) (a' := ?_) #[true, true, true, true, false, false, false, false, false, false, false, false, false] rfl rfl (any_of HT_.out (by kernel_rfl)) (fun _ _ _ h => h) (Or.inl ⟨by rfl, ?_⟩) ?_ ?_
                     rotate_left
                     ·intro w'
                      go_simp
                      with_reducible rfl
                     rotate_left
                     ·simp only [Act.put, List.setIfInBounds_toArray, List.set_cons_zero, List.set_cons_succ, i64_w, i32_w]
                      rfl
                     refine pure_ (i := 4) (N := some 86) (v := ?_) (a' := ?_) #[true, true, true, true, true, false, false, false, false, false, false, false, false] rfl rfl (any_of HT_.out (by kernel_rfl)) (fun _ _ _ h => h) (Or.inl ⟨by rfl, ?_⟩) ?_ ?_
                     rotate_left
                     ·intro w'
                      go_simp
                      with_reducible rfl
                     rotate_left
                     ·simp only [Act.put, List.setIfInBounds_toArray, List.set_cons_zero, List.set_cons_succ, i64_w, i32_w]
                      rfl
                     refine pure_ (i := 5) (N := some 87) (v := ?_) (a' := ?_) #[true, true, true, true, true, true, false, false, false, false, false, false, false] rfl rfl (any_of HT_.out (by kernel_rfl)) (fun _ _ _ h => h) (Or.inl ⟨by rfl, ?_⟩) ?_ ?_
                     rotate_left
                     ·intro w'
                      go_simp
                      with_reducible rfl
                     rotate_left
                     ·simp only [Act.put, List.setIfInBounds_toArray, List.set_cons_zero, List.set_cons_succ, i64_w, i32_w]
                      rfl
                     refine pure_ (i := 6) (N := some 88) (v := ?_) (a' := ?_) #[true, true, true, true, true, true, true, false, false, false, false, false, false] rfl rfl (any_of HT_.out (by kernel_rfl)) (fun _ _ _ h => h) (Or.inl ⟨by rfl, ?_⟩) ?_ ?_
                     rotate_left
                     ·intro w'
                      go_simp
                      with_reducible rfl
                     rotate_left
                     ·simp only [Act.put, List.setIfInBounds_toArray, List.set_cons_zero, List.set_cons_succ, i64_w, i32_w]
                      rfl
                     refine pure_ (i := 7) (N := some 89) (v := undef) (a' := ?_) #[true, true, true, true, true, true, true, true, false, false, false, false, false] rfl rfl (any_of HT_.out (by kernel_rfl)) (fun _ _ _ h => h) (Or.inr ⟨by rfl, rfl⟩) ?_ ?_
                     rotate_left
                     ·simp only [Act.put, List.setIfInBounds_toArray, List.set_cons_zero, List.set_cons_succ, i64_w, i32_w]
                      rfl
                     refine pure_ (i := 8) (N := some 90) (v := undef) (a' := ?_) #[true, true, true, true, true, true, true, true, true, false, false, false, false] rfl rfl (any_of HT_.out (by kernel_rfl)) (fun _ _ _ h => h) (Or.inr ⟨by rfl, rfl⟩) ?_ ?_
                     rotate_left
                     ·simp only [Act.put, List.setIfInBounds_toArray, List.set_cons_zero, List.set_cons_succ, i64_w, i32_w]
                      rfl
                     refine pure_ (i := 9) (N := some 91) (v := undef) (a' := ?_) #[true, true, true, true, true, true, true, true, true, true, false, false, false] rfl rfl (any_of HT_.out (by kernel_rfl)) (fun _ _ _ h => h) (Or.inr ⟨by rfl, rfl⟩) ?_ ?_
                     rotate_left
                     ·simp only [Act.put, List.setIfInBounds_toArray, List.set_cons_zero, List.set_cons_succ, i64_w, i32_w]
                      rfl
                     refine pure_ (i := 10) (N := some 92) (v := undef) (a' := ?_) #[true, true, true, true, true, true, true, true, true, true, true, false, false] rfl rfl (any_of HT_.out (by kernel_rfl)) (fun _ _ _ h => h) (Or.inr ⟨by rfl, rfl⟩) ?_ ?_
                     rotate_left
                     ·simp only [Act.put, List.setIfInBounds_toArray, List.set_cons_zero, List.set_cons_succ, i64_w, i32_w]
                      rfl
                     refine pure_ (i := 11) (N := some 93) (v := undef) (a' := ?_) #[true, true, true, true, true, true, true, true, true, true, true, true, false] rfl rfl (any_of HT_.out (by kernel_rfl)) (fun _ _ _ h => h) (Or.inr ⟨by rfl, rfl⟩) ?_ ?_
                     rotate_left
                     ·simp only [Act.put, List.setIfInBounds_toArray, List.set_cons_zero, List.set_cons_succ, i64_w, i32_w]
                      rfl
                     refine pure_ (i := 12) (N := some 94) (v := ?_) (a' := ?_) #[true, true, true, true, true, true, true, true, true, true, true, true, true] rfl rfl (any_of HT_.out (by kernel_rfl)) (fun _ _ _ h => h) (Or.inl ⟨by rfl, ?_⟩) ?_ ?_
                     rotate_left
                     ·intro w'
                      go_simp
                      with_reducible rfl
                     rotate_left
                     ·simp only [Act.put, List.setIfInBounds_toArray, List.set_cons_zero, List.set_cons_succ, i64_w, i32_w]
                      rfl
                     refine done_ (done_of HT_.out (by kernel_rfl)) ?_
                     try go_wp2
                     go_meet
                     case rel => exact ⟨_, (true), (t479), (t480), (t481), (t482), (t483), (t484), (by first | rfl | (simp; done) | (simp [*]; done)), H', ⟨by have := HK1.out; have := HJ15.out; have := HJ32.out; have := HJ57.out; first | omega | exact Nat.le_refl _⟩, ⟨by (with_reducible repeat (first | refine blk_drewN ?_ _ | refine blk_drew ?_ | refine blk_alloc ?_ _)); exact BK446.out⟩, ⟨by (with_reducible repeat (first | refine blk_drewN ?_ _ | refine blk_drew ?_ | refine blk_alloc ?_ _)); exact BK477.out⟩, ⟨by repeat (first | (with_reducible first | exact HI444.out | apply IsS137.alloc | apply IsS137.drewN | apply IsS137.drew | apply IsS137.set_0 | apply IsS137.set_1 | apply IsS137.set_2 | apply IsS137.set_3 | apply IsS137.set_4 | apply IsS137.set_5 | refine IsS137.far ?_ NB444_446.out _ | refine IsS137.far ?_ NB444_477.out _) | exact HI444.out)⟩, ⟨by repeat (first | (with_reducible first | exact HB.out | apply below_alloc | apply pw_below_drewN | apply below_drew1 | refine below_set ?_ (IsS137.ge HI444.out) | refine below_set ?_ GE446.out | refine below_set ?_ GE477.out) | exact HB.out)⟩⟩
                  case rest =>
                   clear HC70
                   try clear c1
                   try clear c2
                   try clear p2
                   try clear c3
                   try clear c3b0
                   try clear c3b1
                   try clear c4
                   try clear p4
                   try clear q4
                   try clear hx4
                   try clear c5
                   try clear c6
                   try clear p6
                   try clear c7
                   try clear c8
                   try clear c8b0
                   try clear c9
                   try clear c9b0
                   try clear c10
                   try clear c10b0
                   try clear c13
                   try clear c18
                   try clear c26
                   try clear c27
                   try clear c30
                   try clear c30b0
                   try clear c30b1
                   try clear c31
                   try clear c31b0
                   try clear c31b1
                   try clear c32
                   try clear c34
                   try clear c34b0
                   try clear c34b1
                   try clear c35
                   try clear c35b0
                   try clear c35b1
                   try clear c36
                   try clear c36b0
                   try clear c36b1
                   try clear c37
                   try clear c38
                   try clear c38b0
                   try clear c38b1
                   try clear c39
                   try clear c40
                   try clear c42
                   try clear c44
                   try clear p44
                   try clear q44
                   try clear hx44
                   try clear c45
                   try clear c47
                   try clear c49
                   try clear c50
                   try clear c51
                   try clear c52
                   try clear c53
                   try clear c54
                   try clear c55
                   try clear c56
                   try clear c57
                   try clear c59
                   try clear c59b0
                   try clear c59b1
                   try clear c60
                   try clear c61
                   try clear c63
                   try clear p64
                   try clear c65
                   try clear c66
                   try clear c69
                   try clear c71
                   try clear c71b0
                   try clear c71b1
                   try clear c73
                   try clear c73b0
                   try clear c73b1
                   try clear hcz19_0
                   try clear hcz19_1
                   try clear hcz19_2
                   try clear hcz23_0
                   try clear hcz23_1
                   try clear hcz23_2
                   try clear hcz28_0
                   try clear hcz28_1
                   try clear hcz28_2
                   try clear hcz41_0
                   try clear hcz41_1
                   try clear hcz41_2
                   try clear hcz43_0
                   try clear hcz43_1
                   try clear hcz43_2
                   try clear hcz46_0
                   try clear hcz46_1
                   try clear hcz46_2
                   try clear hcz48_0
                   try clear hcz48_1
                   try clear hcz48_2
                   try clear hcz51_0
                   try clear hcz51_1
                   try clear hcz51_2
                   try clear hcz53_0
                   try clear hcz53_1
                   try clear hcz53_2
                   try clear hcz56_0
                   try clear hcz56_1
                   try clear hcz56_2
                   try clear hcz62_0
                   try clear hcz62_1
                   try clear hcz62_2
                   try clear hcz64_0
                   try clear hcz64_1
                   try clear hcz64_2
                   try clear hcz67_0
                   try clear hcz67_1
                   try clear hcz67_2
                   try clear hfz19_0
                   try clear hfz19_1
                   try clear hfz19_2
                   try clear hfz23_0
                   try clear hfz23_1
                   try clear hfz23_2
                   try clear hfz28_0
                   try clear hfz28_1
                   try clear hfz28_2
                   try clear hfz41_0
                   try clear hfz41_1
                   try clear hfz41_2
                   try clear hfz43_0
                   try clear hfz43_1
                   try clear hfz43_2
                   try clear hfz46_0
                   try clear hfz46_1
                   try clear hfz46_2
                   try clear hfz48_0
                   try clear hfz48_1
                   try clear hfz48_2
                   try clear hfz51_0
                   try clear hfz51_1
                   try clear hfz51_2
                   try clear hfz53_0
                   try clear hfz53_1
                   try clear hfz53_2
                   try clear hfz56_0
                   try clear hfz56_1
                   try clear hfz56_2
                   try clear hfz62_0
                   try clear hfz62_1
                   try clear hfz62_2
                   try clear hfz64_0
                   try clear hfz64_1
                   try clear hfz64_2
                   try clear hfz67_0
                   try clear hfz67_1
                   try clear hfz67_2
                   try clear hx445_0
                   try clear hx445_1
                   try clear hx445_2
                   try clear p2
                   try clear p4
                   try clear p44
                   try clear p445
                   try clear q4
                   try clear q44
                   try clear q445
                   obtain ⟨kq, x94_69, x445000_69, x445001_69, x445002_69, x445003_69, x445004_69, x445005_69, rfl, HA, HJ69, BK446, BK477, HI444, HB⟩ := hcut
                   cases kq with
                   | zero => exact absurd HA.out (by simp [signalmanlaw09_ConnOne.j4])
                   | succ kj69 =>
                    have H := HA.out
                    clear HA
                    simp only [signalmanlaw09_ConnOne.j4] at H
                    by_cases c78 : x94_69 = true
                    ·subst c78
                     have H1 : (some false) = some r := by rw [if_pos rfl] at H; exact H
                     clear H
                     have H := H1
                     clear H1
                     obtain rfl := Option.some.inj H
                     go_wp2
                     go_ret
                     exact ⟨by first | rfl | (simp [errW_none, errW_some] <;> rfl) | (simp [*, errW_none, errW_some] <;> rfl), by repeat (first | (with_reducible first | exact HB.out | apply below_alloc | apply pw_below_drewN | apply below_drew1 | refine below_set ?_ (IsS137.ge HI444.out) | refine below_set ?_ GE446.out | refine below_set ?_ GE477.out) | exact HB.out)⟩
                    ·replace c78 := Bool.eq_false_iff.mpr c78
                     subst c78
                     have H1 : (signalmanlaw09_ConnOne.j5 kj69 (wrap64 (x4_1 + 1)) t454 t478 l0 (l0.length : Int) x20_1 x445000_69 x445001_69 x445002_69 x445003_69 x445004_69 x445005_69 ((rd_T102 l0 x20_1).f0) ((rd_T102 l0 x20_1).f1) ((rd_T102 l0 x20_1).f2) t468 t469 t470) = some r := by rw [if_neg (show ¬ (false = true) by decide)] at H; exact H
                     clear H
                     have H := H1
                     clear H1
                     have H' := Aside0.mk H
                     clear H
                     go_wp2
                     go_meet
                     case rel => exact ⟨_, ((wrap64 (x4_1 + 1))), (x445000_69), (x445001_69), (x445002_69), (x445003_69), (x445004_69), (x445005_69), (by first | rfl | (simp; done) | (simp [*]; done)), H', ⟨by have := HK1.out; have := HJ15.out; have := HJ32.out; have := HJ57.out; have := HJ69.out; first | omega | exact Nat.le_refl _⟩, ⟨by (with_reducible repeat (first | refine blk_drewN ?_ _ | refine blk_drew ?_ | refine blk_alloc ?_ _)); exact BK446.out⟩, ⟨by (with_reducible repeat (first | refine blk_drewN ?_ _ | refine blk_drew ?_ | refine blk_alloc ?_ _)); exact BK477.out⟩, ⟨by repeat (first | (with_reducible first | exact HI444.out | apply IsS137.alloc | apply IsS137.drewN | apply IsS137.drew | apply IsS137.set_0 | apply IsS137.set_1 | apply IsS137.set_2 | apply IsS137.set_3 | apply IsS137.set_4 | apply IsS137.set_5 | refine IsS137.far ?_ NB444_446.out _ | refine IsS137.far ?_ NB444_477.out _) | exact HI444.out)⟩, ⟨by repeat (first | (with_reducible first | exact HB.out | apply below_alloc | apply pw_below_drewN | apply below_drew1 | refine below_set ?_ (IsS137.ge HI444.out) | refine below_set ?_ GE446.out | refine below_set ?_ GE477.out) | exact HB.out)⟩⟩
                 ·replace c69 := Bool.eq_false_iff.mpr c69
                  subst c69
                  have H1 : (signalmanlaw09_ConnOne.j5 kj57 x4_1 t454 t478 l0 (l0.length : Int) x20_1 t479 t480 t481 t482 t483 t484 ((rd_T102 l0 x20_1).f0) ((rd_T102 l0 x20_1).f1) ((rd_T102 l0 x20_1).f2) t468 t469 t470) = some r := by rw [if_neg (show ¬ (false = true) by decide)] at H; exact H
                  clear H
                  have H := H1
                  clear H1
                  have H' := Aside0.mk H
                  clear H
                  go_wp2
                  go_meet
                  case rel => exact ⟨_, (x4_1), (t479), (t480), (t481), (t482), (t483), (t484), (by first | rfl | (simp; done) | (simp [*]; done)), H', ⟨by have := HK1.out; have := HJ15.out; have := HJ32.out; have := HJ57.out; first | omega | exact Nat.le_refl _⟩, ⟨by (with_reducible repeat (first | refine blk_drewN ?_ _ | refine blk_drew ?_ | refine blk_alloc ?_ _)); exact BK446.out⟩, ⟨by (with_reducible repeat (first | refine blk_drewN ?_ _ | refine blk_drew ?_ | refine blk_alloc ?_ _)); exact BK477.out⟩, ⟨by repeat (first | (with_reducible first | exact HI444.out | apply IsS137.alloc | apply IsS137.drewN | apply IsS137.drew | apply IsS137.set_0 | apply IsS137.set_1 | apply IsS137.set_2 | apply IsS137.set_3 | apply IsS137.set_4 | apply IsS137.set_5 | refine IsS137.far ?_ NB444_446.out _ | refine IsS137.far ?_ NB444_477.out _) | exact HI444.out)⟩, ⟨by repeat (first | (with_reducible first | exact HB.out | apply below_alloc | apply pw_below_drewN | apply below_drew1 | refine below_set ?_ (IsS137.ge HI444.out) | refine below_set ?_ GE446.out | refine below_set ?_ GE477.out) | exact HB.out)⟩⟩
                case rest =>
                 clear HC68
                 try clear c1
                 try clear c2
                 try clear p2
                 try clear c3
                 try clear c3b0
                 try clear c3b1
                 try clear c4
                 try clear p4
                 try clear q4
                 try clear hx4
                 try clear c5
                 try clear c6
                 try clear p6
                 try clear c7
                 try clear c8
                 try clear c8b0
                 try clear c9
                 try clear c9b0
                 try clear c10
                 try clear c10b0
                 try clear c13
                 try clear c18
                 try clear c26
                 try clear c27
                 try clear c30
                 try clear c30b0
                 try clear c30b1
                 try clear c31
                 try clear c31b0
                 try clear c31b1
                 try clear c32
                 try clear c34
                 try clear c34b0
                 try clear c34b1
                 try clear c35
                 try clear c35b0
                 try clear c35b1
                 try clear c36
                 try clear c36b0
                 try clear c36b1
                 try clear c37
                 try clear c38
                 try clear c38b0
                 try clear c38b1
                 try clear c39
                 try clear c40
                 try clear c42
                 try clear c44
                 try clear p44
                 try clear q44
                 try clear hx44
                 try clear c45
                 try clear c47
                 try clear c49
                 try clear c50
                 try clear c51
                 try clear c52
                 try clear c53
                 try clear c54
                 try clear c55
                 try clear c56
                 try clear c57
                 try clear c59
                 try clear c59b0
                 try clear c59b1
                 try clear c60
                 try clear c61
                 try clear c63
                 try clear p64
                 try clear c65
                 try clear c66
                 try clear c69
                 try clear c71
                 try clear c71b0
                 try clear c71b1
                 try clear c73
                 try clear c73b0
                 try clear c73b1
                 try clear c78
                 try clear hcz19_0
                 try clear hcz19_1
                 try clear hcz19_2
                 try clear hcz23_0
                 try clear hcz23_1
                 try clear hcz23_2
                 try clear hcz28_0
                 try clear hcz28_1
                 try clear hcz28_2
                 try clear hcz41_0
                 try clear hcz41_1
                 try clear hcz41_2
                 try clear hcz43_0
                 try clear hcz43_1
                 try clear hcz43_2
                 try clear hcz46_0
                 try clear hcz46_1
                 try clear hcz46_2
                 try clear hcz48_0
                 try clear hcz48_1
                 try clear hcz48_2
                 try clear hcz51_0
                 try clear hcz51_1
                 try clear hcz51_2
                 try clear hcz53_0
                 try clear hcz53_1
                 try clear hcz53_2
                 try clear hcz56_0
                 try clear hcz56_1
                 try clear hcz56_2
                 try clear hcz62_0
                 try clear hcz62_1
                 try clear hcz62_2
                 try clear hcz64_0
                 try clear hcz64_1
                 try clear hcz64_2
                 try clear hcz67_0
                 try clear hcz67_1
                 try clear hcz67_2
                 try clear hfz19_0
                 try clear hfz19_1
                 try clear hfz19_2
                 try clear hfz23_0
                 try clear hfz23_1
                 try clear hfz23_2
                 try clear hfz28_0
                 try clear hfz28_1
                 try clear hfz28_2
                 try clear hfz41_0
                 try clear hfz41_1
                 try clear hfz41_2
                 try clear hfz43_0
                 try clear hfz43_1
                 try clear hfz43_2
                 try clear hfz46_0
                 try clear hfz46_1
                 try clear hfz46_2
                 try clear hfz48_0
                 try clear hfz48_1
                 try clear hfz48_2
                 try clear hfz51_0
                 try clear hfz51_1
                 try clear hfz51_2
                 try clear hfz53_0
                 try clear hfz53_1
                 try clear hfz53_2
                 try clear hfz56_0
                 try clear hfz56_1
                 try clear hfz56_2
                 try clear hfz62_0
                 try clear hfz62_1
                 try clear hfz62_2
                 try clear hfz64_0
                 try clear hfz64_1
                 try clear hfz64_2
                 try clear hfz67_0
                 try clear hfz67_1
                 try clear hfz67_2
                 try clear hx445_0
                 try clear hx445_1
                 try clear hx445_2
                 try clear p2
                 try clear p4
                 try clear p44
                 try clear p445
                 try clear p6
                 try clear p64
                 try clear q4
                 try clear q44
                 try clear q445
                 obtain ⟨kq, x4_67, x445000_67, x445001_67, x445002_67, x445003_67, x445004_67, x445005_67, rfl, HA, HJ67, BK446, BK477, HI444, HB⟩ := hcut
                 cases kq with
                 | zero => exact absurd HA.out (by simp [signalmanlaw09_ConnOne.j5])
                 | succ kj67 =>
                  have H := HA.out
                  clear HA
                  simp only [signalmanlaw09_ConnOne.j5] at H
                  have HC79 := Aside0.mk H
                  clear H
                  go_upto_region 21 with (fail)
                  go_cut [125] (fun v125 wc => ∃ (kq : Nat) (x125_78 : Bool) (x445000_78 : Int) (x445001_78 : Int) (x445002_78 : Int) (x445003_78 : Int) (x445004_78 : Bool) (x445005_78 : Bool), v125 = .bool x125_78 ∧ Aside0 (signalmanlaw09_ConnOne.j6 kq x4_67 l0 (l0.length : Int) x20_1 x125_78 x445000_78 x445001_78 x445002_78 x445003_78 x445004_78 x445005_78 = some r) ∧ Aside0 (kq ≤ kj67) ∧ Aside0 (wc.heap[gb446]? = some (.cells #[.int .i64 ((rd_T102 l0 x20_1).f0), .int .i64 ((rd_T102 l0 x20_1).f1), .int .u64 ((rd_T102 l0 x20_1).f2)] 102 (0, 0))) ∧ Aside0 (wc.heap[gb477]? = some (.cells #[.bool t468, .int .i64 t469, .int .u64 t470] 104 (0, 0))) ∧ Aside0 (IsS137 w wc g444 x445000_78 x445001_78 x445002_78 x445003_78 x445004_78 x445005_78) ∧ Aside0 (Below w.heap.size w wc))
                  case first =>
                   have H := HC79.out
                   clear HC79
                   by_cases c80 : ((rd_T102 l0 x20_1).f0) = 2
                   ·rw [if_pos c80] at H
                    have c80b0 : (((rd_T102 l0 x20_1).f0) == 2) = true := beq_iff_eq.mpr c80
                    have c80b1 : (((rd_T102 l0 x20_1).f0) != 2) = false := bne_eq_false_iff_eq.mpr c80
                    clear c80
                    (first | rw [c80b0] | (simp only [i64_w, i32_w]; rw [c80b0]) | skip)
                    by_cases c81 : t454 = 0
                    ·rw [if_pos c81] at H
                     have c81b0 : (t454 == 0) = true := beq_iff_eq.mpr c81
                     have c81b1 : (t454 != 0) = false := bne_eq_false_iff_eq.mpr c81
                     clear c81
                     by_cases c82 : (t468 != false) = true
                     ·rw [if_pos c82] at H
                      have c82b0 : (t468 != false) = true := c82
                      (try (have c82b1 : decide (t468 = false) = false := by simpa using c82))
                      (try (have c82b2 : (t468 == false) = false := by simpa using c82))
                      (try (have c82b3 : ¬ (t468 = false) := by simpa using c82))
                      clear c82
                      have H' := Aside0.mk H
                      clear H
                      have hnb83 := NB446_477.out
                      have hnc83 := NB477_446.out
                      have hnb84 := NB446_444.out
                      have hnc84 := NB444_446.out
                      have hcz85_0 : wc.cell? ⟨gb446, 0, none⟩ = some (.int .i64 ((rd_T102 l0 x20_1).f0)) := (blk_cell BK446.out 0).trans rfl
                      have hcz85_1 : wc.cell? ⟨gb446, 1, none⟩ = some (.int .i64 ((rd_T102 l0 x20_1).f1)) := (blk_cell BK446.out 1).trans rfl
                      have hcz85_2 : wc.cell? ⟨gb446, 2, none⟩ = some (.int .u64 ((rd_T102 l0 x20_1).f2)) := (blk_cell BK446.out 2).trans rfl
                      have hfz85_0 := blk_frozen BK446.out 0
                      have hfz85_1 := blk_frozen BK446.out 1
                      have hfz85_2 := blk_frozen BK446.out 2
                      have hnb86 := NB477_444.out
                      have hnc86 := NB444_477.out
                      have hcz87_0 : wc.cell? ⟨gb477, 0, none⟩ = some (.bool t468) := (blk_cell BK477.out 0).trans rfl
                      have hcz87_1 : wc.cell? ⟨gb477, 1, none⟩ = some (.int .i64 t469) := (blk_cell BK477.out 1).trans rfl
                      have hcz87_2 : wc.cell? ⟨gb477, 2, none⟩ = some (.int .u64 t470) := (blk_cell BK477.out 2).trans rfl
                      have hfz87_0 := blk_frozen BK477.out 0
                      have hfz87_1 := blk_frozen BK477.out 1
                      have hfz87_2 := blk_frozen BK477.out 2
                      go_wp2
                      go_meet
                      case rel => exact ⟨_, (true), (x445000_67), (x445001_67), (x445002_67), (x445003_67), (x445004_67), (x445005_67), (by first | rfl | (simp; done) | (simp [*]; done)), H', ⟨by have := HK1.out; have := HJ15.out; have := HJ32.out; have := HJ57.out; have := HJ67.out; first | omega | exact Nat.le_refl _⟩, ⟨by (with_reducible repeat (first | refine blk_drewN ?_ _ | refine blk_drew ?_ | refine blk_alloc ?_ _)); exact BK446.out⟩, ⟨by (with_reducible repeat (first | refine blk_drewN ?_ _ | refine blk_drew ?_ | refine blk_alloc ?_ _)); exact BK477.out⟩, ⟨by repeat (first | (with_reducible first | exact HI444.out | apply IsS137.alloc | apply IsS137.drewN | apply IsS137.drew | apply IsS137.set_0 | apply IsS137.set_1 | apply IsS137.set_2 | apply IsS137.set_3 | apply IsS137.set_4 | apply IsS137.set_5 | refine IsS137.far ?_ NB444_446.out _ | refine IsS137.far ?_ NB444_477.out _) | exact HI444.out)⟩, ⟨by repeat (first | (with_reducible first | exact HB.out | apply below_alloc | apply pw_below_drewN | apply below_drew1 | refine below_set ?_ (IsS137.ge HI444.out) | refine below_set ?_ GE446.out | refine below_set ?_ GE477.out) | exact HB.out)⟩⟩
                     ·rw [if_neg c82] at H
                      have c82b0 : (t468 != false) = false := by simpa using c82
                      (try (have c82b1 : decide (t468 = false) = true := by simpa using c82))
                      (try (have c82b2 : (t468 == false) = true := by simpa using c82))
                      clear c82
                      replace H := Option.bind_eq_some_iff.mp H
                      obtain ⟨⟨t492, t493, t494, t495, t496, t497, t498⟩, A880, H⟩ := H
                      replace H : (if t492 = x4_67 then ((conn_Conn_Flight.f t493 t494 t495 t496 t497 t498).bind fun bt499 => (if bt499.1 = 0 then (signalmanlaw09_ConnOne.j6 kj67 x4_67 l0 (l0.length : Int) x20_1 false bt499.2.1 bt499.2.2.1 bt499.2.2.2.1 bt499.2.2.2.2.1 bt499.2.2.2.2.2.1 bt499.2.2.2.2.2.2) else (signalmanlaw09_ConnOne.j6 kj67 x4_67 l0 (l0.length : Int) x20_1 (t478 == 0) bt499.2.1 bt499.2.2.1 bt499.2.2.2.1 bt499.2.2.2.2.1 bt499.2.2.2.2.2.1 bt499.2.2.2.2.2.2))) else (signalmanlaw09_ConnOne.j6 kj67 x4_67 l0 (l0.length : Int) x20_1 true t493 t494 t495 t496 t497 t498)) = some r := H
                      have A88 := Aside0.mk A880
                      clear A880
                      by_cases c89 : t492 = x4_67
                      ·rw [if_pos c89] at H
                       have c89b0 : (t492 == x4_67) = true := beq_iff_eq.mpr c89
                       have c89b1 : (t492 != x4_67) = false := bne_eq_false_iff_eq.mpr c89
                       clear c89
                       replace H := Option.bind_eq_some_iff.mp H
                       obtain ⟨⟨t499, t500, t501, t502, t503, t504, t505⟩, A900, H⟩ := H
                       replace H : (if t499 = 0 then (signalmanlaw09_ConnOne.j6 kj67 x4_67 l0 (l0.length : Int) x20_1 false t500 t501 t502 t503 t504 t505) else (signalmanlaw09_ConnOne.j6 kj67 x4_67 l0 (l0.length : Int) x20_1 (t478 == 0) t500 t501 t502 t503 t504 t505)) = some r := H
                       have A90 := Aside0.mk A900
                       clear A900
                       by_cases c91 : t499 = 0
                       ·rw [if_pos c91] at H
                        have c91b0 : (t499 == 0) = true := beq_iff_eq.mpr c91
                        have c91b1 : (t499 != 0) = false := bne_eq_false_iff_eq.mpr c91
                        clear c91
                        have H' := Aside0.mk H
                        clear H
                        have hnb92 := NB446_477.out
                        have hnc92 := NB477_446.out
                        have hnb93 := NB446_444.out
                        have hnc93 := NB444_446.out
                        have hcz94_0 : wc.cell? ⟨gb446, 0, none⟩ = some (.int .i64 ((rd_T102 l0 x20_1).f0)) := (blk_cell BK446.out 0).trans rfl
                        have hcz94_1 : wc.cell? ⟨gb446, 1, none⟩ = some (.int .i64 ((rd_T102 l0 x20_1).f1)) := (blk_cell BK446.out 1).trans rfl
                        have hcz94_2 : wc.cell? ⟨gb446, 2, none⟩ = some (.int .u64 ((rd_T102 l0 x20_1).f2)) := (blk_cell BK446.out 2).trans rfl
                        have hfz94_0 := blk_frozen BK446.out 0
                        have hfz94_1 := blk_frozen BK446.out 1
                        have hfz94_2 := blk_frozen BK446.out 2
                        have hnb95 := NB477_444.out
                        have hnc95 := NB444_477.out
                        have hcz96_0 : wc.cell? ⟨gb477, 0, none⟩ = some (.bool t468) := (blk_cell BK477.out 0).trans rfl
                        have hcz96_1 : wc.cell? ⟨gb477, 1, none⟩ = some (.int .i64 t469) := (blk_cell BK477.out 1).trans rfl
                        have hcz96_2 : wc.cell? ⟨gb477, 2, none⟩ = some (.int .u64 t470) := (blk_cell BK477.out 2).trans rfl
                        have hfz96_0 := blk_frozen BK477.out 0
                        have hfz96_1 := blk_frozen BK477.out 1
                        have hfz96_2 := blk_frozen BK477.out 2
                        go_wp2_with (first | (go_at_call 58; (with_reducible refine (conn_Conn_Sent.calls g444 x445000_67 x445001_67 x445002_67 x445003_67 x445004_67 x445005_67 t492 t493 t494 t495 t496 t497 t498 w _ ?side1 ?side2 (by first | exact A88.out | (have h_ := A88.out; exact h_))).mono ?_); (case side1 => repeat (first | (with_reducible first | exact HI444.out | apply IsS137.alloc | apply IsS137.drewN | apply IsS137.drew | apply IsS137.set_0 | apply IsS137.set_1 | apply IsS137.set_2 | apply IsS137.set_3 | apply IsS137.set_4 | apply IsS137.set_5 | refine IsS137.far ?_ NB444_446.out _ | refine IsS137.far ?_ NB444_477.out _) | exact HI444.out)); (case side2 => repeat (first | (with_reducible first | exact HB.out | apply below_alloc | apply pw_below_drewN | apply below_drew1 | refine below_set ?_ (IsS137.ge HI444.out) | refine below_set ?_ GE446.out | refine below_set ?_ GE477.out) | exact HB.out)); rintro e w97 ⟨rfl, hi, hb, hk⟩; have n0_ := Aside0.mk (KeepBut.blk hk (g' := gb446) (o := .cells #[.int .i64 ((rd_T102 l0 x20_1).f0), .int .i64 ((rd_T102 l0 x20_1).f1), .int .u64 ((rd_T102 l0 x20_1).f2)] 102 (0, 0)) (by (with_reducible repeat (first | refine blk_drewN ?_ _ | refine blk_drew ?_ | refine blk_alloc ?_ _)); exact BK446.out) NB446_444.out (by simp)); have n1_ := Aside0.mk (KeepBut.blk hk (g' := gb477) (o := .cells #[.bool t468, .int .i64 t469, .int .u64 t470] 104 (0, 0)) (by (with_reducible repeat (first | refine blk_drewN ?_ _ | refine blk_drew ?_ | refine blk_alloc ?_ _)); exact BK477.out) NB477_444.out (by simp)); have n2_ := Aside0.mk (hb); have n3_ := Aside0.mk (hi); clear BK446; clear BK477; clear HB; clear HI444; have BK446 := n0_; have BK477 := n1_; have HB := n2_; have HI444 := n3_; clear n0_ n1_ n2_ n3_; (try clear hb); (try clear hb2); (try clear hk); (try clear hi)) | (go_at_call 57; (with_reducible refine (conn_Conn_Flight.calls g444 t493 t494 t495 t496 t497 t498 t499 t500 t501 t502 t503 t504 t505 w _ ?side1 ?side2 (by first | exact A90.out | (have h_ := A90.out; exact h_))).mono ?_); (case side1 => repeat (first | (with_reducible first | exact HI444.out | apply IsS137.alloc | apply IsS137.drewN | apply IsS137.drew | apply IsS137.set_0 | apply IsS137.set_1 | apply IsS137.set_2 | apply IsS137.set_3 | apply IsS137.set_4 | apply IsS137.set_5 | refine IsS137.far ?_ NB444_446.out _ | refine IsS137.far ?_ NB444_477.out _) | exact HI444.out)); (case side2 => repeat (first | (with_reducible first | exact HB.out | apply below_alloc | apply pw_below_drewN | apply below_drew1 | refine below_set ?_ (IsS137.ge HI444.out) | refine below_set ?_ GE446.out | refine below_set ?_ GE477.out) | exact HB.out)); rintro e w98 ⟨rfl, hi, hb, hk⟩; have n0_ := Aside0.mk (KeepBut.blk hk (g' := gb446) (o := .cells #[.int .i64 ((rd_T102 l0 x20_1).f0), .int .i64 ((rd_T102 l0 x20_1).f1), .int .u64 ((rd_T102 l0 x20_1).f2)] 102 (0, 0)) (by (with_reducible repeat (first | refine blk_drewN ?_ _ | refine blk_drew ?_ | refine blk_alloc ?_ _)); exact BK446.out) NB446_444.out (by simp)); have n1_ := Aside0.mk (KeepBut.blk hk (g' := gb477) (o := .cells #[.bool t468, .int .i64 t469, .int .u64 t470] 104 (0, 0)) (by (with_reducible repeat (first | refine blk_drewN ?_ _ | refine blk_drew ?_ | refine blk_alloc ?_ _)); exact BK477.out) NB477_444.out (by simp)); have n2_ := Aside0.mk (hb); have n3_ := Aside0.mk (hi); clear BK446; clear BK477; clear HB; clear HI444; have BK446 := n0_; have BK477 := n1_; have HB := n2_; have HI444 := n3_; clear n0_ n1_ n2_ n3_; (try clear hb); (try clear hb2); (try clear hk); (try clear hi)))
                        go_meet
                        case rel => exact ⟨_, (false), (t500), (t501), (t502), (t503), (t504), (t505), (by first | rfl | (simp; done) | (simp [*]; done)), H', ⟨by have := HK1.out; have := HJ15.out; have := HJ32.out; have := HJ57.out; have := HJ67.out; first | omega | exact Nat.le_refl _⟩, ⟨by (with_reducible repeat (first | refine blk_drewN ?_ _ | refine blk_drew ?_ | refine blk_alloc ?_ _)); exact BK446.out⟩, ⟨by (with_reducible repeat (first | refine blk_drewN ?_ _ | refine blk_drew ?_ | refine blk_alloc ?_ _)); exact BK477.out⟩, ⟨by repeat (first | (with_reducible first | exact HI444.out | apply IsS137.alloc | apply IsS137.drewN | apply IsS137.drew | apply IsS137.set_0 | apply IsS137.set_1 | apply IsS137.set_2 | apply IsS137.set_3 | apply IsS137.set_4 | apply IsS137.set_5 | refine IsS137.far ?_ NB444_446.out _ | refine IsS137.far ?_ NB444_477.out _) | exact HI444.out)⟩, ⟨by repeat (first | (with_reducible first | exact HB.out | apply below_alloc | apply pw_below_drewN | apply below_drew1 | refine below_set ?_ (IsS137.ge HI444.out) | refine below_set ?_ GE446.out | refine below_set ?_ GE477.out) | exact HB.out)⟩⟩
                       ·rw [if_neg c91] at H
                        have c91b0 : (t499 == 0) = false := beq_eq_false_iff_ne.mpr c91
                        have c91b1 : (t499 != 0) = true := bne_iff_ne.mpr c91
                        have H' := Aside0.mk H
                        clear H
                        have hnb99 := NB446_477.out
                        have hnc99 := NB477_446.out
                        have hnb100 := NB446_444.out
                        have hnc100 := NB444_446.out
                        have hcz101_0 : wc.cell? ⟨gb446, 0, none⟩ = some (.int .i64 ((rd_T102 l0 x20_1).f0)) := (blk_cell BK446.out 0).trans rfl
                        have hcz101_1 : wc.cell? ⟨gb446, 1, none⟩ = some (.int .i64 ((rd_T102 l0 x20_1).f1)) := (blk_cell BK446.out 1).trans rfl
                        have hcz101_2 : wc.cell? ⟨gb446, 2, none⟩ = some (.int .u64 ((rd_T102 l0 x20_1).f2)) := (blk_cell BK446.out 2).trans rfl
                        have hfz101_0 := blk_frozen BK446.out 0
                        have hfz101_1 := blk_frozen BK446.out 1
                        have hfz101_2 := blk_frozen BK446.out 2
                        have hnb102 := NB477_444.out
                        have hnc102 := NB444_477.out
                        have hcz103_0 : wc.cell? ⟨gb477, 0, none⟩ = some (.bool t468) := (blk_cell BK477.out 0).trans rfl
                        have hcz103_1 : wc.cell? ⟨gb477, 1, none⟩ = some (.int .i64 t469) := (blk_cell BK477.out 1).trans rfl
                        have hcz103_2 : wc.cell? ⟨gb477, 2, none⟩ = some (.int .u64 t470) := (blk_cell BK477.out 2).trans rfl
                        have hfz103_0 := blk_frozen BK477.out 0
                        have hfz103_1 := blk_frozen BK477.out 1
                        have hfz103_2 := blk_frozen BK477.out 2
                        go_wp2_with (first | (go_at_call 58; (with_reducible refine (conn_Conn_Sent.calls g444 x445000_67 x445001_67 x445002_67 x445003_67 x445004_67 x445005_67 t492 t493 t494 t495 t496 t497 t498 w _ ?side1 ?side2 (by first | exact A88.out | (have h_ := A88.out; exact h_))).mono ?_); (case side1 => repeat (first | (with_reducible first | exact HI444.out | apply IsS137.alloc | apply IsS137.drewN | apply IsS137.drew | apply IsS137.set_0 | apply IsS137.set_1 | apply IsS137.set_2 | apply IsS137.set_3 | apply IsS137.set_4 | apply IsS137.set_5 | refine IsS137.far ?_ NB444_446.out _ | refine IsS137.far ?_ NB444_477.out _) | exact HI444.out)); (case side2 => repeat (first | (with_reducible first | exact HB.out | apply below_alloc | apply pw_below_drewN | apply below_drew1 | refine below_set ?_ (IsS137.ge HI444.out) | refine below_set ?_ GE446.out | refine below_set ?_ GE477.out) | exact HB.out)); rintro e w104 ⟨rfl, hi, hb, hk⟩; have n0_ := Aside0.mk (KeepBut.blk hk (g' := gb446) (o := .cells #[.int .i64 ((rd_T102 l0 x20_1).f0), .int .i64 ((rd_T102 l0 x20_1).f1), .int .u64 ((rd_T102 l0 x20_1).f2)] 102 (0, 0)) (by (with_reducible repeat (first | refine blk_drewN ?_ _ | refine blk_drew ?_ | refine blk_alloc ?_ _)); exact BK446.out) NB446_444.out (by simp)); have n1_ := Aside0.mk (KeepBut.blk hk (g' := gb477) (o := .cells #[.bool t468, .int .i64 t469, .int .u64 t470] 104 (0, 0)) (by (with_reducible repeat (first | refine blk_drewN ?_ _ | refine blk_drew ?_ | refine blk_alloc ?_ _)); exact BK477.out) NB477_444.out (by simp)); have n2_ := Aside0.mk (hb); have n3_ := Aside0.mk (hi); clear BK446; clear BK477; clear HB; clear HI444; have BK446 := n0_; have BK477 := n1_; have HB := n2_; have HI444 := n3_; clear n0_ n1_ n2_ n3_; (try clear hb); (try clear hb2); (try clear hk); (try clear hi)) | (go_at_call 57; (with_reducible refine (conn_Conn_Flight.calls g444 t493 t494 t495 t496 t497 t498 t499 t500 t501 t502 t503 t504 t505 w _ ?side1 ?side2 (by first | exact A90.out | (have h_ := A90.out; exact h_))).mono ?_); (case side1 => repeat (first | (with_reducible first | exact HI444.out | apply IsS137.alloc | apply IsS137.drewN | apply IsS137.drew | apply IsS137.set_0 | apply IsS137.set_1 | apply IsS137.set_2 | apply IsS137.set_3 | apply IsS137.set_4 | apply IsS137.set_5 | refine IsS137.far ?_ NB444_446.out _ | refine IsS137.far ?_ NB444_477.out _) | exact HI444.out)); (case side2 => repeat (first | (with_reducible first | exact HB.out | apply below_alloc | apply pw_below_drewN | apply below_drew1 | refine below_set ?_ (IsS137.ge HI444.out) | refine below_set ?_ GE446.out | refine below_set ?_ GE477.out) | exact HB.out)); rintro e w105 ⟨rfl, hi, hb, hk⟩; have n0_ := Aside0.mk (KeepBut.blk hk (g' := gb446) (o := .cells #[.int .i64 ((rd_T102 l0 x20_1).f0), .int .i64 ((rd_T102 l0 x20_1).f1), .int .u64 ((rd_T102 l0 x20_1).f2)] 102 (0, 0)) (by (with_reducible repeat (first | refine blk_drewN ?_ _ | refine blk_drew ?_ | refine blk_alloc ?_ _)); exact BK446.out) NB446_444.out (by simp)); have n1_ := Aside0.mk (KeepBut.blk hk (g' := gb477) (o := .cells #[.bool t468, .int .i64 t469, .int .u64 t470] 104 (0, 0)) (by (with_reducible repeat (first | refine blk_drewN ?_ _ | refine blk_drew ?_ | refine blk_alloc ?_ _)); exact BK477.out) NB477_444.out (by simp)); have n2_ := Aside0.mk (hb); have n3_ := Aside0.mk (hi); clear BK446; clear BK477; clear HB; clear HI444; have BK446 := n0_; have BK477 := n1_; have HB := n2_; have HI444 := n3_; clear n0_ n1_ n2_ n3_; (try clear hb); (try clear hb2); (try clear hk); (try clear hi)))
                        go_meet
                        case rel => exact ⟨_, ((t478 == 0)), (t500), (t501), (t502), (t503), (t504), (t505), (by first | rfl | (simp; done) | (simp [*]; done)), H', ⟨by have := HK1.out; have := HJ15.out; have := HJ32.out; have := HJ57.out; have := HJ67.out; first | omega | exact Nat.le_refl _⟩, ⟨by (with_reducible repeat (first | refine blk_drewN ?_ _ | refine blk_drew ?_ | refine blk_alloc ?_ _)); exact BK446.out⟩, ⟨by (with_reducible repeat (first | refine blk_drewN ?_ _ | refine blk_drew ?_ | refine blk_alloc ?_ _)); exact BK477.out⟩, ⟨by repeat (first | (with_reducible first | exact HI444.out | apply IsS137.alloc | apply IsS137.drewN | apply IsS137.drew | apply IsS137.set_0 | apply IsS137.set_1 | apply IsS137.set_2 | apply IsS137.set_3 | apply IsS137.set_4 | apply IsS137.set_5 | refine IsS137.far ?_ NB444_446.out _ | refine IsS137.far ?_ NB444_477.out _) | exact HI444.out)⟩, ⟨by repeat (first | (with_reducible first | exact HB.out | apply below_alloc | apply pw_below_drewN | apply below_drew1 | refine below_set ?_ (IsS137.ge HI444.out) | refine below_set ?_ GE446.out | refine below_set ?_ GE477.out) | exact HB.out)⟩⟩
                      ·rw [if_neg c89] at H
                       have c89b0 : (t492 == x4_67) = false := beq_eq_false_iff_ne.mpr c89
                       have c89b1 : (t492 != x4_67) = true := bne_iff_ne.mpr c89
                       have H' := Aside0.mk H
                       clear H
                       have hnb106 := NB446_477.out
                       have hnc106 := NB477_446.out
                       have hnb107 := NB446_444.out
                       have hnc107 := NB444_446.out
                       have hcz108_0 : wc.cell? ⟨gb446, 0, none⟩ = some (.int .i64 ((rd_T102 l0 x20_1).f0)) := (blk_cell BK446.out 0).trans rfl
                       have hcz108_1 : wc.cell? ⟨gb446, 1, none⟩ = some (.int .i64 ((rd_T102 l0 x20_1).f1)) := (blk_cell BK446.out 1).trans rfl
                       have hcz108_2 : wc.cell? ⟨gb446, 2, none⟩ = some (.int .u64 ((rd_T102 l0 x20_1).f2)) := (blk_cell BK446.out 2).trans rfl
                       have hfz108_0 := blk_frozen BK446.out 0
                       have hfz108_1 := blk_frozen BK446.out 1
                       have hfz108_2 := blk_frozen BK446.out 2
                       have hnb109 := NB477_444.out
                       have hnc109 := NB444_477.out
                       have hcz110_0 : wc.cell? ⟨gb477, 0, none⟩ = some (.bool t468) := (blk_cell BK477.out 0).trans rfl
                       have hcz110_1 : wc.cell? ⟨gb477, 1, none⟩ = some (.int .i64 t469) := (blk_cell BK477.out 1).trans rfl
                       have hcz110_2 : wc.cell? ⟨gb477, 2, none⟩ = some (.int .u64 t470) := (blk_cell BK477.out 2).trans rfl
                       have hfz110_0 := blk_frozen BK477.out 0
                       have hfz110_1 := blk_frozen BK477.out 1
                       have hfz110_2 := blk_frozen BK477.out 2
                       go_wp2_with (first | (go_at_call 58; (with_reducible refine (conn_Conn_Sent.calls g444 x445000_67 x445001_67 x445002_67 x445003_67 x445004_67 x445005_67 t492 t493 t494 t495 t496 t497 t498 w _ ?side1 ?side2 (by first | exact A88.out | (have h_ := A88.out; exact h_))).mono ?_); (case side1 => repeat (first | (with_reducible first | exact HI444.out | apply IsS137.alloc | apply IsS137.drewN | apply IsS137.drew | apply IsS137.set_0 | apply IsS137.set_1 | apply IsS137.set_2 | apply IsS137.set_3 | apply IsS137.set_4 | apply IsS137.set_5 | refine IsS137.far ?_ NB444_446.out _ | refine IsS137.far ?_ NB444_477.out _) | exact HI444.out)); (case side2 => repeat (first | (with_reducible first | exact HB.out | apply below_alloc | apply pw_below_drewN | apply below_drew1 | refine below_set ?_ (IsS137.ge HI444.out) | refine below_set ?_ GE446.out | refine below_set ?_ GE477.out) | exact HB.out)); rintro e w111 ⟨rfl, hi, hb, hk⟩; have n0_ := Aside0.mk (KeepBut.blk hk (g' := gb446) (o := .cells #[.int .i64 ((rd_T102 l0 x20_1).f0), .int .i64 ((rd_T102 l0 x20_1).f1), .int .u64 ((rd_T102 l0 x20_1).f2)] 102 (0, 0)) (by (with_reducible repeat (first | refine blk_drewN ?_ _ | refine blk_drew ?_ | refine blk_alloc ?_ _)); exact BK446.out) NB446_444.out (by simp)); have n1_ := Aside0.mk (KeepBut.blk hk (g' := gb477) (o := .cells #[.bool t468, .int .i64 t469, .int .u64 t470] 104 (0, 0)) (by (with_reducible repeat (first | refine blk_drewN ?_ _ | refine blk_drew ?_ | refine blk_alloc ?_ _)); exact BK477.out) NB477_444.out (by simp)); have n2_ := Aside0.mk (hb); have n3_ := Aside0.mk (hi); clear BK446; clear BK477; clear HB; clear HI444; have BK446 := n0_; have BK477 := n1_; have HB := n2_; have HI444 := n3_; clear n0_ n1_ n2_ n3_; (try clear hb); (try clear hb2); (try clear hk); (try clear hi)))
                       go_meet
                       case rel => exact ⟨_, (true), (t493), (t494), (t495), (t496), (t497), (t498), (by first | rfl | (simp; done) | (simp [*]; done)), H', ⟨by have := HK1.out; have := HJ15.out; have := HJ32.out; have := HJ57.out; have := HJ67.out; first | omega | exact Nat.le_refl _⟩, ⟨by (with_reducible repeat (first | refine blk_drewN ?_ _ | refine blk_drew ?_ | refine blk_alloc ?_ _)); exact BK446.out⟩, ⟨by (with_reducible repeat (first | refine blk_drewN ?_ _ | refine blk_drew ?_ | refine blk_alloc ?_ _)); exact BK477.out⟩, ⟨by repeat (first | (with_reducible first | exact HI444.out | apply IsS137.alloc | apply IsS137.drewN | apply IsS137.drew | apply IsS137.set_0 | apply IsS137.set_1 | apply IsS137.set_2 | apply IsS137.set_3 | apply IsS137.set_4 | apply IsS137.set_5 | refine IsS137.far ?_ NB444_446.out _ | refine IsS137.far ?_ NB444_477.out _) | exact HI444.out)⟩, ⟨by repeat (first | (with_reducible first | exact HB.out | apply below_alloc | apply pw_below_drewN | apply below_drew1 | refine below_set ?_ (IsS137.ge HI444.out) | refine below_set ?_ GE446.out | refine below_set ?_ GE477.out) | exact HB.out)⟩⟩
                    ·rw [if_neg c81] at H
                     have c81b0 : (t454 == 0) = false := beq_eq_false_iff_ne.mpr c81
                     have c81b1 : (t454 != 0) = true := bne_iff_ne.mpr c81
                     by_cases c112 : (t468 != (t454 == ((rd_T102 l0 x20_1).f2))) = true
                     ·rw [if_pos c112] at H
                      have c112b0 : (t468 != (t454 == ((rd_T102 l0 x20_1).f2))) = true := c112
                      (try (have c112b1 : decide (t468 = (t454 == ((rd_T102 l0 x20_1).f2))) = false := by simpa using c112))
                      (try (have c112b2 : (t468 == (t454 == ((rd_T102 l0 x20_1).f2))) = false := by simpa using c112))
                      (try (have c112b3 : ¬ (t468 = (t454 == ((rd_T102 l0 x20_1).f2))) := by simpa using c112))
                      clear c112
                      have H' := Aside0.mk H
                      clear H
                      have hnb113 := NB446_477.out
                      have hnc113 := NB477_446.out
                      have hnb114 := NB446_444.out
                      have hnc114 := NB444_446.out
                      have hcz115_0 : wc.cell? ⟨gb446, 0, none⟩ = some (.int .i64 ((rd_T102 l0 x20_1).f0)) := (blk_cell BK446.out 0).trans rfl
                      have hcz115_1 : wc.cell? ⟨gb446, 1, none⟩ = some (.int .i64 ((rd_T102 l0 x20_1).f1)) := (blk_cell BK446.out 1).trans rfl
                      have hcz115_2 : wc.cell? ⟨gb446, 2, none⟩ = some (.int .u64 ((rd_T102 l0 x20_1).f2)) := (blk_cell BK446.out 2).trans rfl
                      have hfz115_0 := blk_frozen BK446.out 0
                      have hfz115_1 := blk_frozen BK446.out 1
                      have hfz115_2 := blk_frozen BK446.out 2
                      have hnb116 := NB477_444.out
                      have hnc116 := NB444_477.out
                      have hcz117_0 : wc.cell? ⟨gb477, 0, none⟩ = some (.bool t468) := (blk_cell BK477.out 0).trans rfl
                      have hcz117_1 : wc.cell? ⟨gb477, 1, none⟩ = some (.int .i64 t469) := (blk_cell BK477.out 1).trans rfl
                      have hcz117_2 : wc.cell? ⟨gb477, 2, none⟩ = some (.int .u64 t470) := (blk_cell BK477.out 2).trans rfl
                      have hfz117_0 := blk_frozen BK477.out 0
                      have hfz117_1 := blk_frozen BK477.out 1
                      have hfz117_2 := blk_frozen BK477.out 2
                      go_wp2
                      go_meet
                      case rel => exact ⟨_, (true), (x445000_67), (x445001_67), (x445002_67), (x445003_67), (x445004_67), (x445005_67), (by first | rfl | (simp; done) | (simp [*]; done)), H', ⟨by have := HK1.out; have := HJ15.out; have := HJ32.out; have := HJ57.out; have := HJ67.out; first | omega | exact Nat.le_refl _⟩, ⟨by (with_reducible repeat (first | refine blk_drewN ?_ _ | refine blk_drew ?_ | refine blk_alloc ?_ _)); exact BK446.out⟩, ⟨by (with_reducible repeat (first | refine blk_drewN ?_ _ | refine blk_drew ?_ | refine blk_alloc ?_ _)); exact BK477.out⟩, ⟨by repeat (first | (with_reducible first | exact HI444.out | apply IsS137.alloc | apply IsS137.drewN | apply IsS137.drew | apply IsS137.set_0 | apply IsS137.set_1 | apply IsS137.set_2 | apply IsS137.set_3 | apply IsS137.set_4 | apply IsS137.set_5 | refine IsS137.far ?_ NB444_446.out _ | refine IsS137.far ?_ NB444_477.out _) | exact HI444.out)⟩, ⟨by repeat (first | (with_reducible first | exact HB.out | apply below_alloc | apply pw_below_drewN | apply below_drew1 | refine below_set ?_ (IsS137.ge HI444.out) | refine below_set ?_ GE446.out | refine below_set ?_ GE477.out) | exact HB.out)⟩⟩
                     ·rw [if_neg c112] at H
                      have c112b0 : (t468 != (t454 == ((rd_T102 l0 x20_1).f2))) = false := by simpa using c112
                      (try (have c112b1 : decide (t468 = (t454 == ((rd_T102 l0 x20_1).f2))) = true := by simpa using c112))
                      (try (have c112b2 : (t468 == (t454 == ((rd_T102 l0 x20_1).f2))) = true := by simpa using c112))
                      clear c112
                      replace H := Option.bind_eq_some_iff.mp H
                      obtain ⟨⟨t506, t507, t508, t509, t510, t511, t512⟩, A1180, H⟩ := H
                      replace H : (if t506 = x4_67 then ((conn_Conn_Flight.f t507 t508 t509 t510 t511 t512).bind fun bt513 => (if bt513.1 = 0 then (signalmanlaw09_ConnOne.j6 kj67 x4_67 l0 (l0.length : Int) x20_1 false bt513.2.1 bt513.2.2.1 bt513.2.2.2.1 bt513.2.2.2.2.1 bt513.2.2.2.2.2.1 bt513.2.2.2.2.2.2) else (signalmanlaw09_ConnOne.j6 kj67 x4_67 l0 (l0.length : Int) x20_1 (t478 == 0) bt513.2.1 bt513.2.2.1 bt513.2.2.2.1 bt513.2.2.2.2.1 bt513.2.2.2.2.2.1 bt513.2.2.2.2.2.2))) else (signalmanlaw09_ConnOne.j6 kj67 x4_67 l0 (l0.length : Int) x20_1 true t507 t508 t509 t510 t511 t512)) = some r := H
                      have A118 := Aside0.mk A1180
                      clear A1180
                      by_cases c119 : t506 = x4_67
                      ·rw [if_pos c119] at H
                       have c119b0 : (t506 == x4_67) = true := beq_iff_eq.mpr c119
                       have c119b1 : (t506 != x4_67) = false := bne_eq_false_iff_eq.mpr c119
                       clear c119
                       replace H := Option.bind_eq_some_iff.mp H
                       obtain ⟨⟨t513, t514, t515, t516, t517, t518, t519⟩, A1200, H⟩ := H
                       replace H : (if t513 = 0 then (signalmanlaw09_ConnOne.j6 kj67 x4_67 l0 (l0.length : Int) x20_1 false t514 t515 t516 t517 t518 t519) else (signalmanlaw09_ConnOne.j6 kj67 x4_67 l0 (l0.length : Int) x20_1 (t478 == 0) t514 t515 t516 t517 t518 t519)) = some r := H
                       have A120 := Aside0.mk A1200
                       clear A1200
                       by_cases c121 : t513 = 0
                       ·rw [if_pos c121] at H
                        have c121b0 : (t513 == 0) = true := beq_iff_eq.mpr c121
                        have c121b1 : (t513 != 0) = false := bne_eq_false_iff_eq.mpr c121
                        clear c121
                        have H' := Aside0.mk H
                        clear H
                        have hnb122 := NB446_477.out
                        have hnc122 := NB477_446.out
                        have hnb123 := NB446_444.out
                        have hnc123 := NB444_446.out
                        have hcz124_0 : wc.cell? ⟨gb446, 0, none⟩ = some (.int .i64 ((rd_T102 l0 x20_1).f0)) := (blk_cell BK446.out 0).trans rfl
                        have hcz124_1 : wc.cell? ⟨gb446, 1, none⟩ = some (.int .i64 ((rd_T102 l0 x20_1).f1)) := (blk_cell BK446.out 1).trans rfl
                        have hcz124_2 : wc.cell? ⟨gb446, 2, none⟩ = some (.int .u64 ((rd_T102 l0 x20_1).f2)) := (blk_cell BK446.out 2).trans rfl
                        have hfz124_0 := blk_frozen BK446.out 0
                        have hfz124_1 := blk_frozen BK446.out 1
                        have hfz124_2 := blk_frozen BK446.out 2
                        have hnb125 := NB477_444.out
                        have hnc125 := NB444_477.out
                        have hcz126_0 : wc.cell? ⟨gb477, 0, none⟩ = some (.bool t468) := (blk_cell BK477.out 0).trans rfl
                        have hcz126_1 : wc.cell? ⟨gb477, 1, none⟩ = some (.int .i64 t469) := (blk_cell BK477.out 1).trans rfl
                        have hcz126_2 : wc.cell? ⟨gb477, 2, none⟩ = some (.int .u64 t470) := (blk_cell BK477.out 2).trans rfl
                        have hfz126_0 := blk_frozen BK477.out 0
                        have hfz126_1 := blk_frozen BK477.out 1
                        have hfz126_2 := blk_frozen BK477.out 2
                        go_wp2_with (first | (go_at_call 58; (with_reducible refine (conn_Conn_Sent.calls g444 x445000_67 x445001_67 x445002_67 x445003_67 x445004_67 x445005_67 t506 t507 t508 t509 t510 t511 t512 w _ ?side1 ?side2 (by first | exact A118.out | (have h_ := A118.out; exact h_))).mono ?_); (case side1 => repeat (first | (with_reducible first | exact HI444.out | apply IsS137.alloc | apply IsS137.drewN | apply IsS137.drew | apply IsS137.set_0 | apply IsS137.set_1 | apply IsS137.set_2 | apply IsS137.set_3 | apply IsS137.set_4 | apply IsS137.set_5 | refine IsS137.far ?_ NB444_446.out _ | refine IsS137.far ?_ NB444_477.out _) | exact HI444.out)); (case side2 => repeat (first | (with_reducible first | exact HB.out | apply below_alloc | apply pw_below_drewN | apply below_drew1 | refine below_set ?_ (IsS137.ge HI444.out) | refine below_set ?_ GE446.out | refine below_set ?_ GE477.out) | exact HB.out)); rintro e w127 ⟨rfl, hi, hb, hk⟩; have n0_ := Aside0.mk (KeepBut.blk hk (g' := gb446) (o := .cells #[.int .i64 ((rd_T102 l0 x20_1).f0), .int .i64 ((rd_T102 l0 x20_1).f1), .int .u64 ((rd_T102 l0 x20_1).f2)] 102 (0, 0)) (by (with_reducible repeat (first | refine blk_drewN ?_ _ | refine blk_drew ?_ | refine blk_alloc ?_ _)); exact BK446.out) NB446_444.out (by simp)); have n1_ := Aside0.mk (KeepBut.blk hk (g' := gb477) (o := .cells #[.bool t468, .int .i64 t469, .int .u64 t470] 104 (0, 0)) (by (with_reducible repeat (first | refine blk_drewN ?_ _ | refine blk_drew ?_ | refine blk_alloc ?_ _)); exact BK477.out) NB477_444.out (by simp)); have n2_ := Aside0.mk (hb); have n3_ := Aside0.mk (hi); clear BK446; clear BK477; clear HB; clear HI444; have BK446 := n0_; have BK477 := n1_; have HB := n2_; have HI444 := n3_; clear n0_ n1_ n2_ n3_; (try clear hb); (try clear hb2); (try clear hk); (try clear hi)) | (go_at_call 57; (with_reducible refine (conn_Conn_Flight.calls g444 t507 t508 t509 t510 t511 t512 t513 t514 t515 t516 t517 t518 t519 w _ ?side1 ?side2 (by first | exact A120.out | (have h_ := A120.out; exact h_))).mono ?_); (case side1 => repeat (first | (with_reducible first | exact HI444.out | apply IsS137.alloc | apply IsS137.drewN | apply IsS137.drew | apply IsS137.set_0 | apply IsS137.set_1 | apply IsS137.set_2 | apply IsS137.set_3 | apply IsS137.set_4 | apply IsS137.set_5 | refine IsS137.far ?_ NB444_446.out _ | refine IsS137.far ?_ NB444_477.out _) | exact HI444.out)); (case side2 => repeat (first | (with_reducible first | exact HB.out | apply below_alloc | apply pw_below_drewN | apply below_drew1 | refine below_set ?_ (IsS137.ge HI444.out) | refine below_set ?_ GE446.out | refine below_set ?_ GE477.out) | exact HB.out)); rintro e w128 ⟨rfl, hi, hb, hk⟩; have n0_ := Aside0.mk (KeepBut.blk hk (g' := gb446) (o := .cells #[.int .i64 ((rd_T102 l0 x20_1).f0), .int .i64 ((rd_T102 l0 x20_1).f1), .int .u64 ((rd_T102 l0 x20_1).f2)] 102 (0, 0)) (by (with_reducible repeat (first | refine blk_drewN ?_ _ | refine blk_drew ?_ | refine blk_alloc ?_ _)); exact BK446.out) NB446_444.out (by simp)); have n1_ := Aside0.mk (KeepBut.blk hk (g' := gb477) (o := .cells #[.bool t468, .int .i64 t469, .int .u64 t470] 104 (0, 0)) (by (with_reducible repeat (first | refine blk_drewN ?_ _ | refine blk_drew ?_ | refine blk_alloc ?_ _)); exact BK477.out) NB477_444.out (by simp)); have n2_ := Aside0.mk (hb); have n3_ := Aside0.mk (hi); clear BK446; clear BK477; clear HB; clear HI444; have BK446 := n0_; have BK477 := n1_; have HB := n2_; have HI444 := n3_; clear n0_ n1_ n2_ n3_; (try clear hb); (try clear hb2); (try clear hk); (try clear hi)))
                        go_meet
                        case rel => exact ⟨_, (false), (t514), (t515), (t516), (t517), (t518), (t519), (by first | rfl | (simp; done) | (simp [*]; done)), H', ⟨by have := HK1.out; have := HJ15.out; have := HJ32.out; have := HJ57.out; have := HJ67.out; first | omega | exact Nat.le_refl _⟩, ⟨by (with_reducible repeat (first | refine blk_drewN ?_ _ | refine blk_drew ?_ | refine blk_alloc ?_ _)); exact BK446.out⟩, ⟨by (with_reducible repeat (first | refine blk_drewN ?_ _ | refine blk_drew ?_ | refine blk_alloc ?_ _)); exact BK477.out⟩, ⟨by repeat (first | (with_reducible first | exact HI444.out | apply IsS137.alloc | apply IsS137.drewN | apply IsS137.drew | apply IsS137.set_0 | apply IsS137.set_1 | apply IsS137.set_2 | apply IsS137.set_3 | apply IsS137.set_4 | apply IsS137.set_5 | refine IsS137.far ?_ NB444_446.out _ | refine IsS137.far ?_ NB444_477.out _) | exact HI444.out)⟩, ⟨by repeat (first | (with_reducible first | exact HB.out | apply below_alloc | apply pw_below_drewN | apply below_drew1 | refine below_set ?_ (IsS137.ge HI444.out) | refine below_set ?_ GE446.out | refine below_set ?_ GE477.out) | exact HB.out)⟩⟩
                       ·rw [if_neg c121] at H
                        have c121b0 : (t513 == 0) = false := beq_eq_false_iff_ne.mpr c121
                        have c121b1 : (t513 != 0) = true := bne_iff_ne.mpr c121
                        have H' := Aside0.mk H
                        clear H
                        have hnb129 := NB446_477.out
                        have hnc129 := NB477_446.out
                        have hnb130 := NB446_444.out
                        have hnc130 := NB444_446.out
                        have hcz131_0 : wc.cell? ⟨gb446, 0, none⟩ = some (.int .i64 ((rd_T102 l0 x20_1).f0)) := (blk_cell BK446.out 0).trans rfl
                        have hcz131_1 : wc.cell? ⟨gb446, 1, none⟩ = some (.int .i64 ((rd_T102 l0 x20_1).f1)) := (blk_cell BK446.out 1).trans rfl
                        have hcz131_2 : wc.cell? ⟨gb446, 2, none⟩ = some (.int .u64 ((rd_T102 l0 x20_1).f2)) := (blk_cell BK446.out 2).trans rfl
                        have hfz131_0 := blk_frozen BK446.out 0
                        have hfz131_1 := blk_frozen BK446.out 1
                        have hfz131_2 := blk_frozen BK446.out 2
                        have hnb132 := NB477_444.out
                        have hnc132 := NB444_477.out
                        have hcz133_0 : wc.cell? ⟨gb477, 0, none⟩ = some (.bool t468) := (blk_cell BK477.out 0).trans rfl
                        have hcz133_1 : wc.cell? ⟨gb477, 1, none⟩ = some (.int .i64 t469) := (blk_cell BK477.out 1).trans rfl
                        have hcz133_2 : wc.cell? ⟨gb477, 2, none⟩ = some (.int .u64 t470) := (blk_cell BK477.out 2).trans rfl
                        have hfz133_0 := blk_frozen BK477.out 0
                        have hfz133_1 := blk_frozen BK477.out 1
                        have hfz133_2 := blk_frozen BK477.out 2
                        go_wp2_with (first | (go_at_call 58; (with_reducible refine (conn_Conn_Sent.calls g444 x445000_67 x445001_67 x445002_67 x445003_67 x445004_67 x445005_67 t506 t507 t508 t509 t510 t511 t512 w _ ?side1 ?side2 (by first | exact A118.out | (have h_ := A118.out; exact h_))).mono ?_); (case side1 => repeat (first | (with_reducible first | exact HI444.out | apply IsS137.alloc | apply IsS137.drewN | apply IsS137.drew | apply IsS137.set_0 | apply IsS137.set_1 | apply IsS137.set_2 | apply IsS137.set_3 | apply IsS137.set_4 | apply IsS137.set_5 | refine IsS137.far ?_ NB444_446.out _ | refine IsS137.far ?_ NB444_477.out _) | exact HI444.out)); (case side2 => repeat (first | (with_reducible first | exact HB.out | apply below_alloc | apply pw_below_drewN | apply below_drew1 | refine below_set ?_ (IsS137.ge HI444.out) | refine below_set ?_ GE446.out | refine below_set ?_ GE477.out) | exact HB.out)); rintro e w134 ⟨rfl, hi, hb, hk⟩; have n0_ := Aside0.mk (KeepBut.blk hk (g' := gb446) (o := .cells #[.int .i64 ((rd_T102 l0 x20_1).f0), .int .i64 ((rd_T102 l0 x20_1).f1), .int .u64 ((rd_T102 l0 x20_1).f2)] 102 (0, 0)) (by (with_reducible repeat (first | refine blk_drewN ?_ _ | refine blk_drew ?_ | refine blk_alloc ?_ _)); exact BK446.out) NB446_444.out (by simp)); have n1_ := Aside0.mk (KeepBut.blk hk (g' := gb477) (o := .cells #[.bool t468, .int .i64 t469, .int .u64 t470] 104 (0, 0)) (by (with_reducible repeat (first | refine blk_drewN ?_ _ | refine blk_drew ?_ | refine blk_alloc ?_ _)); exact BK477.out) NB477_444.out (by simp)); have n2_ := Aside0.mk (hb); have n3_ := Aside0.mk (hi); clear BK446; clear BK477; clear HB; clear HI444; have BK446 := n0_; have BK477 := n1_; have HB := n2_; have HI444 := n3_; clear n0_ n1_ n2_ n3_; (try clear hb); (try clear hb2); (try clear hk); (try clear hi)) | (go_at_call 57; (with_reducible refine (conn_Conn_Flight.calls g444 t507 t508 t509 t510 t511 t512 t513 t514 t515 t516 t517 t518 t519 w _ ?side1 ?side2 (by first | exact A120.out | (have h_ := A120.out; exact h_))).mono ?_); (case side1 => repeat (first | (with_reducible first | exact HI444.out | apply IsS137.alloc | apply IsS137.drewN | apply IsS137.drew | apply IsS137.set_0 | apply IsS137.set_1 | apply IsS137.set_2 | apply IsS137.set_3 | apply IsS137.set_4 | apply IsS137.set_5 | refine IsS137.far ?_ NB444_446.out _ | refine IsS137.far ?_ NB444_477.out _) | exact HI444.out)); (case side2 => repeat (first | (with_reducible first | exact HB.out | apply below_alloc | apply pw_below_drewN | apply below_drew1 | refine below_set ?_ (IsS137.ge HI444.out) | refine below_set ?_ GE446.out | refine below_set ?_ GE477.out) | exact HB.out)); rintro e w135 ⟨rfl, hi, hb, hk⟩; have n0_ := Aside0.mk (KeepBut.blk hk (g' := gb446) (o := .cells #[.int .i64 ((rd_T102 l0 x20_1).f0), .int .i64 ((rd_T102 l0 x20_1).f1), .int .u64 ((rd_T102 l0 x20_1).f2)] 102 (0, 0)) (by (with_reducible repeat (first | refine blk_drewN ?_ _ | refine blk_drew ?_ | refine blk_alloc ?_ _)); exact BK446.out) NB446_444.out (by simp)); have n1_ := Aside0.mk (KeepBut.blk hk (g' := gb477) (o := .cells #[.bool t468, .int .i64 t469, .int .u64 t470] 104 (0, 0)) (by (with_reducible repeat (first | refine blk_drewN ?_ _ | refine blk_drew ?_ | refine blk_alloc ?_ _)); exact BK477.out) NB477_444.out (by simp)); have n2_ := Aside0.mk (hb); have n3_ := Aside0.mk (hi); clear BK446; clear BK477; clear HB; clear HI444; have BK446 := n0_; have BK477 := n1_; have HB := n2_; have HI444 := n3_; clear n0_ n1_ n2_ n3_; (try clear hb); (try clear hb2); (try clear hk); (try clear hi)))
                        go_meet
                        case rel => exact ⟨_, ((t478 == 0)), (t514), (t515), (t516), (t517), (t518), (t519), (by first | rfl | (simp; done) | (simp [*]; done)), H', ⟨by have := HK1.out; have := HJ15.out; have := HJ32.out; have := HJ57.out; have := HJ67.out; first | omega | exact Nat.le_refl _⟩, ⟨by (with_reducible repeat (first | refine blk_drewN ?_ _ | refine blk_drew ?_ | refine blk_alloc ?_ _)); exact BK446.out⟩, ⟨by (with_reducible repeat (first | refine blk_drewN ?_ _ | refine blk_drew ?_ | refine blk_alloc ?_ _)); exact BK477.out⟩, ⟨by repeat (first | (with_reducible first | exact HI444.out | apply IsS137.alloc | apply IsS137.drewN | apply IsS137.drew | apply IsS137.set_0 | apply IsS137.set_1 | apply IsS137.set_2 | apply IsS137.set_3 | apply IsS137.set_4 | apply IsS137.set_5 | refine IsS137.far ?_ NB444_446.out _ | refine IsS137.far ?_ NB444_477.out _) | exact HI444.out)⟩, ⟨by repeat (first | (with_reducible first | exact HB.out | apply below_alloc | apply pw_below_drewN | apply below_drew1 | refine below_set ?_ (IsS137.ge HI444.out) | refine below_set ?_ GE446.out | refine below_set ?_ GE477.out) | exact HB.out)⟩⟩
                      ·rw [if_neg c119] at H
                       have c119b0 : (t506 == x4_67) = false := beq_eq_false_iff_ne.mpr c119
                       have c119b1 : (t506 != x4_67) = true := bne_iff_ne.mpr c119
                       have H' := Aside0.mk H
                       clear H
                       have hnb136 := NB446_477.out
                       have hnc136 := NB477_446.out
                       have hnb137 := NB446_444.out
                       have hnc137 := NB444_446.out
                       have hcz138_0 : wc.cell? ⟨gb446, 0, none⟩ = some (.int .i64 ((rd_T102 l0 x20_1).f0)) := (blk_cell BK446.out 0).trans rfl
                       have hcz138_1 : wc.cell? ⟨gb446, 1, none⟩ = some (.int .i64 ((rd_T102 l0 x20_1).f1)) := (blk_cell BK446.out 1).trans rfl
                       have hcz138_2 : wc.cell? ⟨gb446, 2, none⟩ = some (.int .u64 ((rd_T102 l0 x20_1).f2)) := (blk_cell BK446.out 2).trans rfl
                       have hfz138_0 := blk_frozen BK446.out 0
                       have hfz138_1 := blk_frozen BK446.out 1
                       have hfz138_2 := blk_frozen BK446.out 2
                       have hnb139 := NB477_444.out
                       have hnc139 := NB444_477.out
                       have hcz140_0 : wc.cell? ⟨gb477, 0, none⟩ = some (.bool t468) := (blk_cell BK477.out 0).trans rfl
                       have hcz140_1 : wc.cell? ⟨gb477, 1, none⟩ = some (.int .i64 t469) := (blk_cell BK477.out 1).trans rfl
                       have hcz140_2 : wc.cell? ⟨gb477, 2, none⟩ = some (.int .u64 t470) := (blk_cell BK477.out 2).trans rfl
                       have hfz140_0 := blk_frozen BK477.out 0
                       have hfz140_1 := blk_frozen BK477.out 1
                       have hfz140_2 := blk_frozen BK477.out 2
                       go_wp2_with (first | (go_at_call 58; (with_reducible refine (conn_Conn_Sent.calls g444 x445000_67 x445001_67 x445002_67 x445003_67 x445004_67 x445005_67 t506 t507 t508 t509 t510 t511 t512 w _ ?side1 ?side2 (by first | exact A118.out | (have h_ := A118.out; exact h_))).mono ?_); (case side1 => repeat (first | (with_reducible first | exact HI444.out | apply IsS137.alloc | apply IsS137.drewN | apply IsS137.drew | apply IsS137.set_0 | apply IsS137.set_1 | apply IsS137.set_2 | apply IsS137.set_3 | apply IsS137.set_4 | apply IsS137.set_5 | refine IsS137.far ?_ NB444_446.out _ | refine IsS137.far ?_ NB444_477.out _) | exact HI444.out)); (case side2 => repeat (first | (with_reducible first | exact HB.out | apply below_alloc | apply pw_below_drewN | apply below_drew1 | refine below_set ?_ (IsS137.ge HI444.out) | refine below_set ?_ GE446.out | refine below_set ?_ GE477.out) | exact HB.out)); rintro e w141 ⟨rfl, hi, hb, hk⟩; have n0_ := Aside0.mk (KeepBut.blk hk (g' := gb446) (o := .cells #[.int .i64 ((rd_T102 l0 x20_1).f0), .int .i64 ((rd_T102 l0 x20_1).f1), .int .u64 ((rd_T102 l0 x20_1).f2)] 102 (0, 0)) (by (with_reducible repeat (first | refine blk_drewN ?_ _ | refine blk_drew ?_ | refine blk_alloc ?_ _)); exact BK446.out) NB446_444.out (by simp)); have n1_ := Aside0.mk (KeepBut.blk hk (g' := gb477) (o := .cells #[.bool t468, .int .i64 t469, .int .u64 t470] 104 (0, 0)) (by (with_reducible repeat (first | refine blk_drewN ?_ _ | refine blk_drew ?_ | refine blk_alloc ?_ _)); exact BK477.out) NB477_444.out (by simp)); have n2_ := Aside0.mk (hb); have n3_ := Aside0.mk (hi); clear BK446; clear BK477; clear HB; clear HI444; have BK446 := n0_; have BK477 := n1_; have HB := n2_; have HI444 := n3_; clear n0_ n1_ n2_ n3_; (try clear hb); (try clear hb2); (try clear hk); (try clear hi)))
                       go_meet
                       case rel => exact ⟨_, (true), (t507), (t508), (t509), (t510), (t511), (t512), (by first | rfl | (simp; done) | (simp [*]; done)), H', ⟨by have := HK1.out; have := HJ15.out; have := HJ32.out; have := HJ57.out; have := HJ67.out; first | omega | exact Nat.le_refl _⟩, ⟨by (with_reducible repeat (first | refine blk_drewN ?_ _ | refine blk_drew ?_ | refine blk_alloc ?_ _)); exact BK446.out⟩, ⟨by (with_reducible repeat (first | refine blk_drewN ?_ _ | refine blk_drew ?_ | refine blk_alloc ?_ _)); exact BK477.out⟩, ⟨by repeat (first | (with_reducible first | exact HI444.out | apply IsS137.alloc | apply IsS137.drewN | apply IsS137.drew | apply IsS137.set_0 | apply IsS137.set_1 | apply IsS137.set_2 | apply IsS137.set_3 | apply IsS137.set_4 | apply IsS137.set_5 | refine IsS137.far ?_ NB444_446.out _ | refine IsS137.far ?_ NB444_477.out _) | exact HI444.out)⟩, ⟨by repeat (first | (with_reducible first | exact HB.out | apply below_alloc | apply pw_below_drewN | apply below_drew1 | refine below_set ?_ (IsS137.ge HI444.out) | refine below_set ?_ GE446.out | refine below_set ?_ GE477.out) | exact HB.out)⟩⟩
                   ·rw [if_neg c80] at H
                    have c80b0 : (((rd_T102 l0 x20_1).f0) == 2) = false := beq_eq_false_iff_ne.mpr c80
                    have c80b1 : (((rd_T102 l0 x20_1).f0) != 2) = true := bne_iff_ne.mpr c80
                    (first | rw [c80b0] | (simp only [i64_w, i32_w]; rw [c80b0]) | skip)
                    replace H := Option.bind_eq_some_iff.mp H
                    obtain ⟨⟨t520, t521, t522, t523, t524, t525, t526⟩, A1420, H⟩ := H
                    replace H : (if t520 = x4_67 then ((conn_Conn_Flight.f t521 t522 t523 t524 t525 t526).bind fun bt527 => (if bt527.1 = 0 then (signalmanlaw09_ConnOne.j6 kj67 x4_67 l0 (l0.length : Int) x20_1 false bt527.2.1 bt527.2.2.1 bt527.2.2.2.1 bt527.2.2.2.2.1 bt527.2.2.2.2.2.1 bt527.2.2.2.2.2.2) else (signalmanlaw09_ConnOne.j6 kj67 x4_67 l0 (l0.length : Int) x20_1 (t478 == 0) bt527.2.1 bt527.2.2.1 bt527.2.2.2.1 bt527.2.2.2.2.1 bt527.2.2.2.2.2.1 bt527.2.2.2.2.2.2))) else (signalmanlaw09_ConnOne.j6 kj67 x4_67 l0 (l0.length : Int) x20_1 true t521 t522 t523 t524 t525 t526)) = some r := H
                    have A142 := Aside0.mk A1420
                    clear A1420
                    by_cases c143 : t520 = x4_67
                    ·rw [if_pos c143] at H
                     have c143b0 : (t520 == x4_67) = true := beq_iff_eq.mpr c143
                     have c143b1 : (t520 != x4_67) = false := bne_eq_false_iff_eq.mpr c143
                     clear c143
                     replace H := Option.bind_eq_some_iff.mp H
                     obtain ⟨⟨t527, t528, t529, t530, t531, t532, t533⟩, A1440, H⟩ := H
                     replace H : (if t527 = 0 then (signalmanlaw09_ConnOne.j6 kj67 x4_67 l0 (l0.length : Int) x20_1 false t528 t529 t530 t531 t532 t533) else (signalmanlaw09_ConnOne.j6 kj67 x4_67 l0 (l0.length : Int) x20_1 (t478 == 0) t528 t529 t530 t531 t532 t533)) = some r := H
                     have A144 := Aside0.mk A1440
                     clear A1440
                     by_cases c145 : t527 = 0
                     ·rw [if_pos c145] at H
                      have c145b0 : (t527 == 0) = true := beq_iff_eq.mpr c145
                      have c145b1 : (t527 != 0) = false := bne_eq_false_iff_eq.mpr c145
                      clear c145
                      have H' := Aside0.mk H
                      clear H
                      have hnb146 := NB446_477.out
                      have hnc146 := NB477_446.out
                      have hnb147 := NB446_444.out
                      have hnc147 := NB444_446.out
                      have hcz148_0 : wc.cell? ⟨gb446, 0, none⟩ = some (.int .i64 ((rd_T102 l0 x20_1).f0)) := (blk_cell BK446.out 0).trans rfl
                      have hcz148_1 : wc.cell? ⟨gb446, 1, none⟩ = some (.int .i64 ((rd_T102 l0 x20_1).f1)) := (blk_cell BK446.out 1).trans rfl
                      have hcz148_2 : wc.cell? ⟨gb446, 2, none⟩ = some (.int .u64 ((rd_T102 l0 x20_1).f2)) := (blk_cell BK446.out 2).trans rfl
                      have hfz148_0 := blk_frozen BK446.out 0
                      have hfz148_1 := blk_frozen BK446.out 1
                      have hfz148_2 := blk_frozen BK446.out 2
                      go_wp2_with (first | (go_at_call 58; (with_reducible refine (conn_Conn_Sent.calls g444 x445000_67 x445001_67 x445002_67 x445003_67 x445004_67 x445005_67 t520 t521 t522 t523 t524 t525 t526 w _ ?side1 ?side2 (by first | exact A142.out | (have h_ := A142.out; exact h_))).mono ?_); (case side1 => repeat (first | (with_reducible first | exact HI444.out | apply IsS137.alloc | apply IsS137.drewN | apply IsS137.drew | apply IsS137.set_0 | apply IsS137.set_1 | apply IsS137.set_2 | apply IsS137.set_3 | apply IsS137.set_4 | apply IsS137.set_5 | refine IsS137.far ?_ NB444_446.out _ | refine IsS137.far ?_ NB444_477.out _) | exact HI444.out)); (case side2 => repeat (first | (with_reducible first | exact HB.out | apply below_alloc | apply pw_below_drewN | apply below_drew1 | refine below_set ?_ (IsS137.ge HI444.out) | refine below_set ?_ GE446.out | refine below_set ?_ GE477.out) | exact HB.out)); rintro e w149 ⟨rfl, hi, hb, hk⟩; have n0_ := Aside0.mk (KeepBut.blk hk (g' := gb446) (o := .cells #[.int .i64 ((rd_T102 l0 x20_1).f0), .int .i64 ((rd_T102 l0 x20_1).f1), .int .u64 ((rd_T102 l0 x20_1).f2)] 102 (0, 0)) (by (with_reducible repeat (first | refine blk_drewN ?_ _ | refine blk_drew ?_ | refine blk_alloc ?_ _)); exact BK446.out) NB446_444.out (by simp)); have n1_ := Aside0.mk (KeepBut.blk hk (g' := gb477) (o := .cells #[.bool t468, .int .i64 t469, .int .u64 t470] 104 (0, 0)) (by (with_reducible repeat (first | refine blk_drewN ?_ _ | refine blk_drew ?_ | refine blk_alloc ?_ _)); exact BK477.out) NB477_444.out (by simp)); have n2_ := Aside0.mk (hb); have n3_ := Aside0.mk (hi); clear BK446; clear BK477; clear HB; clear HI444; have BK446 := n0_; have BK477 := n1_; have HB := n2_; have HI444 := n3_; clear n0_ n1_ n2_ n3_; (try clear hb); (try clear hb2); (try clear hk); (try clear hi)) | (go_at_call 57; (with_reducible refine (conn_Conn_Flight.calls g444 t521 t522 t523 t524 t525 t526 t527 t528 t529 t530 t531 t532 t533 w _ ?side1 ?side2 (by first | exact A144.out | (have h_ := A144.out; exact h_))).mono ?_); (case side1 => repeat (first | (with_reducible first | exact HI444.out | apply IsS137.alloc | apply IsS137.drewN | apply IsS137.drew | apply IsS137.set_0 | apply IsS137.set_1 | apply IsS137.set_2 | apply IsS137.set_3 | apply IsS137.set_4 | apply IsS137.set_5 | refine IsS137.far ?_ NB444_446.out _ | refine IsS137.far ?_ NB444_477.out _) | exact HI444.out)); (case side2 => repeat (first | (with_reducible first | exact HB.out | apply below_alloc | apply pw_below_drewN | apply below_drew1 | refine below_set ?_ (IsS137.ge HI444.out) | refine below_set ?_ GE446.out | refine below_set ?_ GE477.out) | exact HB.out)); rintro e w150 ⟨rfl, hi, hb, hk⟩; have n0_ := Aside0.mk (KeepBut.blk hk (g' := gb446) (o := .cells #[.int .i64 ((rd_T102 l0 x20_1).f0), .int .i64 ((rd_T102 l0 x20_1).f1), .int .u64 ((rd_T102 l0 x20_1).f2)] 102 (0, 0)) (by (with_reducible repeat (first | refine blk_drewN ?_ _ | refine blk_drew ?_ | refine blk_alloc ?_ _)); exact BK446.out) NB446_444.out (by simp)); have n1_ := Aside0.mk (KeepBut.blk hk (g' := gb477) (o := .cells #[.bool t468, .int .i64 t469, .int .u64 t470] 104 (0, 0)) (by (with_reducible repeat (first | refine blk_drewN ?_ _ | refine blk_drew ?_ | refine blk_alloc ?_ _)); exact BK477.out) NB477_444.out (by simp)); have n2_ := Aside0.mk (hb); have n3_ := Aside0.mk (hi); clear BK446; clear BK477; clear HB; clear HI444; have BK446 := n0_; have BK477 := n1_; have HB := n2_; have HI444 := n3_; clear n0_ n1_ n2_ n3_; (try clear hb); (try clear hb2); (try clear hk); (try clear hi)))
                      go_meet
                      case rel => exact ⟨_, (false), (t528), (t529), (t530), (t531), (t532), (t533), (by first | rfl | (simp; done) | (simp [*]; done)), H', ⟨by have := HK1.out; have := HJ15.out; have := HJ32.out; have := HJ57.out; have := HJ67.out; first | omega | exact Nat.le_refl _⟩, ⟨by (with_reducible repeat (first | refine blk_drewN ?_ _ | refine blk_drew ?_ | refine blk_alloc ?_ _)); exact BK446.out⟩, ⟨by (with_reducible repeat (first | refine blk_drewN ?_ _ | refine blk_drew ?_ | refine blk_alloc ?_ _)); exact BK477.out⟩, ⟨by repeat (first | (with_reducible first | exact HI444.out | apply IsS137.alloc | apply IsS137.drewN | apply IsS137.drew | apply IsS137.set_0 | apply IsS137.set_1 | apply IsS137.set_2 | apply IsS137.set_3 | apply IsS137.set_4 | apply IsS137.set_5 | refine IsS137.far ?_ NB444_446.out _ | refine IsS137.far ?_ NB444_477.out _) | exact HI444.out)⟩, ⟨by repeat (first | (with_reducible first | exact HB.out | apply below_alloc | apply pw_below_drewN | apply below_drew1 | refine below_set ?_ (IsS137.ge HI444.out) | refine below_set ?_ GE446.out | refine below_set ?_ GE477.out) | exact HB.out)⟩⟩
                     ·rw [if_neg c145] at H
                      have c145b0 : (t527 == 0) = false := beq_eq_false_iff_ne.mpr c145
                      have c145b1 : (t527 != 0) = true := bne_iff_ne.mpr c145
                      have H' := Aside0.mk H
                      clear H
                      have hnb151 := NB446_477.out
                      have hnc151 := NB477_446.out
                      have hnb152 := NB446_444.out
                      have hnc152 := NB444_446.out
                      have hcz153_0 : wc.cell? ⟨gb446, 0, none⟩ = some (.int .i64 ((rd_T102 l0 x20_1).f0)) := (blk_cell BK446.out 0).trans rfl
                      have hcz153_1 : wc.cell? ⟨gb446, 1, none⟩ = some (.int .i64 ((rd_T102 l0 x20_1).f1)) := (blk_cell BK446.out 1).trans rfl
                      have hcz153_2 : wc.cell? ⟨gb446, 2, none⟩ = some (.int .u64 ((rd_T102 l0 x20_1).f2)) := (blk_cell BK446.out 2).trans rfl
                      have hfz153_0 := blk_frozen BK446.out 0
                      have hfz153_1 := blk_frozen BK446.out 1
                      have hfz153_2 := blk_frozen BK446.out 2
                      go_wp2_with (first | (go_at_call 58; (with_reducible refine (conn_Conn_Sent.calls g444 x445000_67 x445001_67 x445002_67 x445003_67 x445004_67 x445005_67 t520 t521 t522 t523 t524 t525 t526 w _ ?side1 ?side2 (by first | exact A142.out | (have h_ := A142.out; exact h_))).mono ?_); (case side1 => repeat (first | (with_reducible first | exact HI444.out | apply IsS137.alloc | apply IsS137.drewN | apply IsS137.drew | apply IsS137.set_0 | apply IsS137.set_1 | apply IsS137.set_2 | apply IsS137.set_3 | apply IsS137.set_4 | apply IsS137.set_5 | refine IsS137.far ?_ NB444_446.out _ | refine IsS137.far ?_ NB444_477.out _) | exact HI444.out)); (case side2 => repeat (first | (with_reducible first | exact HB.out | apply below_alloc | apply pw_below_drewN | apply below_drew1 | refine below_set ?_ (IsS137.ge HI444.out) | refine below_set ?_ GE446.out | refine below_set ?_ GE477.out) | exact HB.out)); rintro e w154 ⟨rfl, hi, hb, hk⟩; have n0_ := Aside0.mk (KeepBut.blk hk (g' := gb446) (o := .cells #[.int .i64 ((rd_T102 l0 x20_1).f0), .int .i64 ((rd_T102 l0 x20_1).f1), .int .u64 ((rd_T102 l0 x20_1).f2)] 102 (0, 0)) (by (with_reducible repeat (first | refine blk_drewN ?_ _ | refine blk_drew ?_ | refine blk_alloc ?_ _)); exact BK446.out) NB446_444.out (by simp)); have n1_ := Aside0.mk (KeepBut.blk hk (g' := gb477) (o := .cells #[.bool t468, .int .i64 t469, .int .u64 t470] 104 (0, 0)) (by (with_reducible repeat (first | refine blk_drewN ?_ _ | refine blk_drew ?_ | refine blk_alloc ?_ _)); exact BK477.out) NB477_444.out (by simp)); have n2_ := Aside0.mk (hb); have n3_ := Aside0.mk (hi); clear BK446; clear BK477; clear HB; clear HI444; have BK446 := n0_; have BK477 := n1_; have HB := n2_; have HI444 := n3_; clear n0_ n1_ n2_ n3_; (try clear hb); (try clear hb2); (try clear hk); (try clear hi)) | (go_at_call 57; (with_reducible refine (conn_Conn_Flight.calls g444 t521 t522 t523 t524 t525 t526 t527 t528 t529 t530 t531 t532 t533 w _ ?side1 ?side2 (by first | exact A144.out | (have h_ := A144.out; exact h_))).mono ?_); (case side1 => repeat (first | (with_reducible first | exact HI444.out | apply IsS137.alloc | apply IsS137.drewN | apply IsS137.drew | apply IsS137.set_0 | apply IsS137.set_1 | apply IsS137.set_2 | apply IsS137.set_3 | apply IsS137.set_4 | apply IsS137.set_5 | refine IsS137.far ?_ NB444_446.out _ | refine IsS137.far ?_ NB444_477.out _) | exact HI444.out)); (case side2 => repeat (first | (with_reducible first | exact HB.out | apply below_alloc | apply pw_below_drewN | apply below_drew1 | refine below_set ?_ (IsS137.ge HI444.out) | refine below_set ?_ GE446.out | refine below_set ?_ GE477.out) | exact HB.out)); rintro e w155 ⟨rfl, hi, hb, hk⟩; have n0_ := Aside0.mk (KeepBut.blk hk (g' := gb446) (o := .cells #[.int .i64 ((rd_T102 l0 x20_1).f0), .int .i64 ((rd_T102 l0 x20_1).f1), .int .u64 ((rd_T102 l0 x20_1).f2)] 102 (0, 0)) (by (with_reducible repeat (first | refine blk_drewN ?_ _ | refine blk_drew ?_ | refine blk_alloc ?_ _)); exact BK446.out) NB446_444.out (by simp)); have n1_ := Aside0.mk (KeepBut.blk hk (g' := gb477) (o := .cells #[.bool t468, .int .i64 t469, .int .u64 t470] 104 (0, 0)) (by (with_reducible repeat (first | refine blk_drewN ?_ _ | refine blk_drew ?_ | refine blk_alloc ?_ _)); exact BK477.out) NB477_444.out (by simp)); have n2_ := Aside0.mk (hb); have n3_ := Aside0.mk (hi); clear BK446; clear BK477; clear HB; clear HI444; have BK446 := n0_; have BK477 := n1_; have HB := n2_; have HI444 := n3_; clear n0_ n1_ n2_ n3_; (try clear hb); (try clear hb2); (try clear hk); (try clear hi)))
                      go_meet
                      case rel => exact ⟨_, ((t478 == 0)), (t528), (t529), (t530), (t531), (t532), (t533), (by first | rfl | (simp; done) | (simp [*]; done)), H', ⟨by have := HK1.out; have := HJ15.out; have := HJ32.out; have := HJ57.out; have := HJ67.out; first | omega | exact Nat.le_refl _⟩, ⟨by (with_reducible repeat (first | refine blk_drewN ?_ _ | refine blk_drew ?_ | refine blk_alloc ?_ _)); exact BK446.out⟩, ⟨by (with_reducible repeat (first | refine blk_drewN ?_ _ | refine blk_drew ?_ | refine blk_alloc ?_ _)); exact BK477.out⟩, ⟨by repeat (first | (with_reducible first | exact HI444.out | apply IsS137.alloc | apply IsS137.drewN | apply IsS137.drew | apply IsS137.set_0 | apply IsS137.set_1 | apply IsS137.set_2 | apply IsS137.set_3 | apply IsS137.set_4 | apply IsS137.set_5 | refine IsS137.far ?_ NB444_446.out _ | refine IsS137.far ?_ NB444_477.out _) | exact HI444.out)⟩, ⟨by repeat (first | (with_reducible first | exact HB.out | apply below_alloc | apply pw_below_drewN | apply below_drew1 | refine below_set ?_ (IsS137.ge HI444.out) | refine below_set ?_ GE446.out | refine below_set ?_ GE477.out) | exact HB.out)⟩⟩
                    ·rw [if_neg c143] at H
                     have c143b0 : (t520 == x4_67) = false := beq_eq_false_iff_ne.mpr c143
                     have c143b1 : (t520 != x4_67) = true := bne_iff_ne.mpr c143
                     have H' := Aside0.mk H
                     clear H
                     have hnb156 := NB446_477.out
                     have hnc156 := NB477_446.out
                     have hnb157 := NB446_444.out
                     have hnc157 := NB444_446.out
                     have hcz158_0 : wc.cell? ⟨gb446, 0, none⟩ = some (.int .i64 ((rd_T102 l0 x20_1).f0)) := (blk_cell BK446.out 0).trans rfl
                     have hcz158_1 : wc.cell? ⟨gb446, 1, none⟩ = some (.int .i64 ((rd_T102 l0 x20_1).f1)) := (blk_cell BK446.out 1).trans rfl
                     have hcz158_2 : wc.cell? ⟨gb446, 2, none⟩ = some (.int .u64 ((rd_T102 l0 x20_1).f2)) := (blk_cell BK446.out 2).trans rfl
                     have hfz158_0 := blk_frozen BK446.out 0
                     have hfz158_1 := blk_frozen BK446.out 1
                     have hfz158_2 := blk_frozen BK446.out 2
                     go_wp2_with (first | (go_at_call 58; (with_reducible refine (conn_Conn_Sent.calls g444 x445000_67 x445001_67 x445002_67 x445003_67 x445004_67 x445005_67 t520 t521 t522 t523 t524 t525 t526 w _ ?side1 ?side2 (by first | exact A142.out | (have h_ := A142.out; exact h_))).mono ?_); (case side1 => repeat (first | (with_reducible first | exact HI444.out | apply IsS137.alloc | apply IsS137.drewN | apply IsS137.drew | apply IsS137.set_0 | apply IsS137.set_1 | apply IsS137.set_2 | apply IsS137.set_3 | apply IsS137.set_4 | apply IsS137.set_5 | refine IsS137.far ?_ NB444_446.out _ | refine IsS137.far ?_ NB444_477.out _) | exact HI444.out)); (case side2 => repeat (first | (with_reducible first | exact HB.out | apply below_alloc | apply pw_below_drewN | apply below_drew1 | refine below_set ?_ (IsS137.ge HI444.out) | refine below_set ?_ GE446.out | refine below_set ?_ GE477.out) | exact HB.out)); rintro e w159 ⟨rfl, hi, hb, hk⟩; have n0_ := Aside0.mk (KeepBut.blk hk (g' := gb446) (o := .cells #[.int .i64 ((rd_T102 l0 x20_1).f0), .int .i64 ((rd_T102 l0 x20_1).f1), .int .u64 ((rd_T102 l0 x20_1).f2)] 102 (0, 0)) (by (with_reducible repeat (first | refine blk_drewN ?_ _ | refine blk_drew ?_ | refine blk_alloc ?_ _)); exact BK446.out) NB446_444.out (by simp)); have n1_ := Aside0.mk (KeepBut.blk hk (g' := gb477) (o := .cells #[.bool t468, .int .i64 t469, .int .u64 t470] 104 (0, 0)) (by (with_reducible repeat (first | refine blk_drewN ?_ _ | refine blk_drew ?_ | refine blk_alloc ?_ _)); exact BK477.out) NB477_444.out (by simp)); have n2_ := Aside0.mk (hb); have n3_ := Aside0.mk (hi); clear BK446; clear BK477; clear HB; clear HI444; have BK446 := n0_; have BK477 := n1_; have HB := n2_; have HI444 := n3_; clear n0_ n1_ n2_ n3_; (try clear hb); (try clear hb2); (try clear hk); (try clear hi)))
                     go_meet
                     case rel => exact ⟨_, (true), (t521), (t522), (t523), (t524), (t525), (t526), (by first | rfl | (simp; done) | (simp [*]; done)), H', ⟨by have := HK1.out; have := HJ15.out; have := HJ32.out; have := HJ57.out; have := HJ67.out; first | omega | exact Nat.le_refl _⟩, ⟨by (with_reducible repeat (first | refine blk_drewN ?_ _ | refine blk_drew ?_ | refine blk_alloc ?_ _)); exact BK446.out⟩, ⟨by (with_reducible repeat (first | refine blk_drewN ?_ _ | refine blk_drew ?_ | refine blk_alloc ?_ _)); exact BK477.out⟩, ⟨by repeat (first | (with_reducible first | exact HI444.out | apply IsS137.alloc | apply IsS137.drewN | apply IsS137.drew | apply IsS137.set_0 | apply IsS137.set_1 | apply IsS137.set_2 | apply IsS137.set_3 | apply IsS137.set_4 | apply IsS137.set_5 | refine IsS137.far ?_ NB444_446.out _ | refine IsS137.far ?_ NB444_477.out _) | exact HI444.out)⟩, ⟨by repeat (first | (with_reducible first | exact HB.out | apply below_alloc | apply pw_below_drewN | apply below_drew1 | refine below_set ?_ (IsS137.ge HI444.out) | refine below_set ?_ GE446.out | refine below_set ?_ GE477.out) | exact HB.out)⟩⟩
                  case rest =>
                   clear HC79
                   try clear c1
                   try clear c2
                   try clear p2
                   try clear c3
                   try clear c3b0
                   try clear c3b1
                   try clear c4
                   try clear p4
                   try clear q4
                   try clear hx4
                   try clear c5
                   try clear c6
                   try clear p6
                   try clear c7
                   try clear c8
                   try clear c8b0
                   try clear c9
                   try clear c9b0
                   try clear c10
                   try clear c10b0
                   try clear c11
                   try clear c12
                   try clear c13
                   try clear c14
                   try clear c15
                   try clear c18
                   try clear c26
                   try clear c27
                   try clear c30
                   try clear c30b0
                   try clear c30b1
                   try clear c31
                   try clear c31b0
                   try clear c31b1
                   try clear c32
                   try clear c34
                   try clear c34b0
                   try clear c34b1
                   try clear c35
                   try clear c35b0
                   try clear c35b1
                   try clear c36
                   try clear c36b0
                   try clear c36b1
                   try clear c37
                   try clear c38
                   try clear c38b0
                   try clear c38b1
                   try clear c39
                   try clear c40
                   try clear c42
                   try clear c44
                   try clear p44
                   try clear q44
                   try clear hx44
                   try clear c45
                   try clear c47
                   try clear c49
                   try clear c50
                   try clear c51
                   try clear c52
                   try clear c53
                   try clear c54
                   try clear c55
                   try clear c56
                   try clear c57
                   try clear c59
                   try clear c59b0
                   try clear c59b1
                   try clear c60
                   try clear c61
                   try clear c63
                   try clear p64
                   try clear c65
                   try clear c66
                   try clear c69
                   try clear c71
                   try clear c71b0
                   try clear c71b1
                   try clear c73
                   try clear c73b0
                   try clear c73b1
                   try clear c78
                   try clear c80
                   try clear c80b0
                   try clear c80b1
                   try clear c81
                   try clear c81b0
                   try clear c81b1
                   try clear c82
                   try clear c82b0
                   try clear c82b1
                   try clear c82b2
                   try clear c83
                   try clear c84
                   try clear c86
                   try clear c89
                   try clear c89b0
                   try clear c89b1
                   try clear c91
                   try clear c91b0
                   try clear c91b1
                   try clear c92
                   try clear c93
                   try clear c95
                   try clear c99
                   try clear c100
                   try clear c102
                   try clear c106
                   try clear c107
                   try clear c109
                   try clear c112
                   try clear c112b0
                   try clear c112b1
                   try clear c112b2
                   try clear c113
                   try clear c114
                   try clear c116
                   try clear c119
                   try clear c119b0
                   try clear c119b1
                   try clear c121
                   try clear c121b0
                   try clear c121b1
                   try clear c122
                   try clear c123
                   try clear c125
                   try clear c129
                   try clear c130
                   try clear c132
                   try clear c136
                   try clear c137
                   try clear c139
                   try clear c143
                   try clear c143b0
                   try clear c143b1
                   try clear c145
                   try clear c145b0
                   try clear c145b1
                   try clear c146
                   try clear c147
                   try clear c151
                   try clear c152
                   try clear c156
                   try clear c157
                   try clear hcz101_0
                   try clear hcz101_1
                   try clear hcz101_2
                   try clear hcz103_0
                   try clear hcz103_1
                   try clear hcz103_2
                   try clear hcz108_0
                   try clear hcz108_1
                   try clear hcz108_2
                   try clear hcz110_0
                   try clear hcz110_1
                   try clear hcz110_2
                   try clear hcz115_0
                   try clear hcz115_1
                   try clear hcz115_2
                   try clear hcz117_0
                   try clear hcz117_1
                   try clear hcz117_2
                   try clear hcz124_0
                   try clear hcz124_1
                   try clear hcz124_2
                   try clear hcz126_0
                   try clear hcz126_1
                   try clear hcz126_2
                   try clear hcz131_0
                   try clear hcz131_1
                   try clear hcz131_2
                   try clear hcz133_0
                   try clear hcz133_1
                   try clear hcz133_2
                   try clear hcz138_0
                   try clear hcz138_1
                   try clear hcz138_2
                   try clear hcz140_0
                   try clear hcz140_1
                   try clear hcz140_2
                   try clear hcz148_0
                   try clear hcz148_1
                   try clear hcz148_2
                   try clear hcz153_0
                   try clear hcz153_1
                   try clear hcz153_2
                   try clear hcz158_0
                   try clear hcz158_1
                   try clear hcz158_2
                   try clear hcz19_0
                   try clear hcz19_1
                   try clear hcz19_2
                   try clear hcz23_0
                   try clear hcz23_1
                   try clear hcz23_2
                   try clear hcz28_0
                   try clear hcz28_1
                   try clear hcz28_2
                   try clear hcz41_0
                   try clear hcz41_1
                   try clear hcz41_2
                   try clear hcz43_0
                   try clear hcz43_1
                   try clear hcz43_2
                   try clear hcz46_0
                   try clear hcz46_1
                   try clear hcz46_2
                   try clear hcz48_0
                   try clear hcz48_1
                   try clear hcz48_2
                   try clear hcz51_0
                   try clear hcz51_1
                   try clear hcz51_2
                   try clear hcz53_0
                   try clear hcz53_1
                   try clear hcz53_2
                   try clear hcz56_0
                   try clear hcz56_1
                   try clear hcz56_2
                   try clear hcz62_0
                   try clear hcz62_1
                   try clear hcz62_2
                   try clear hcz64_0
                   try clear hcz64_1
                   try clear hcz64_2
                   try clear hcz67_0
                   try clear hcz67_1
                   try clear hcz67_2
                   try clear hcz85_0
                   try clear hcz85_1
                   try clear hcz85_2
                   try clear hcz87_0
                   try clear hcz87_1
                   try clear hcz87_2
                   try clear hcz94_0
                   try clear hcz94_1
                   try clear hcz94_2
                   try clear hcz96_0
                   try clear hcz96_1
                   try clear hcz96_2
                   try clear hfz101_0
                   try clear hfz101_1
                   try clear hfz101_2
                   try clear hfz103_0
                   try clear hfz103_1
                   try clear hfz103_2
                   try clear hfz108_0
                   try clear hfz108_1
                   try clear hfz108_2
                   try clear hfz110_0
                   try clear hfz110_1
                   try clear hfz110_2
                   try clear hfz115_0
                   try clear hfz115_1
                   try clear hfz115_2
                   try clear hfz117_0
                   try clear hfz117_1
                   try clear hfz117_2
                   try clear hfz124_0
                   try clear hfz124_1
                   try clear hfz124_2
                   try clear hfz126_0
                   try clear hfz126_1
                   try clear hfz126_2
                   try clear hfz131_0
                   try clear hfz131_1
                   try clear hfz131_2
                   try clear hfz133_0
                   try clear hfz133_1
                   try clear hfz133_2
                   try clear hfz138_0
                   try clear hfz138_1
                   try clear hfz138_2
                   try clear hfz140_0
                   try clear hfz140_1
                   try clear hfz140_2
                   try clear hfz148_0
                   try clear hfz148_1
                   try clear hfz148_2
                   try clear hfz153_0
                   try clear hfz153_1
                   try clear hfz153_2
                   try clear hfz158_0
                   try clear hfz158_1
                   try clear hfz158_2
                   try clear hfz19_0
                   try clear hfz19_1
                   try clear hfz19_2
                   try clear hfz23_0
                   try clear hfz23_1
                   try clear hfz23_2
                   try clear hfz28_0
                   try clear hfz28_1
                   try clear hfz28_2
                   try clear hfz41_0
                   try clear hfz41_1
                   try clear hfz41_2
                   try clear hfz43_0
                   try clear hfz43_1
                   try clear hfz43_2
                   try clear hfz46_0
                   try clear hfz46_1
                   try clear hfz46_2
                   try clear hfz48_0
                   try clear hfz48_1
                   try clear hfz48_2
                   try clear hfz51_0
                   try clear hfz51_1
                   try clear hfz51_2
                   try clear hfz53_0
                   try clear hfz53_1
                   try clear hfz53_2
                   try clear hfz56_0
                   try clear hfz56_1
                   try clear hfz56_2
                   try clear hfz62_0
                   try clear hfz62_1
                   try clear hfz62_2
                   try clear hfz64_0
                   try clear hfz64_1
                   try clear hfz64_2
                   try clear hfz67_0
                   try clear hfz67_1
                   try clear hfz67_2
                   try clear hfz85_0
                   try clear hfz85_1
                   try clear hfz85_2
                   try clear hfz87_0
                   try clear hfz87_1
                   try clear hfz87_2
                   try clear hfz94_0
                   try clear hfz94_1
                   try clear hfz94_2
                   try clear hfz96_0
                   try clear hfz96_1
                   try clear hfz96_2
                   try clear hx445_0
                   try clear hx445_1
                   try clear hx445_2
                   try clear p2
                   try clear p4
                   try clear p44
                   try clear p445
                   try clear p6
                   try clear p64
                   try clear q4
                   try clear q44
                   try clear q445
                   obtain ⟨kq, x125_78, x445000_78, x445001_78, x445002_78, x445003_78, x445004_78, x445005_78, rfl, HA, HJ78, BK446, BK477, HI444, HB⟩ := hcut
                   cases kq with
                   | zero => exact absurd HA.out (by simp [signalmanlaw09_ConnOne.j6])
                   | succ kj78 =>
                    have H := HA.out
                    clear HA
                    simp only [signalmanlaw09_ConnOne.j6] at H
                    by_cases c160 : x125_78 = true
                    ·subst c160
                     have H1 : (some false) = some r := by rw [if_pos rfl] at H; exact H
                     clear H
                     have H := H1
                     clear H1
                     obtain rfl := Option.some.inj H
                     go_wp2
                     go_ret
                     exact ⟨by first | rfl | (simp [errW_none, errW_some] <;> rfl) | (simp [*, errW_none, errW_some] <;> rfl), by repeat (first | (with_reducible first | exact HB.out | apply below_alloc | apply pw_below_drewN | apply below_drew1 | refine below_set ?_ (IsS137.ge HI444.out) | refine below_set ?_ GE446.out | refine below_set ?_ GE477.out) | exact HB.out)⟩
                    ·replace c160 := Bool.eq_false_iff.mpr c160
                     subst c160
                     have H1 : (signalmanlaw09_ConnOne.l0 kj78 x4_67 l0 (l0.length : Int) (wrap64 (x20_1 + 1)) x445000_78 x445001_78 x445002_78 x445003_78 x445004_78 x445005_78) = some r := by rw [if_neg (show ¬ (false = true) by decide)] at H; exact H
                     clear H
                     have H := H1
                     clear H1
                     have H' := Aside0.mk H
                     clear H
                     go_wp2
                     go_roundg kj78
                     case measure => have := HK1.out; have := HJ15.out; have := HJ32.out; have := HJ57.out; have := HJ67.out; have := HJ78.out; omega
                     case rel => exact ⟨(x4_67), (wrap64 (x20_1 + 1)), (x445000_78), (x445001_78), (x445002_78), (x445003_78), (x445004_78), (x445005_78), (by first | rfl | (simp; done) | (simp [*]; done)), (by first | rfl | (simp; done) | (simp [*]; done)), H', ⟨by have := HK1.out; have := HJ15.out; have := HJ32.out; have := HJ57.out; have := HJ67.out; have := HJ78.out; omega⟩, ⟨by repeat (first | (with_reducible first | exact HI444.out | apply IsS137.alloc | apply IsS137.drewN | apply IsS137.drew | apply IsS137.set_0 | apply IsS137.set_1 | apply IsS137.set_2 | apply IsS137.set_3 | apply IsS137.set_4 | apply IsS137.set_5 | refine IsS137.far ?_ NB444_446.out _ | refine IsS137.far ?_ NB444_477.out _) | exact HI444.out)⟩, ⟨by repeat (first | (with_reducible first | exact HB.out | apply below_alloc | apply pw_below_drewN | apply below_drew1 | refine below_set ?_ (IsS137.ge HI444.out) | refine below_set ?_ GE446.out | refine below_set ?_ GE477.out) | exact HB.out)⟩⟩
       ·rw [if_neg c10] at H
        exact absurd H (by simp)
      ·rw [if_neg c9] at H
       exact absurd H (by simp)
     ·rw [if_neg c8] at H
      have c8b0 : decide (x20_1 < (l0.length : Int)) = false := decide_eq_false c8
      clear c8
      obtain rfl := Option.some.inj H
      go_wp2
      go_ret
      exact ⟨by first | rfl | (simp [errW_none, errW_some] <;> rfl) | (simp [*, errW_none, errW_some] <;> rfl), by repeat (first | (with_reducible first | exact HB.out | apply below_alloc | apply pw_below_drewN | apply below_drew1 | refine below_set ?_ (IsS137.ge HI444.out)) | exact HB.out)⟩

end Go.Proofs.Ytagmefjpnmjcjaa.Co
