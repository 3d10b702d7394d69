import Derived.Test.YtbdokcdnajdmaaaPx0
import Derived.Test.YtbdokcdnajdmaaaPx1
import Derived.Test.YtbdokcdnajdmaaaPx2
import Derived.Test.YtbdokcdnajdmaaaPx3
import Derived.Test.YtbdokcdnajdmaaaPx8
import Derived.Test.YtbdokcdnajdmaaaME
import Derived.Test.YtbdokcdnajdmaaaMU
-- printed by wip/tools/pp.sh (a patched copy of the print's program), for this claim.
namespace Go.Proofs.Ytbdokcdnajdmaaa.P
open Go.RowKit Go.Proofs.YtbdokcdnajdmaaaW.PrintWords Go.Proofs.YtbdokcdnajdmaaaW.PrintLast Go.Proofs.YtbdokcdnajdmaaaW.PrintMore
attribute [local go_sem] max2_int min2_int max_two min_two max_three min_three max_four min_four   -- for this text's walks alone
set_option linter.unusedVariables false
set_option linter.unusedSimpArgs false

/-! ### limelightlaw07_AimHides: function 5 -/
mutual
def limelightlaw07_AimHides.j0 : Nat → List (S53) → Bool → Int → Int → Int → Bool → Bool → Bool → Option (Bool)
 | 0, _, _, _, _, _, _, _, _ => none
 | k + 1, x0, x21, x248000, x248001, x248002, x248003, x248004, x248005 => if x21 = true then ((limelightlaw07_live.f).bind fun t250 => (some t250)) else ((aim_Path.f x0 x248000 x248001 x248002 x248003 x248004 x248005).bind fun t251 => ((limelightref01_Is.f x0 x248002).bind fun t254 => (if t254 = true then (limelightlaw07_AimHides.j1 k x0 t251 (x248002 != x248001) x248000 x248001 x248002 x248003 x248004 x248005) else (limelightlaw07_AimHides.j1 k x0 t251 false x248000 x248001 x248002 x248003 x248004 x248005))))
def limelightlaw07_AimHides.j1 : Nat → List (S53) → List (S36) → Bool → Int → Int → Int → Bool → Bool → Bool → Option (Bool)
 | 0, _, _, _, _, _, _, _, _, _ => none
 | k + 1, x0, x5, x6, x248000, x248001, x248002, x248003, x248004, x248005 => if x6 = true then ((limelightref04_Retarget.f k x0 x248002 x248001).bind fun t255 => (limelightlaw07_AimHides.j2 k x0 x5 (t255 == x248001) x248000 x248001 x248002 x248003 x248004 x248005)) else (limelightlaw07_AimHides.j2 k x0 x5 x6 x248000 x248001 x248002 x248003 x248004 x248005)
def limelightlaw07_AimHides.j2 : Nat → List (S53) → List (S36) → Bool → Int → Int → Int → Bool → Bool → Bool → Option (Bool)
 | 0, _, _, _, _, _, _, _, _, _ => none
 | k + 1, x0, x5, x6, x248000, x248001, x248002, x248003, x248004, x248005 => if (x5.length : Int) = 0 then (if x6 = true then ((limelightlaw07_live.f).bind fun t256 => (some t256)) else (none)) else (if x6 = true then (limelightlaw07_AimHides.j3 k x0 x5 true) else (if 0 < (x5.length : Int) then (if ((rd_T36 x5 0).f0) = x248001 then (limelightlaw07_AimHides.j3 k x0 x5 (((rd_T36 x5 0).f1) != x248001)) else (limelightlaw07_AimHides.j3 k x0 x5 true)) else (none)))
def limelightlaw07_AimHides.j3 : Nat → List (S53) → List (S36) → Bool → Option (Bool)
 | 0, _, _, _ => none
 | k + 1, x0, x5, x72 => if x72 = true then (none) else (limelightlaw07_AimHides.l0 k x0 x5 0)
def limelightlaw07_AimHides.l0 : Nat → List (S53) → List (S36) → Int → Option (Bool)
 | 0, _, _, _ => none
 | k + 1, x0, x5, x7 => if x7 < (x5.length : Int) then (if 0 ≤ x7 then ((limelightref01_Is.f x0 ((rd_T36 x5 x7).f0)).bind fun t262 => (if t262 = true then ((limelightref01_Is.f x0 ((rd_T36 x5 x7).f1)).bind fun t263 => (if t263 = true then ((limelightlaw07_hidden.f k x0 ((rd_T36 x5 x7).f1) ((rd_T36 x5 x7).f0)).bind fun t264 => (limelightlaw07_AimHides.j5 k x0 x5 x7 t264 ((rd_T36 x5 x7).f0) ((rd_T36 x5 x7).f1) ((rd_T36 x5 x7).f2))) else (limelightlaw07_AimHides.j5 k x0 x5 x7 true ((rd_T36 x5 x7).f0) ((rd_T36 x5 x7).f1) ((rd_T36 x5 x7).f2)))) else (limelightlaw07_AimHides.j5 k x0 x5 x7 true ((rd_T36 x5 x7).f0) ((rd_T36 x5 x7).f1) ((rd_T36 x5 x7).f2)))) else (none)) else ((limelightlaw07_live.f).bind fun t259 => (some t259))
def limelightlaw07_AimHides.j5 : Nat → List (S53) → List (S36) → Int → Bool → Int → Int → Int → Option (Bool)
 | 0, _, _, _, _, _, _, _ => none
 | k + 1, x0, x5, x7, x102, x262000, x262001, x262002 => if x102 = true then (none) else (if x262002 = (-1) then (limelightlaw07_AimHides.j6 k x0 x5 x7 false x262000 x262001 x262002) else ((limelightref01_Is.f x0 x262002).bind fun t265 => (if t265 = true then ((limelightlaw07_hidden.f k x0 x262002 x262000).bind fun t266 => (limelightlaw07_AimHides.j6 k x0 x5 x7 t266 x262000 x262001 x262002)) else (limelightlaw07_AimHides.j6 k x0 x5 x7 true x262000 x262001 x262002))))
def limelightlaw07_AimHides.j6 : Nat → List (S53) → List (S36) → Int → Bool → Int → Int → Int → Option (Bool)
 | 0, _, _, _, _, _, _, _ => none
 | k + 1, x0, x5, x7, x120, x262000, x262001, x262002 => if x120 = true then (none) else (limelightlaw07_AimHides.l1 k x0 x5 x7 0 x262000 x262001 x262002)
def limelightlaw07_AimHides.l1 : Nat → List (S53) → List (S36) → Int → Int → Int → Int → Int → Option (Bool)
 | 0, _, _, _, _, _, _, _ => none
 | k + 1, x0, x5, x7, x9, x262000, x262001, x262002 => if x9 < x7 then (if 0 ≤ x9 then (if x9 < (x5.length : Int) then (if ((rd_T36 x5 x9).f0) = x262000 then (none) else (limelightlaw07_AimHides.l1 k x0 x5 x7 (wrap64 (x9 + 1)) x262000 x262001 x262002)) else (none)) else (none)) else (limelightlaw07_AimHides.l0 k x0 x5 (wrap64 (x7 + 1)))
end
def limelightlaw07_AimHides.f (k : Nat) (l0 : List (S53)) (a1_0 : Int) (a1_1 : Int) (a1_2 : Int) (a1_3 : Bool) (a1_4 : Bool) (a1_5 : Bool) : Option (Bool) := (limelightref01_Few.f l0).bind fun t248 => (if t248 = true then ((limelightref03_Both.f l0 a1_1 a1_1).bind fun t249 => (limelightlaw07_AimHides.j0 k l0 (!t249) a1_0 a1_1 a1_2 a1_3 a1_4 a1_5)) else (limelightlaw07_AimHides.j0 k l0 true a1_0 a1_1 a1_2 a1_3 a1_4 a1_5))
theorem limelightlaw07_AimHides.mono_l : ∀ k, (∀ y0 y1 y2 y3 y4 y5 y6 y7, LeO (limelightlaw07_AimHides.j0 k y0 y1 y2 y3 y4 y5 y6 y7) (limelightlaw07_AimHides.j0 (k + 1) y0 y1 y2 y3 y4 y5 y6 y7)) ∧ (∀ y0 y1 y2 y3 y4 y5 y6 y7 y8, LeO (limelightlaw07_AimHides.j1 k y0 y1 y2 y3 y4 y5 y6 y7 y8) (limelightlaw07_AimHides.j1 (k + 1) y0 y1 y2 y3 y4 y5 y6 y7 y8)) ∧ (∀ y0 y1 y2 y3 y4 y5 y6 y7 y8, LeO (limelightlaw07_AimHides.j2 k y0 y1 y2 y3 y4 y5 y6 y7 y8) (limelightlaw07_AimHides.j2 (k + 1) y0 y1 y2 y3 y4 y5 y6 y7 y8)) ∧ (∀ y0 y1 y2, LeO (limelightlaw07_AimHides.j3 k y0 y1 y2) (limelightlaw07_AimHides.j3 (k + 1) y0 y1 y2)) ∧ (∀ y0 y1 y2, LeO (limelightlaw07_AimHides.l0 k y0 y1 y2) (limelightlaw07_AimHides.l0 (k + 1) y0 y1 y2)) ∧ (∀ y0 y1 y2 y3 y4 y5 y6, LeO (limelightlaw07_AimHides.j5 k y0 y1 y2 y3 y4 y5 y6) (limelightlaw07_AimHides.j5 (k + 1) y0 y1 y2 y3 y4 y5 y6)) ∧ (∀ y0 y1 y2 y3 y4 y5 y6, LeO (limelightlaw07_AimHides.j6 k y0 y1 y2 y3 y4 y5 y6) (limelightlaw07_AimHides.j6 (k + 1) y0 y1 y2 y3 y4 y5 y6)) ∧ (∀ y0 y1 y2 y3 y4 y5 y6, LeO (limelightlaw07_AimHides.l1 k y0 y1 y2 y3 y4 y5 y6) (limelightlaw07_AimHides.l1 (k + 1) y0 y1 y2 y3 y4 y5 y6))
 | 0 => ⟨fun _ _ _ _ _ _ _ _ r h => by simp [limelightlaw07_AimHides.j0] at h, fun _ _ _ _ _ _ _ _ _ r h => by simp [limelightlaw07_AimHides.j1] at h, fun _ _ _ _ _ _ _ _ _ r h => by simp [limelightlaw07_AimHides.j2] at h, fun _ _ _ r h => by simp [limelightlaw07_AimHides.j3] at h, fun _ _ _ r h => by simp [limelightlaw07_AimHides.l0] at h, fun _ _ _ _ _ _ _ r h => by simp [limelightlaw07_AimHides.j5] at h, fun _ _ _ _ _ _ _ r h => by simp [limelightlaw07_AimHides.j6] at h, fun _ _ _ _ _ _ _ r h => by simp [limelightlaw07_AimHides.l1] at h⟩
 | k + 1 => by
  obtain ⟨ih0, ih1, ih2, ih3, ih4, ih5, ih6, ih7⟩ := limelightlaw07_AimHides.mono_l k
  refine ⟨?_, ?_, ?_, ?_, ?_, ?_, ?_, ?_⟩
  ·intro y0 y1 y2 y3 y4 y5 y6 y7
   unfold limelightlaw07_AimHides.j0
   repeat' first
   | (with_reducible exact ih0 _ _ _ _ _ _ _ _)
   | (with_reducible exact ih1 _ _ _ _ _ _ _ _ _)
   | (with_reducible exact ih2 _ _ _ _ _ _ _ _ _)
   | (with_reducible exact ih3 _ _ _)
   | (with_reducible exact ih4 _ _ _)
   | (with_reducible exact ih5 _ _ _ _ _ _ _)
   | (with_reducible exact ih6 _ _ _ _ _ _ _)
   | (with_reducible exact ih7 _ _ _ _ _ _ _)
   | (with_reducible exact limelightlaw07_hidden.mono _ _ _ _)
   | (with_reducible exact limelightref04_Retarget.mono _ _ _ _)
   | (with_reducible exact LeO.refl _)
   | (with_reducible exact LeO.none _)
   | (with_reducible refine LeO.ite ?_ ?_)
   | (with_reducible refine LeO.bind ?_ (fun _ => ?_))
   | exact ih0 _ _ _ _ _ _ _ _
   | exact ih1 _ _ _ _ _ _ _ _ _
   | exact ih2 _ _ _ _ _ _ _ _ _
   | exact ih3 _ _ _
   | exact ih4 _ _ _
   | exact ih5 _ _ _ _ _ _ _
   | exact ih6 _ _ _ _ _ _ _
   | exact ih7 _ _ _ _ _ _ _
   | exact limelightlaw07_hidden.mono _ _ _ _
   | exact limelightref04_Retarget.mono _ _ _ _
   | exact LeO.none _
   | refine LeO.ite ?_ ?_
   | refine LeO.bind ?_ (fun _ => ?_)
  ·intro y0 y1 y2 y3 y4 y5 y6 y7 y8
   unfold limelightlaw07_AimHides.j1
   repeat' first
   | (with_reducible exact ih0 _ _ _ _ _ _ _ _)
   | (with_reducible exact ih1 _ _ _ _ _ _ _ _ _)
   | (with_reducible exact ih2 _ _ _ _ _ _ _ _ _)
   | (with_reducible exact ih3 _ _ _)
   | (with_reducible exact ih4 _ _ _)
   | (with_reducible exact ih5 _ _ _ _ _ _ _)
   | (with_reducible exact ih6 _ _ _ _ _ _ _)
   | (with_reducible exact ih7 _ _ _ _ _ _ _)
   | (with_reducible exact limelightlaw07_hidden.mono _ _ _ _)
   | (with_reducible exact limelightref04_Retarget.mono _ _ _ _)
   | (with_reducible exact LeO.refl _)
   | (with_reducible exact LeO.none _)
   | (with_reducible refine LeO.ite ?_ ?_)
   | (with_reducible refine LeO.bind ?_ (fun _ => ?_))
   | exact ih0 _ _ _ _ _ _ _ _
   | exact ih1 _ _ _ _ _ _ _ _ _
   | exact ih2 _ _ _ _ _ _ _ _ _
   | exact ih3 _ _ _
   | exact ih4 _ _ _
   | exact ih5 _ _ _ _ _ _ _
   | exact ih6 _ _ _ _ _ _ _
   | exact ih7 _ _ _ _ _ _ _
   | exact limelightlaw07_hidden.mono _ _ _ _
   | exact limelightref04_Retarget.mono _ _ _ _
   | exact LeO.none _
   | refine LeO.ite ?_ ?_
   | refine LeO.bind ?_ (fun _ => ?_)
  ·intro y0 y1 y2 y3 y4 y5 y6 y7 y8
   unfold limelightlaw07_AimHides.j2
   repeat' first
   | (with_reducible exact ih0 _ _ _ _ _ _ _ _)
   | (with_reducible exact ih1 _ _ _ _ _ _ _ _ _)
   | (with_reducible exact ih2 _ _ _ _ _ _ _ _ _)
   | (with_reducible exact ih3 _ _ _)
   | (with_reducible exact ih4 _ _ _)
   | (with_reducible exact ih5 _ _ _ _ _ _ _)
   | (with_reducible exact ih6 _ _ _ _ _ _ _)
   | (with_reducible exact ih7 _ _ _ _ _ _ _)
   | (with_reducible exact limelightlaw07_hidden.mono _ _ _ _)
   | (with_reducible exact limelightref04_Retarget.mono _ _ _ _)
   | (with_reducible exact LeO.refl _)
   | (with_reducible exact LeO.none _)
   | (with_reducible refine LeO.ite ?_ ?_)
   | (with_reducible refine LeO.bind ?_ (fun _ => ?_))
   | exact ih0 _ _ _ _ _ _ _ _
   | exact ih1 _ _ _ _ _ _ _ _ _
   | exact ih2 _ _ _ _ _ _ _ _ _
   | exact ih3 _ _ _
   | exact ih4 _ _ _
   | exact ih5 _ _ _ _ _ _ _
   | exact ih6 _ _ _ _ _ _ _
   | exact ih7 _ _ _ _ _ _ _
   | exact limelightlaw07_hidden.mono _ _ _ _
   | exact limelightref04_Retarget.mono _ _ _ _
   | exact LeO.none _
   | refine LeO.ite ?_ ?_
   | refine LeO.bind ?_ (fun _ => ?_)
  ·intro y0 y1 y2
   unfold limelightlaw07_AimHides.j3
   repeat' first
   | (with_reducible exact ih0 _ _ _ _ _ _ _ _)
   | (with_reducible exact ih1 _ _ _ _ _ _ _ _ _)
   | (with_reducible exact ih2 _ _ _ _ _ _ _ _ _)
   | (with_reducible exact ih3 _ _ _)
   | (with_reducible exact ih4 _ _ _)
   | (with_reducible exact ih5 _ _ _ _ _ _ _)
   | (with_reducible exact ih6 _ _ _ _ _ _ _)
   | (with_reducible exact ih7 _ _ _ _ _ _ _)
   | (with_reducible exact limelightlaw07_hidden.mono _ _ _ _)
   | (with_reducible exact limelightref04_Retarget.mono _ _ _ _)
   | (with_reducible exact LeO.refl _)
   | (with_reducible exact LeO.none _)
   | (with_reducible refine LeO.ite ?_ ?_)
   | (with_reducible refine LeO.bind ?_ (fun _ => ?_))
   | exact ih0 _ _ _ _ _ _ _ _
   | exact ih1 _ _ _ _ _ _ _ _ _
   | exact ih2 _ _ _ _ _ _ _ _ _
   | exact ih3 _ _ _
   | exact ih4 _ _ _
   | exact ih5 _ _ _ _ _ _ _
   | exact ih6 _ _ _ _ _ _ _
   | exact ih7 _ _ _ _ _ _ _
   | exact limelightlaw07_hidden.mono _ _ _ _
   | exact limelightref04_Retarget.mono _ _ _ _
   | exact LeO.none _
   | refine LeO.ite ?_ ?_
   | refine LeO.bind ?_ (fun _ => ?_)
  ·intro y0 y1 y2
   unfold limelightlaw07_AimHides.l0
   repeat' first
   | (with_reducible exact ih0 _ _ _ _ _ _ _ _)
   | (with_reducible exact ih1 _ _ _ _ _ _ _ _ _)
   | (with_reducible exact ih2 _ _ _ _ _ _ _ _ _)
   | (with_reducible exact ih3 _ _ _)
   | (with_reducible exact ih4 _ _ _)
   | (with_reducible exact ih5 _ _ _ _ _ _ _)
   | (with_reducible exact ih6 _ _ _ _ _ _ _)
   | (with_reducible exact ih7 _ _ _ _ _ _ _)
   | (with_reducible exact limelightlaw07_hidden.mono _ _ _ _)
   | (with_reducible exact limelightref04_Retarget.mono _ _ _ _)
   | (with_reducible exact LeO.refl _)
   | (with_reducible exact LeO.none _)
   | (with_reducible refine LeO.ite ?_ ?_)
   | (with_reducible refine LeO.bind ?_ (fun _ => ?_))
   | exact ih0 _ _ _ _ _ _ _ _
   | exact ih1 _ _ _ _ _ _ _ _ _
   | exact ih2 _ _ _ _ _ _ _ _ _
   | exact ih3 _ _ _
   | exact ih4 _ _ _
   | exact ih5 _ _ _ _ _ _ _
   | exact ih6 _ _ _ _ _ _ _
   | exact ih7 _ _ _ _ _ _ _
   | exact limelightlaw07_hidden.mono _ _ _ _
   | exact limelightref04_Retarget.mono _ _ _ _
   | exact LeO.none _
   | refine LeO.ite ?_ ?_
   | refine LeO.bind ?_ (fun _ => ?_)
  ·intro y0 y1 y2 y3 y4 y5 y6
   unfold limelightlaw07_AimHides.j5
   repeat' first
   | (with_reducible exact ih0 _ _ _ _ _ _ _ _)
   | (with_reducible exact ih1 _ _ _ _ _ _ _ _ _)
   | (with_reducible exact ih2 _ _ _ _ _ _ _ _ _)
   | (with_reducible exact ih3 _ _ _)
   | (with_reducible exact ih4 _ _ _)
   | (with_reducible exact ih5 _ _ _ _ _ _ _)
   | (with_reducible exact ih6 _ _ _ _ _ _ _)
   | (with_reducible exact ih7 _ _ _ _ _ _ _)
   | (with_reducible exact limelightlaw07_hidden.mono _ _ _ _)
   | (with_reducible exact limelightref04_Retarget.mono _ _ _ _)
   | (with_reducible exact LeO.refl _)
   | (with_reducible exact LeO.none _)
   | (with_reducible refine LeO.ite ?_ ?_)
   | (with_reducible refine LeO.bind ?_ (fun _ => ?_))
   | exact ih0 _ _ _ _ _ _ _ _
   | exact ih1 _ _ _ _ _ _ _ _ _
   | exact ih2 _ _ _ _ _ _ _ _ _
   | exact ih3 _ _ _
   | exact ih4 _ _ _
   | exact ih5 _ _ _ _ _ _ _
   | exact ih6 _ _ _ _ _ _ _
   | exact ih7 _ _ _ _ _ _ _
   | exact limelightlaw07_hidden.mono _ _ _ _
   | exact limelightref04_Retarget.mono _ _ _ _
   | exact LeO.none _
   | refine LeO.ite ?_ ?_
   | refine LeO.bind ?_ (fun _ => ?_)
  ·intro y0 y1 y2 y3 y4 y5 y6
   unfold limelightlaw07_AimHides.j6
   repeat' first
   | (with_reducible exact ih0 _ _ _ _ _ _ _ _)
   | (with_reducible exact ih1 _ _ _ _ _ _ _ _ _)
   | (with_reducible exact ih2 _ _ _ _ _ _ _ _ _)
   | (with_reducible exact ih3 _ _ _)
   | (with_reducible exact ih4 _ _ _)
   | (with_reducible exact ih5 _ _ _ _ _ _ _)
   | (with_reducible exact ih6 _ _ _ _ _ _ _)
   | (with_reducible exact ih7 _ _ _ _ _ _ _)
   | (with_reducible exact limelightlaw07_hidden.mono _ _ _ _)
   | (with_reducible exact limelightref04_Retarget.mono _ _ _ _)
   | (with_reducible exact LeO.refl _)
   | (with_reducible exact LeO.none _)
   | (with_reducible refine LeO.ite ?_ ?_)
   | (with_reducible refine LeO.bind ?_ (fun _ => ?_))
   | exact ih0 _ _ _ _ _ _ _ _
   | exact ih1 _ _ _ _ _ _ _ _ _
   | exact ih2 _ _ _ _ _ _ _ _ _
   | exact ih3 _ _ _
   | exact ih4 _ _ _
   | exact ih5 _ _ _ _ _ _ _
   | exact ih6 _ _ _ _ _ _ _
   | exact ih7 _ _ _ _ _ _ _
   | exact limelightlaw07_hidden.mono _ _ _ _
   | exact limelightref04_Retarget.mono _ _ _ _
   | exact LeO.none _
   | refine LeO.ite ?_ ?_
   | refine LeO.bind ?_ (fun _ => ?_)
  ·intro y0 y1 y2 y3 y4 y5 y6
   unfold limelightlaw07_AimHides.l1
   repeat' first
   | (with_reducible exact ih0 _ _ _ _ _ _ _ _)
   | (with_reducible exact ih1 _ _ _ _ _ _ _ _ _)
   | (with_reducible exact ih2 _ _ _ _ _ _ _ _ _)
   | (with_reducible exact ih3 _ _ _)
   | (with_reducible exact ih4 _ _ _)
   | (with_reducible exact ih5 _ _ _ _ _ _ _)
   | (with_reducible exact ih6 _ _ _ _ _ _ _)
   | (with_reducible exact ih7 _ _ _ _ _ _ _)
   | (with_reducible exact limelightlaw07_hidden.mono _ _ _ _)
   | (with_reducible exact limelightref04_Retarget.mono _ _ _ _)
   | (with_reducible exact LeO.refl _)
   | (with_reducible exact LeO.none _)
   | (with_reducible refine LeO.ite ?_ ?_)
   | (with_reducible refine LeO.bind ?_ (fun _ => ?_))
   | exact ih0 _ _ _ _ _ _ _ _
   | exact ih1 _ _ _ _ _ _ _ _ _
   | exact ih2 _ _ _ _ _ _ _ _ _
   | exact ih3 _ _ _
   | exact ih4 _ _ _
   | exact ih5 _ _ _ _ _ _ _
   | exact ih6 _ _ _ _ _ _ _
   | exact ih7 _ _ _ _ _ _ _
   | exact limelightlaw07_hidden.mono _ _ _ _
   | exact limelightref04_Retarget.mono _ _ _ _
   | exact LeO.none _
   | refine LeO.ite ?_ ?_
   | refine LeO.bind ?_ (fun _ => ?_)
theorem limelightlaw07_AimHides.mono : ∀ a0 a1 a2 a3 a4 a5 a6 k, LeO (limelightlaw07_AimHides.f k a0 a1 a2 a3 a4 a5 a6) (limelightlaw07_AimHides.f (k + 1) a0 a1 a2 a3 a4 a5 a6) := by
 intro a0 a1 a2 a3 a4 a5 a6 k
 obtain ⟨ih0, ih1, ih2, ih3, ih4, ih5, ih6, ih7⟩ := limelightlaw07_AimHides.mono_l k
 unfold limelightlaw07_AimHides.f
 repeat' first
   | (with_reducible exact ih0 _ _ _ _ _ _ _ _)
   | (with_reducible exact ih1 _ _ _ _ _ _ _ _ _)
   | (with_reducible exact ih2 _ _ _ _ _ _ _ _ _)
   | (with_reducible exact ih3 _ _ _)
   | (with_reducible exact ih4 _ _ _)
   | (with_reducible exact ih5 _ _ _ _ _ _ _)
   | (with_reducible exact ih6 _ _ _ _ _ _ _)
   | (with_reducible exact ih7 _ _ _ _ _ _ _)
   | (with_reducible exact limelightlaw07_hidden.mono _ _ _ _)
   | (with_reducible exact limelightref04_Retarget.mono _ _ _ _)
   | (with_reducible exact LeO.refl _)
   | (with_reducible exact LeO.none _)
   | (with_reducible refine LeO.ite ?_ ?_)
   | (with_reducible refine LeO.bind ?_ (fun _ => ?_))
   | exact ih0 _ _ _ _ _ _ _ _
   | exact ih1 _ _ _ _ _ _ _ _ _
   | exact ih2 _ _ _ _ _ _ _ _ _
   | exact ih3 _ _ _
   | exact ih4 _ _ _
   | exact ih5 _ _ _ _ _ _ _
   | exact ih6 _ _ _ _ _ _ _
   | exact ih7 _ _ _ _ _ _ _
   | exact limelightlaw07_hidden.mono _ _ _ _
   | exact limelightref04_Retarget.mono _ _ _ _
   | exact LeO.none _
   | refine LeO.ite ?_ ?_
   | refine LeO.bind ?_ (fun _ => ?_)
def limelightlaw07_AimHides.T6 : Bool × List (List Nat × List Nat) := (true, [([], []), ([], []), ([1], [1]), ([], []), ([3], [3]), ([0, 2, 4], [0, 2, 4]), ([], []), ([6], [6]), ([5, 7], [5, 7]), ([8, 5, 0, 1, 2, 3, 4, 5, 6, 7, 8], [8])])
def limelightlaw07_AimHides.B6 : List Nat := [0, 0, 2, 0, 8, 31, 0, 64, 255, 511]
theorem limelightlaw07_AimHides.tab6 : rtab .any (opsOf Try.f5 6) = limelightlaw07_AimHides.T6 := by kernel_rfl
theorem limelightlaw07_AimHides.bits6 : waitsOk limelightlaw07_AimHides.T6.2 limelightlaw07_AimHides.B6 = true := by kernel_rfl
def limelightlaw07_AimHides.T9 : Bool × List (List Nat × List Nat) := (true, [([], []), ([0], [0]), ([1], [1]), ([2, 1], [1, 2]), ([3, 1], [1, 3]), ([4, 1], [1, 4]), ([1], [1]), ([6, 1], [1, 6]), ([5, 7, 1], [1, 5, 7]), ([1, 8], [1, 8]), ([9, 1], [9]), ([10], [10]), ([11, 10], [10, 11]), ([12, 10], [10, 12]), ([13, 10], [10, 13]), ([10], [10]), ([15, 10], [10, 15]), ([14, 16, 10], [10, 14, 16]), ([10, 17], [10, 17])])
def limelightlaw07_AimHides.B9 : List Nat := [0, 1, 3, 7, 15, 31, 3, 67, 255, 511, 1023, 2047, 4095, 8191, 16383, 2047, 34815, 131071, 262143]
theorem limelightlaw07_AimHides.tab9 : rtab .any (opsOf Try.f5 9) = limelightlaw07_AimHides.T9 := by kernel_rfl
theorem limelightlaw07_AimHides.bits9 : waitsOk limelightlaw07_AimHides.T9.2 limelightlaw07_AimHides.B9 = true := by kernel_rfl
def limelightlaw07_AimHides.T22 : Bool × List (List Nat × List Nat) := (true, [([], []), ([], []), ([0, 1], [0, 1]), ([2], [2]), ([3], [3]), ([], []), ([5], [5]), ([4, 6], [4, 6])])
def limelightlaw07_AimHides.B22 : List Nat := [0, 0, 3, 7, 15, 0, 32, 127]
theorem limelightlaw07_AimHides.tab22 : rtab .any (opsOf Try.f5 22) = limelightlaw07_AimHides.T22 := by kernel_rfl
theorem limelightlaw07_AimHides.bits22 : waitsOk limelightlaw07_AimHides.T22.2 limelightlaw07_AimHides.B22 = true := by kernel_rfl
set_option maxHeartbeats 8000000 in
set_option maxRecDepth 100000 in
theorem limelightlaw07_AimHides.calls (k : Nat) (A0 : Option Addr) (c0 : Nat) (l0 : List (S53)) (a1_0 : Int) (a1_1 : Int) (a1_2 : Int) (a1_3 : Bool) (a1_4 : Bool) (a1_5 : Bool) (r : Bool) (w : World) (hr0 : Kd.C k53 w A0 l0.length l0) (hc0 : l0.length ≤ c0) (h : limelightlaw07_AimHides.f k l0 a1_0 a1_1 a1_2 a1_3 a1_4 a1_5 = some r) :
  Calls Try.prog 5 #[.slice A0 l0.length c0, .agg #[.int .i64 a1_0, .int .i64 a1_1, .int .i64 a1_2, .bool a1_3, .bool a1_4, .bool a1_5]] w fun e w' => e = .returned (.bool r) ∧ Below w.heap.size w w' := by
 have hu25 := Try.underlying25
 have hu36 := Try.underlying36
 have HR0 := Aside0.mk hr0
 have HC0 := Aside0.mk hc0
 clear hr0 hc0
 have HB := Aside0.mk (Below.refl w.heap.size w)
 have H : ((limelightref01_Few.f l0).bind fun t248 => (if t248 = true then ((limelightref03_Both.f l0 a1_1 a1_1).bind fun t249 => (limelightlaw07_AimHides.j0 k l0 (!t249) a1_0 a1_1 a1_2 a1_3 a1_4 a1_5)) else (limelightlaw07_AimHides.j0 k l0 true a1_0 a1_1 a1_2 a1_3 a1_4 a1_5))) = some r := h
 clear h
 have HC3 := Aside0.mk H
 clear H
 go_enter Try.func5, Try.ntmps5
 go_upto_region 1 with (first | ((with_reducible refine gate_dst (N := 3) rfl ?_); refine box_event ?hg (N := 3) ?hd (cs := #[.int .i64 a1_0, .int .i64 a1_1, .int .i64 a1_2, .bool a1_3, .bool a1_4, .bool a1_5]) (t := 25) ?hr ?_; (case hd => rfl); (case hg => rfl); (case hr => first | (go_simp; done) | (go_simp; rfl)); intro gb247 hg w4 hbox hb; have n0_ := Aside0.mk (below_step bel_ hb); have n1_ := Aside0.mk (hbox); have n2_ := Aside0.mk ((by rw [hg]; exact (below_size bel_) : w.heap.size ≤ gb247)); have n3_ := Aside0.mk ((by rw [hg]; exact (below_size bel_) : w.heap.size ≤ gb247)); clear HB; have HB := n0_; have BK247 := n1_; have GW247 := n2_; have GE247 := n3_; clear n0_ n1_ n2_ n3_; clear hb hbox hg))
 (try simp only [Act.put, List.setIfInBounds_toArray, List.set_cons_zero, List.set_cons_succ])
 go_cut [21] (fun v21 wc => ∃ (kq : Nat) (x21_2 : Bool), v21 = .bool x21_2 ∧ Aside0 (limelightlaw07_AimHides.j0 kq l0 x21_2 a1_0 a1_1 a1_2 a1_3 a1_4 a1_5 = some r) ∧ Aside0 (kq ≤ k) ∧ Aside0 (wc.heap[gb247]? = some (.cells #[.int .i64 a1_0, .int .i64 a1_1, .int .i64 a1_2, .bool a1_3, .bool a1_4, .bool a1_5] 25 (0, 0))) ∧ Aside0 (Below w.heap.size w wc))
 case first =>
  have H := HC3.out
  clear HC3
  replace H := Option.bind_eq_some_iff.mp H
  obtain ⟨t248, A50, H⟩ := H
  replace H : (if t248 = true then ((limelightref03_Both.f l0 a1_1 a1_1).bind fun t249 => (limelightlaw07_AimHides.j0 k l0 (!t249) a1_0 a1_1 a1_2 a1_3 a1_4 a1_5)) else (limelightlaw07_AimHides.j0 k l0 true a1_0 a1_1 a1_2 a1_3 a1_4 a1_5)) = some r := H
  have A5 := Aside0.mk A50
  clear A50
  by_cases c6 : t248 = true
  ·subst c6
   have H1 : ((limelightref03_Both.f l0 a1_1 a1_1).bind fun t249 => (limelightlaw07_AimHides.j0 k l0 (!t249) a1_0 a1_1 a1_2 a1_3 a1_4 a1_5)) = some r := by rw [if_pos rfl] at H; exact H
   clear H
   have H := H1
   clear H1
   replace H := Option.bind_eq_some_iff.mp H
   obtain ⟨t249, A70, H⟩ := H
   replace H : (limelightlaw07_AimHides.j0 k l0 (!t249) a1_0 a1_1 a1_2 a1_3 a1_4 a1_5) = some r := H
   have A7 := Aside0.mk A70
   clear A70
   have H' := Aside0.mk H
   clear H
   go_wp2_with (first | ((with_reducible refine gate_callee (f := 8) rfl ?_); refine goesL_ (some 11) rfl rfl Try.func8 (by kernel_rfl) rfl #[.slice A0 l0.length c0] rfl margs_ ?_; (with_reducible refine (limelightref01_Few.calls _ _ l0 true _ ?side1 ?side2 A5.out).mono ?_); (case side1 => exact kcb_ ((Kd.C_below HR0.out HB.out))); (case side2 => exact HC0.out); rintro e w8 ⟨rfl, hb⟩; refine ⟨_, rfl, ?_⟩; have n0_ := Aside0.mk (blk_below (g := gb247) (o := .cells #[.int .i64 a1_0, .int .i64 a1_1, .int .i64 a1_2, .bool a1_3, .bool a1_4, .bool a1_5] 25 (0, 0)) (blkx_ BK247.out) hb); have n1_ := Aside0.mk (below_step (belg_ GE247.out) hb); clear BK247; clear HB; have BK247 := n0_; have HB := n1_; clear n0_ n1_; (try clear hb); (try clear hb2); (try clear hk); (try clear hi); have hcz9_0 : w8.cell? ⟨gb247, 0, none⟩ = some (.int .i64 a1_0) := (blk_cell BK247.out 0).trans rfl; have hcz9_1 : w8.cell? ⟨gb247, 1, none⟩ = some (.int .i64 a1_1) := (blk_cell BK247.out 1).trans rfl; have hcz9_2 : w8.cell? ⟨gb247, 2, none⟩ = some (.int .i64 a1_2) := (blk_cell BK247.out 2).trans rfl; have hcz9_3 : w8.cell? ⟨gb247, 3, none⟩ = some (.bool a1_3) := (blk_cell BK247.out 3).trans rfl; have hcz9_4 : w8.cell? ⟨gb247, 4, none⟩ = some (.bool a1_4) := (blk_cell BK247.out 4).trans rfl; have hcz9_5 : w8.cell? ⟨gb247, 5, none⟩ = some (.bool a1_5) := (blk_cell BK247.out 5).trans rfl; have hfz9_0 := blk_frozen BK247.out 0; have hfz9_1 := blk_frozen BK247.out 1; have hfz9_2 := blk_frozen BK247.out 2; have hfz9_3 := blk_frozen BK247.out 3; have hfz9_4 := blk_frozen BK247.out 4; have hfz9_5 := blk_frozen BK247.out 5) | (go_at_call 11; (with_reducible refine (limelightref03_Both.calls _ _ l0 a1_1 a1_1 t249 _ ?side1 ?side2 A7.out).mono ?_); (case side1 => exact kcb_ ((Kd.C_below HR0.out HB.out))); (case side2 => exact HC0.out); rintro e w10 ⟨rfl, hb⟩; have n0_ := Aside0.mk (blk_below (g := gb247) (o := .cells #[.int .i64 a1_0, .int .i64 a1_1, .int .i64 a1_2, .bool a1_3, .bool a1_4, .bool a1_5] 25 (0, 0)) (blkx_ BK247.out) hb); have n1_ := Aside0.mk (below_step (belg_ GE247.out) hb); clear BK247; clear HB; have BK247 := n0_; have HB := n1_; clear n0_ n1_; (try clear hb); (try clear hb2); (try clear hk); (try clear hi)))
   go_meet
   case rel => exact ⟨_, (!t249), (by first | rfl | (simp; done) | (simp [*]; done)), H', ⟨by first | omega | exact Nat.le_refl _⟩, ⟨blkx_ BK247.out⟩, ⟨belg_ GE247.out⟩⟩
  ·replace c6 := Bool.eq_false_iff.mpr c6
   subst c6
   have H1 : (limelightlaw07_AimHides.j0 k l0 true a1_0 a1_1 a1_2 a1_3 a1_4 a1_5) = some r := by rw [if_neg (show ¬ (false = true) by decide)] at H; exact H
   clear H
   have H := H1
   clear H1
   have H' := Aside0.mk H
   clear H
   go_wp2_with (first | ((with_reducible refine gate_callee (f := 8) rfl ?_); refine goesL_ (some 11) rfl rfl Try.func8 (by kernel_rfl) rfl #[.slice A0 l0.length c0] rfl margs_ ?_; (with_reducible refine (limelightref01_Few.calls _ _ l0 false _ ?side1 ?side2 A5.out).mono ?_); (case side1 => exact kcb_ ((Kd.C_below HR0.out HB.out))); (case side2 => exact HC0.out); rintro e w11 ⟨rfl, hb⟩; refine ⟨_, rfl, ?_⟩; have n0_ := Aside0.mk (blk_below (g := gb247) (o := .cells #[.int .i64 a1_0, .int .i64 a1_1, .int .i64 a1_2, .bool a1_3, .bool a1_4, .bool a1_5] 25 (0, 0)) (blkx_ BK247.out) hb); have n1_ := Aside0.mk (below_step (belg_ GE247.out) hb); clear BK247; clear HB; have BK247 := n0_; have HB := n1_; clear n0_ n1_; (try clear hb); (try clear hb2); (try clear hk); (try clear hi)))
   go_meet
   case rel => exact ⟨_, (true), (by first | rfl | (simp; done) | (simp [*]; done)), H', ⟨by first | omega | exact Nat.le_refl _⟩, ⟨blkx_ BK247.out⟩, ⟨belg_ GE247.out⟩⟩
 case rest =>
  clear HC3
  try clear p2
  try clear c5
  try clear c6
  try clear c8
  try clear hcz9_0
  try clear hcz9_1
  try clear hcz9_2
  try clear hcz9_3
  try clear hcz9_4
  try clear hcz9_5
  try clear hfz9_0
  try clear hfz9_1
  try clear hfz9_2
  try clear hfz9_3
  try clear hfz9_4
  try clear hfz9_5
  obtain ⟨kq, x21_2, rfl, HA, HJ2, BK247, HB⟩ := hcut
  cases kq with
  | zero => exact absurd HA.out (by simp [limelightlaw07_AimHides.j0])
  | succ kj2 =>
   have H := HA.out
   clear HA
   simp only [limelightlaw07_AimHides.j0] at H
   by_cases c12 : x21_2 = true
   ·subst c12
    have H1 : ((limelightlaw07_live.f).bind fun t250 => (some t250)) = some r := by rw [if_pos rfl] at H; exact H
    clear H
    have H := H1
    clear H1
    replace H := Option.bind_eq_some_iff.mp H
    obtain ⟨t250, A130, H⟩ := H
    replace H : (some t250) = some r := H
    have A13 := Aside0.mk A130
    clear A130
    obtain rfl := Option.some.inj H
    go_wp2_with (first | ((with_reducible refine gate_callee (f := 9) rfl ?_); refine goesL_ (some 22) rfl rfl Try.func9 (by kernel_rfl) rfl #[] rfl margs_ ?_; (with_reducible refine (limelightlaw07_live.calls  t250 _ A13.out).mono ?_); rintro e w14 ⟨rfl, hb⟩; refine ⟨_, rfl, ?_⟩; have n0_ := Aside0.mk (blk_below (g := gb247) (o := .cells #[.int .i64 a1_0, .int .i64 a1_1, .int .i64 a1_2, .bool a1_3, .bool a1_4, .bool a1_5] 25 (0, 0)) (blkx_ BK247.out) hb); have n1_ := Aside0.mk (below_step (belg_ GE247.out) hb); clear BK247; clear HB; have BK247 := n0_; have HB := n1_; clear n0_ n1_; (try clear hb); (try clear hb2); (try clear hk); (try clear hi)))
    go_ret
    exact ⟨by first | rfl | (simp [errW_none, errW_some] <;> rfl) | (simp [*, errW_none, errW_some] <;> rfl), belg_ GE247.out⟩
   ·replace c12 := Bool.eq_false_iff.mpr c12
    subst c12
    have H1 : ((aim_Path.f l0 a1_0 a1_1 a1_2 a1_3 a1_4 a1_5).bind fun t251 => ((limelightref01_Is.f l0 a1_2).bind fun t254 => (if t254 = true then (limelightlaw07_AimHides.j1 kj2 l0 t251 (a1_2 != a1_1) a1_0 a1_1 a1_2 a1_3 a1_4 a1_5) else (limelightlaw07_AimHides.j1 kj2 l0 t251 false a1_0 a1_1 a1_2 a1_3 a1_4 a1_5)))) = some r := by rw [if_neg (show ¬ (false = true) by decide)] at H; exact H
    clear H
    have H := H1
    clear H1
    replace H := Option.bind_eq_some_iff.mp H
    obtain ⟨t251, A150, H⟩ := H
    replace H : ((limelightref01_Is.f l0 a1_2).bind fun t254 => (if t254 = true then (limelightlaw07_AimHides.j1 kj2 l0 t251 (a1_2 != a1_1) a1_0 a1_1 a1_2 a1_3 a1_4 a1_5) else (limelightlaw07_AimHides.j1 kj2 l0 t251 false a1_0 a1_1 a1_2 a1_3 a1_4 a1_5))) = some r := H
    have A15 := Aside0.mk A150
    clear A150
    have HC16 := Aside0.mk H
    clear H
    have hcz17_0 : wc.cell? ⟨gb247, 0, none⟩ = some (.int .i64 a1_0) := (blk_cell BK247.out 0).trans rfl
    have hcz17_1 : wc.cell? ⟨gb247, 1, none⟩ = some (.int .i64 a1_1) := (blk_cell BK247.out 1).trans rfl
    have hcz17_2 : wc.cell? ⟨gb247, 2, none⟩ = some (.int .i64 a1_2) := (blk_cell BK247.out 2).trans rfl
    have hcz17_3 : wc.cell? ⟨gb247, 3, none⟩ = some (.bool a1_3) := (blk_cell BK247.out 3).trans rfl
    have hcz17_4 : wc.cell? ⟨gb247, 4, none⟩ = some (.bool a1_4) := (blk_cell BK247.out 4).trans rfl
    have hcz17_5 : wc.cell? ⟨gb247, 5, none⟩ = some (.bool a1_5) := (blk_cell BK247.out 5).trans rfl
    have hfz17_0 := blk_frozen BK247.out 0
    have hfz17_1 := blk_frozen BK247.out 1
    have hfz17_2 := blk_frozen BK247.out 2
    have hfz17_3 := blk_frozen BK247.out 3
    have hfz17_4 := blk_frozen BK247.out 4
    have hfz17_5 := blk_frozen BK247.out 5
    go_upto_region 4 with (first | ((with_reducible refine gate_callee (f := 10) rfl ?_); refine goesL_ (some 25) rfl rfl Try.func10 (by kernel_rfl) rfl #[.slice A0 l0.length c0, .agg #[.int .i64 a1_0, .int .i64 a1_1, .int .i64 a1_2, .bool a1_3, .bool a1_4, .bool a1_5]] rfl margs_ ?_; (with_reducible refine (aim_Path.calls _ _ l0 a1_0 a1_1 a1_2 a1_3 a1_4 a1_5 t251 _ ?side1 ?side2 A15.out).mono ?_); (case side1 => exact kcb_ ((Kd.C_below HR0.out HB.out))); (case side2 => exact HC0.out); rintro e w18 ⟨v252, rfl, ho0, hb⟩; refine ⟨_, rfl, ?_⟩; have n0_ := Aside0.mk (Kd.R_lower ho0 (below_size (belg_ GE247.out))); have n1_ := Aside0.mk (blk_below (g := gb247) (o := .cells #[.int .i64 a1_0, .int .i64 a1_1, .int .i64 a1_2, .bool a1_3, .bool a1_4, .bool a1_5] 25 (0, 0)) (blkx_ BK247.out) hb); have n2_ := Aside0.mk (below_step (belg_ GE247.out) hb); clear BK247; clear HB; have HO253 := n0_; have BK247 := n1_; have HB := n2_; clear n0_ n1_ n2_; (try clear hb); (try clear hb2); (try clear hk); (try clear hi); (try clear ho0)))
    (try simp only [Act.put, List.setIfInBounds_toArray, List.set_cons_zero, List.set_cons_succ])
    go_cut [6] (fun v6 wc => ∃ (kq : Nat) (x6_15 : Bool), v6 = .bool x6_15 ∧ Aside0 (limelightlaw07_AimHides.j1 kq l0 t251 x6_15 a1_0 a1_1 a1_2 a1_3 a1_4 a1_5 = some r) ∧ Aside0 (kq ≤ kj2) ∧ Aside0 (Kd.R k36 36 wc w.heap.size (fun _ => True) v252 t251) ∧ Aside0 (wc.heap[gb247]? = some (.cells #[.int .i64 a1_0, .int .i64 a1_1, .int .i64 a1_2, .bool a1_3, .bool a1_4, .bool a1_5] 25 (0, 0))) ∧ Aside0 (Below w.heap.size w wc))
    case first =>
     have H := HC16.out
     clear HC16
     replace H := Option.bind_eq_some_iff.mp H
     obtain ⟨t254, A190, H⟩ := H
     replace H : (if t254 = true then (limelightlaw07_AimHides.j1 kj2 l0 t251 (a1_2 != a1_1) a1_0 a1_1 a1_2 a1_3 a1_4 a1_5) else (limelightlaw07_AimHides.j1 kj2 l0 t251 false a1_0 a1_1 a1_2 a1_3 a1_4 a1_5)) = some r := H
     have A19 := Aside0.mk A190
     clear A190
     by_cases c20 : t254 = true
     ·subst c20
      have H1 : (limelightlaw07_AimHides.j1 kj2 l0 t251 (a1_2 != a1_1) a1_0 a1_1 a1_2 a1_3 a1_4 a1_5) = some r := by rw [if_pos rfl] at H; exact H
      clear H
      have H := H1
      clear H1
      have H' := Aside0.mk H
      clear H
      have hcz21_0 : w18.cell? ⟨gb247, 0, none⟩ = some (.int .i64 a1_0) := (blk_cell BK247.out 0).trans rfl
      have hcz21_1 : w18.cell? ⟨gb247, 1, none⟩ = some (.int .i64 a1_1) := (blk_cell BK247.out 1).trans rfl
      have hcz21_2 : w18.cell? ⟨gb247, 2, none⟩ = some (.int .i64 a1_2) := (blk_cell BK247.out 2).trans rfl
      have hcz21_3 : w18.cell? ⟨gb247, 3, none⟩ = some (.bool a1_3) := (blk_cell BK247.out 3).trans rfl
      have hcz21_4 : w18.cell? ⟨gb247, 4, none⟩ = some (.bool a1_4) := (blk_cell BK247.out 4).trans rfl
      have hcz21_5 : w18.cell? ⟨gb247, 5, none⟩ = some (.bool a1_5) := (blk_cell BK247.out 5).trans rfl
      have hfz21_0 := blk_frozen BK247.out 0
      have hfz21_1 := blk_frozen BK247.out 1
      have hfz21_2 := blk_frozen BK247.out 2
      have hfz21_3 := blk_frozen BK247.out 3
      have hfz21_4 := blk_frozen BK247.out 4
      have hfz21_5 := blk_frozen BK247.out 5
      go_wp2_with (first | ((with_reducible refine gate_callee (f := 14) rfl ?_); refine goesL_ (some 29) rfl rfl Try.func14 (by kernel_rfl) rfl #[.slice A0 l0.length c0, .int .i64 a1_2] rfl margs_ ?_; (with_reducible refine (limelightref01_Is.calls _ _ l0 a1_2 true _ ?side1 ?side2 A19.out).mono ?_); (case side1 => exact kcb_ ((Kd.C_below HR0.out HB.out))); (case side2 => exact HC0.out); rintro e w22 ⟨rfl, hb⟩; refine ⟨_, rfl, ?_⟩; have n0_ := Aside0.mk (Kd.R_below (kra_ HO253.out) hb); have n1_ := Aside0.mk (blk_below (g := gb247) (o := .cells #[.int .i64 a1_0, .int .i64 a1_1, .int .i64 a1_2, .bool a1_3, .bool a1_4, .bool a1_5] 25 (0, 0)) (blkx_ BK247.out) hb); have n2_ := Aside0.mk (below_step (belg_ GE247.out) hb); clear HO253; clear BK247; clear HB; have HO253 := n0_; have BK247 := n1_; have HB := n2_; clear n0_ n1_ n2_; (try clear hb); (try clear hb2); (try clear hk); (try clear hi); have hcz23_0 : w22.cell? ⟨gb247, 0, none⟩ = some (.int .i64 a1_0) := (blk_cell BK247.out 0).trans rfl; have hcz23_1 : w22.cell? ⟨gb247, 1, none⟩ = some (.int .i64 a1_1) := (blk_cell BK247.out 1).trans rfl; have hcz23_2 : w22.cell? ⟨gb247, 2, none⟩ = some (.int .i64 a1_2) := (blk_cell BK247.out 2).trans rfl; have hcz23_3 : w22.cell? ⟨gb247, 3, none⟩ = some (.bool a1_3) := (blk_cell BK247.out 3).trans rfl; have hcz23_4 : w22.cell? ⟨gb247, 4, none⟩ = some (.bool a1_4) := (blk_cell BK247.out 4).trans rfl; have hcz23_5 : w22.cell? ⟨gb247, 5, none⟩ = some (.bool a1_5) := (blk_cell BK247.out 5).trans rfl; have hfz23_0 := blk_frozen BK247.out 0; have hfz23_1 := blk_frozen BK247.out 1; have hfz23_2 := blk_frozen BK247.out 2; have hfz23_3 := blk_frozen BK247.out 3; have hfz23_4 := blk_frozen BK247.out 4; have hfz23_5 := blk_frozen BK247.out 5))
      go_meet
      case rel => exact ⟨_, ((a1_2 != a1_1)), (by first | rfl | (simp; done) | (simp [*]; done)), H', ⟨by have := HJ2.out; first | omega | exact Nat.le_refl _⟩, ⟨kra_ HO253.out⟩, ⟨blkx_ BK247.out⟩, ⟨belg_ GE247.out⟩⟩
     ·replace c20 := Bool.eq_false_iff.mpr c20
      subst c20
      have H1 : (limelightlaw07_AimHides.j1 kj2 l0 t251 false a1_0 a1_1 a1_2 a1_3 a1_4 a1_5) = some r := by rw [if_neg (show ¬ (false = true) by decide)] at H; exact H
      clear H
      have H := H1
      clear H1
      have H' := Aside0.mk H
      clear H
      have hcz24_0 : w18.cell? ⟨gb247, 0, none⟩ = some (.int .i64 a1_0) := (blk_cell BK247.out 0).trans rfl
      have hcz24_1 : w18.cell? ⟨gb247, 1, none⟩ = some (.int .i64 a1_1) := (blk_cell BK247.out 1).trans rfl
      have hcz24_2 : w18.cell? ⟨gb247, 2, none⟩ = some (.int .i64 a1_2) := (blk_cell BK247.out 2).trans rfl
      have hcz24_3 : w18.cell? ⟨gb247, 3, none⟩ = some (.bool a1_3) := (blk_cell BK247.out 3).trans rfl
      have hcz24_4 : w18.cell? ⟨gb247, 4, none⟩ = some (.bool a1_4) := (blk_cell BK247.out 4).trans rfl
      have hcz24_5 : w18.cell? ⟨gb247, 5, none⟩ = some (.bool a1_5) := (blk_cell BK247.out 5).trans rfl
      have hfz24_0 := blk_frozen BK247.out 0
      have hfz24_1 := blk_frozen BK247.out 1
      have hfz24_2 := blk_frozen BK247.out 2
      have hfz24_3 := blk_frozen BK247.out 3
      have hfz24_4 := blk_frozen BK247.out 4
      have hfz24_5 := blk_frozen BK247.out 5
      go_wp2_with (first | ((with_reducible refine gate_callee (f := 14) rfl ?_); refine goesL_ (some 29) rfl rfl Try.func14 (by kernel_rfl) rfl #[.slice A0 l0.length c0, .int .i64 a1_2] rfl margs_ ?_; (with_reducible refine (limelightref01_Is.calls _ _ l0 a1_2 false _ ?side1 ?side2 A19.out).mono ?_); (case side1 => exact kcb_ ((Kd.C_below HR0.out HB.out))); (case side2 => exact HC0.out); rintro e w25 ⟨rfl, hb⟩; refine ⟨_, rfl, ?_⟩; have n0_ := Aside0.mk (Kd.R_below (kra_ HO253.out) hb); have n1_ := Aside0.mk (blk_below (g := gb247) (o := .cells #[.int .i64 a1_0, .int .i64 a1_1, .int .i64 a1_2, .bool a1_3, .bool a1_4, .bool a1_5] 25 (0, 0)) (blkx_ BK247.out) hb); have n2_ := Aside0.mk (below_step (belg_ GE247.out) hb); clear HO253; clear BK247; clear HB; have HO253 := n0_; have BK247 := n1_; have HB := n2_; clear n0_ n1_ n2_; (try clear hb); (try clear hb2); (try clear hk); (try clear hi)))
      go_meet
      case rel => exact ⟨_, (false), (by first | rfl | (simp; done) | (simp [*]; done)), H', ⟨by have := HJ2.out; first | omega | exact Nat.le_refl _⟩, ⟨kra_ HO253.out⟩, ⟨blkx_ BK247.out⟩, ⟨belg_ GE247.out⟩⟩
    case rest =>
     clear HC16
     try clear c1
     try clear c2
     try clear p2
     try clear c5
     try clear c6
     try clear c8
     try clear c9
     try clear c10
     try clear c12
     try clear c14
     try clear c20
     try clear hcz17_0
     try clear hcz17_1
     try clear hcz17_2
     try clear hcz17_3
     try clear hcz17_4
     try clear hcz17_5
     try clear hcz21_0
     try clear hcz21_1
     try clear hcz21_2
     try clear hcz21_3
     try clear hcz21_4
     try clear hcz21_5
     try clear hcz23_0
     try clear hcz23_1
     try clear hcz23_2
     try clear hcz23_3
     try clear hcz23_4
     try clear hcz23_5
     try clear hcz24_0
     try clear hcz24_1
     try clear hcz24_2
     try clear hcz24_3
     try clear hcz24_4
     try clear hcz24_5
     try clear hcz9_0
     try clear hcz9_1
     try clear hcz9_2
     try clear hcz9_3
     try clear hcz9_4
     try clear hcz9_5
     try clear hfz17_0
     try clear hfz17_1
     try clear hfz17_2
     try clear hfz17_3
     try clear hfz17_4
     try clear hfz17_5
     try clear hfz21_0
     try clear hfz21_1
     try clear hfz21_2
     try clear hfz21_3
     try clear hfz21_4
     try clear hfz21_5
     try clear hfz23_0
     try clear hfz23_1
     try clear hfz23_2
     try clear hfz23_3
     try clear hfz23_4
     try clear hfz23_5
     try clear hfz24_0
     try clear hfz24_1
     try clear hfz24_2
     try clear hfz24_3
     try clear hfz24_4
     try clear hfz24_5
     try clear hfz9_0
     try clear hfz9_1
     try clear hfz9_2
     try clear hfz9_3
     try clear hfz9_4
     try clear hfz9_5
     try clear p2
     obtain ⟨kq, x6_15, rfl, HA, HJ15, HO_5, BK247, HB⟩ := hcut
     cases kq with
     | zero => exact absurd HA.out (by simp [limelightlaw07_AimHides.j1])
     | succ kj15 =>
      have H := HA.out
      clear HA
      simp only [limelightlaw07_AimHides.j1] at H
      have HC26 := Aside0.mk H
      clear H
      go_upto_if 37 with (fail)
      go_cut [6] (fun v6 wc => ∃ (kq : Nat) (x6_25 : Bool), v6 = .bool x6_25 ∧ Aside0 (limelightlaw07_AimHides.j2 kq l0 t251 x6_25 a1_0 a1_1 a1_2 a1_3 a1_4 a1_5 = some r) ∧ Aside0 (kq ≤ kj15) ∧ Aside0 (Kd.R k36 36 wc w.heap.size (fun _ => True) v252 t251) ∧ Aside0 (wc.heap[gb247]? = some (.cells #[.int .i64 a1_0, .int .i64 a1_1, .int .i64 a1_2, .bool a1_3, .bool a1_4, .bool a1_5] 25 (0, 0))) ∧ Aside0 (Below w.heap.size w wc))
      case first =>
       have H := HC26.out
       clear HC26
       by_cases c27 : x6_15 = true
       ·subst c27
        have H1 : ((limelightref04_Retarget.f kj15 l0 a1_2 a1_1).bind fun t255 => (limelightlaw07_AimHides.j2 kj15 l0 t251 (t255 == a1_1) a1_0 a1_1 a1_2 a1_3 a1_4 a1_5)) = some r := by rw [if_pos rfl] at H; exact H
        clear H
        have H := H1
        clear H1
        replace H := Option.bind_eq_some_iff.mp H
        obtain ⟨t255, A280, H⟩ := H
        replace H : (limelightlaw07_AimHides.j2 kj15 l0 t251 (t255 == a1_1) a1_0 a1_1 a1_2 a1_3 a1_4 a1_5) = some r := H
        have A28 := Aside0.mk A280
        clear A280
        have H' := Aside0.mk H
        clear H
        try go_wp2
        have n0_ := Aside0.mk (Kd.R_drew HO_5.out)
        have n1_ := Aside0.mk (blk_drew BK247.out)
        have n2_ := Aside0.mk (below_drew1 HB.out)
        clear HO_5
        clear BK247
        clear HB
        have HO_5 := n0_
        have BK247 := n1_
        have HB := n2_
        clear n0_ n1_ n2_
        refine start_ (n := 10) (S := fun w' => w'.cell? ⟨gb247, 0, none⟩ = some (.int .i64 a1_0) ∧ w'.cell? ⟨gb247, 1, none⟩ = some (.int .i64 a1_1) ∧ w'.cell? ⟨gb247, 2, none⟩ = some (.int .i64 a1_2) ∧ w'.cell? ⟨gb247, 3, none⟩ = some (.bool a1_3) ∧ w'.cell? ⟨gb247, 4, none⟩ = some (.bool a1_4) ∧ w'.cell? ⟨gb247, 5, none⟩ = some (.bool a1_5)) (ds := []) #[false, false, false, false, false, false, false, false, false, false] (by kernel_rfl) rfl rfl ⟨(blk_cell BK247.out 0).trans rfl, (blk_cell BK247.out 1).trans rfl, (blk_cell BK247.out 2).trans rfl, (blk_cell BK247.out 3).trans rfl, (blk_cell BK247.out 4).trans rfl, (blk_cell BK247.out 5).trans rfl⟩ (fun hHeld => ?_); refine with_tabW limelightlaw07_AimHides.tab6 limelightlaw07_AimHides.bits6 (fun HT_ HW_ => ?_)
        generalize wc.drew = w29 at HO_5 BK247 HB hHeld ⊢
        refine pure_ (i := 0) (N := some 38) (v := ?_) (a' := ?_) #[true, false, false, false, false, false, false, false, false, false] rfl rfl (any_of HT_.out (by kernel_rfl)) (fun _ _ _ h => h) (Or.inl ⟨by rfl, ?_⟩) ?_ ?_
        rotate_left
        ·intro w'
         go_simp
         with_reducible rfl
        rotate_left
        ·simp only [Act.put, List.setIfInBounds_toArray, List.set_cons_zero, List.set_cons_succ, i64_w, i32_w]
         rfl
        refine pure_ (i := 1) (N := some 39) (v := ?_) (a' := ?_) #[true, true, false, false, false, false, false, false, false, false] rfl rfl (any_of HT_.out (by kernel_rfl)) (fun _ _ _ h => h) (Or.inl ⟨by rfl, ?_⟩) ?_ ?_
        rotate_left
        ·intro w'
         go_simp
         with_reducible rfl
        rotate_left
        ·simp only [Act.put, List.setIfInBounds_toArray, List.set_cons_zero, List.set_cons_succ, i64_w, i32_w]
         rfl
        refine pure_ (i := 3) (N := some 41) (v := ?_) (a' := ?_) #[true, true, false, true, false, false, false, false, false, false] rfl rfl (any_of HT_.out (by kernel_rfl)) (fun _ _ _ h => h) (Or.inl ⟨by rfl, ?_⟩) ?_ ?_
        rotate_left
        ·intro w'
         go_simp
         with_reducible rfl
        rotate_left
        ·simp only [Act.put, List.setIfInBounds_toArray, List.set_cons_zero, List.set_cons_succ, i64_w, i32_w]
         rfl
        refine pure_ (i := 6) (N := some 44) (v := ?_) (a' := ?_) #[true, true, false, true, false, false, true, false, false, false] rfl rfl (any_of HT_.out (by kernel_rfl)) (fun _ _ _ h => h) (Or.inl ⟨by rfl, ?_⟩) ?_ ?_
        rotate_left
        ·intro w'
         go_simp
         with_reducible rfl
        rotate_left
        ·simp only [Act.put, List.setIfInBounds_toArray, List.set_cons_zero, List.set_cons_succ, i64_w, i32_w]
         rfl
        refine take_ (i := 2) (N := some 40) (v := ?_) (a' := ?_) #[true, true, true, true, false, false, true, false, false, false] rfl rfl (take_ofW HT_.out HW_.out (by kernel_rfl)) (fun _ _ _ h => h) (Or.inl ⟨by rfl, ?_⟩) hHeld ?_ ?_
        rotate_left
        ·rintro w' ⟨s0, s1, s2, s3, s4, s5⟩
         go_simp
         with_reducible rfl
        rotate_left
        ·simp only [Act.put, List.setIfInBounds_toArray, List.set_cons_zero, List.set_cons_succ, i64_w, i32_w]
         rfl
        refine take_ (i := 4) (N := some 42) (v := ?_) (a' := ?_) #[true, true, true, true, true, false, true, false, false, false] rfl rfl (take_ofW HT_.out HW_.out (by kernel_rfl)) (fun _ _ _ h => h) (Or.inl ⟨by rfl, ?_⟩) hHeld ?_ ?_
        rotate_left
        ·rintro w' ⟨s0, s1, s2, s3, s4, s5⟩
         go_simp
         with_reducible rfl
        rotate_left
        ·simp only [Act.put, List.setIfInBounds_toArray, List.set_cons_zero, List.set_cons_succ, i64_w, i32_w]
         rfl
        refine take_ (i := 7) (N := some 45) (v := ?_) (a' := ?_) #[true, true, true, true, true, false, true, true, false, false] rfl rfl (take_ofW HT_.out HW_.out (by kernel_rfl)) (fun _ _ _ h => h) (Or.inl ⟨by rfl, ?_⟩) hHeld ?_ ?_
        rotate_left
        ·rintro w' ⟨s0, s1, s2, s3, s4, s5⟩
         go_simp
         with_reducible rfl
        rotate_left
        ·simp only [Act.put, List.setIfInBounds_toArray, List.set_cons_zero, List.set_cons_succ, i64_w, i32_w]
         rfl
        refine one_ (i := 5) (N := some 43) #[true, true, true, true, true, true, true, true, false, false] rfl rfl (one_of HT_.out (by kernel_rfl)) (by decide) (fun K hK => ?_)
        refine goes_ Try.func18 (by kernel_rfl) rfl #[.slice A0 l0.length c0, .int .i64 a1_2, .int .i64 a1_1] (by rfl) rfl rfl margs_ ?_
        with_reducible refine (limelightref04_Retarget.calls kj15 _ _ l0 a1_2 a1_1 t255 _ ?side1 ?side2 A28.out).mono ?_
        (case side1 => exact kcb_ ((Kd.C_below HR0.out HB.out)))
        (case side2 => exact HC0.out)
        rintro e w30 ⟨rfl, hb⟩
        refine ⟨_, rfl, ?_⟩
        have n0_ := Aside0.mk (Kd.R_below (kra_ HO_5.out) hb)
        have n1_ := Aside0.mk (blk_below (g := gb247) (o := .cells #[.int .i64 a1_0, .int .i64 a1_1, .int .i64 a1_2, .bool a1_3, .bool a1_4, .bool a1_5] 25 (0, 0)) (blkx_ BK247.out) hb)
        have n2_ := Aside0.mk (below_step (belg_ GE247.out) hb)
        clear HO_5
        clear BK247
        clear HB
        have HO_5 := n0_
        have BK247 := n1_
        have HB := n2_
        clear n0_ n1_ n2_
        (try clear hb)
        (try clear hb2)
        (try clear hk)
        (try clear hi)
        refine hK.out _ _ ⟨(blk_cell BK247.out 0).trans rfl, (blk_cell BK247.out 1).trans rfl, (blk_cell BK247.out 2).trans rfl, (blk_cell BK247.out 3).trans rfl, (blk_cell BK247.out 4).trans rfl, (blk_cell BK247.out 5).trans rfl⟩ (fun hHeld => ?_)
        clear hK K
        refine norm_ (a' := ?_) ?_ ?_
        rotate_left
        ·show Act.put _ (some 43) _ = _
         simp only [Act.put, List.setIfInBounds_toArray, List.set_cons_zero, List.set_cons_succ, i64_w, i32_w]
         rfl
        refine pure_ (i := 8) (N := some 46) (v := ?_) (a' := ?_) #[true, true, true, true, true, true, true, true, true, false] rfl rfl (any_of HT_.out (by kernel_rfl)) (fun _ _ _ h => h) (Or.inl ⟨by rfl, ?_⟩) ?_ ?_
        rotate_left
        ·intro w'
         go_simp
         with_reducible rfl
        rotate_left
        ·simp only [Act.put, List.setIfInBounds_toArray, List.set_cons_zero, List.set_cons_succ, i64_w, i32_w]
         rfl
        refine pure_ (i := 9) (N := some 6) (v := ?_) (a' := ?_) #[true, true, true, true, true, true, true, true, true, true] rfl rfl (any_of HT_.out (by kernel_rfl)) (fun _ _ _ h => h) (Or.inl ⟨by rfl, ?_⟩) ?_ ?_
        rotate_left
        ·intro w'
         go_simp
         with_reducible rfl
        rotate_left
        ·simp only [Act.put, List.setIfInBounds_toArray, List.set_cons_zero, List.set_cons_succ, i64_w, i32_w]
         rfl
        refine done_ (done_of HT_.out (by kernel_rfl)) ?_
        try go_wp2
        go_meet
        case rel => exact ⟨_, ((t255 == a1_1)), (by first | rfl | (simp; done) | (simp [*]; done)), H', ⟨by have := HJ2.out; have := HJ15.out; first | omega | exact Nat.le_refl _⟩, ⟨kra_ HO_5.out⟩, ⟨blkx_ BK247.out⟩, ⟨belg_ GE247.out⟩⟩
       ·replace c27 := Bool.eq_false_iff.mpr c27
        subst c27
        have H1 : (limelightlaw07_AimHides.j2 kj15 l0 t251 false a1_0 a1_1 a1_2 a1_3 a1_4 a1_5) = some r := by rw [if_neg (show ¬ (false = true) by decide)] at H; exact H
        clear H
        have H := H1
        clear H1
        have H' := Aside0.mk H
        clear H
        go_wp2
        go_meet
        case rel => exact ⟨_, (false), (by first | rfl | (simp; done) | (simp [*]; done)), H', ⟨by have := HJ2.out; have := HJ15.out; first | omega | exact Nat.le_refl _⟩, ⟨kra_ HO_5.out⟩, ⟨blkx_ BK247.out⟩, ⟨belg_ GE247.out⟩⟩
      case rest =>
       clear HC26
       try clear c1
       try clear c2
       try clear p2
       try clear c5
       try clear c6
       try clear c8
       try clear c9
       try clear c10
       try clear c12
       try clear c14
       try clear c18
       try clear c20
       try clear c27
       try clear hcz17_0
       try clear hcz17_1
       try clear hcz17_2
       try clear hcz17_3
       try clear hcz17_4
       try clear hcz17_5
       try clear hcz21_0
       try clear hcz21_1
       try clear hcz21_2
       try clear hcz21_3
       try clear hcz21_4
       try clear hcz21_5
       try clear hcz23_0
       try clear hcz23_1
       try clear hcz23_2
       try clear hcz23_3
       try clear hcz23_4
       try clear hcz23_5
       try clear hcz24_0
       try clear hcz24_1
       try clear hcz24_2
       try clear hcz24_3
       try clear hcz24_4
       try clear hcz24_5
       try clear hcz9_0
       try clear hcz9_1
       try clear hcz9_2
       try clear hcz9_3
       try clear hcz9_4
       try clear hcz9_5
       try clear hfz17_0
       try clear hfz17_1
       try clear hfz17_2
       try clear hfz17_3
       try clear hfz17_4
       try clear hfz17_5
       try clear hfz21_0
       try clear hfz21_1
       try clear hfz21_2
       try clear hfz21_3
       try clear hfz21_4
       try clear hfz21_5
       try clear hfz23_0
       try clear hfz23_1
       try clear hfz23_2
       try clear hfz23_3
       try clear hfz23_4
       try clear hfz23_5
       try clear hfz24_0
       try clear hfz24_1
       try clear hfz24_2
       try clear hfz24_3
       try clear hfz24_4
       try clear hfz24_5
       try clear hfz9_0
       try clear hfz9_1
       try clear hfz9_2
       try clear hfz9_3
       try clear hfz9_4
       try clear hfz9_5
       try clear p2
       obtain ⟨kq, x6_25, rfl, HA, HJ25, HO_5, BK247, HB⟩ := hcut
       cases kq with
       | zero => exact absurd HA.out (by simp [limelightlaw07_AimHides.j2])
       | succ kj25 =>
        have H := HA.out
        clear HA
        simp only [limelightlaw07_AimHides.j2] at H
        by_cases c31 : (t251.length : Int) = 0
        ·rw [if_pos c31] at H
         have c31b0 : ((t251.length : Int) == 0) = true := beq_iff_eq.mpr c31
         have c31b1 : ((t251.length : Int) != 0) = false := bne_eq_false_iff_eq.mpr c31
         clear c31
         by_cases c32 : x6_25 = true
         ·subst c32
          have H1 : ((limelightlaw07_live.f).bind fun t256 => (some t256)) = some r := by rw [if_pos rfl] at H; exact H
          clear H
          have H := H1
          clear H1
          replace H := Option.bind_eq_some_iff.mp H
          obtain ⟨t256, A330, H⟩ := H
          replace H : (some t256) = some r := H
          have A33 := Aside0.mk A330
          clear A330
          obtain rfl := Option.some.inj H
          obtain ⟨Ao34, co34, eo34⟩ := Kd.R_slice HO_5.out
          subst eo34
          go_wp2_with (first | (go_at_call 9; (with_reducible refine (limelightlaw07_live.calls  t256 _ A33.out).mono ?_); rintro e w35 ⟨rfl, hb⟩; have n0_ := Aside0.mk (Kd.R_below (kra_ HO_5.out) hb); have n1_ := Aside0.mk (blk_below (g := gb247) (o := .cells #[.int .i64 a1_0, .int .i64 a1_1, .int .i64 a1_2, .bool a1_3, .bool a1_4, .bool a1_5] 25 (0, 0)) (blkx_ BK247.out) hb); have n2_ := Aside0.mk (below_step (belg_ GE247.out) hb); clear HO_5; clear BK247; clear HB; have HO_5 := n0_; have BK247 := n1_; have HB := n2_; clear n0_ n1_ n2_; (try clear hb); (try clear hb2); (try clear hk); (try clear hi)))
          go_ret
          exact ⟨by first | rfl | (simp [errW_none, errW_some] <;> rfl) | (simp [*, errW_none, errW_some] <;> rfl), belg_ GE247.out⟩
         ·replace c32 := Bool.eq_false_iff.mpr c32
          subst c32
          have H1 : (none) = some r := by rw [if_neg (show ¬ (false = true) by decide)] at H; exact H
          clear H
          have H := H1
          clear H1
          exact absurd H (by simp)
        ·rw [if_neg c31] at H
         have c31b0 : ((t251.length : Int) == 0) = false := beq_eq_false_iff_ne.mpr c31
         have c31b1 : ((t251.length : Int) != 0) = true := bne_iff_ne.mpr c31
         have c31b2 : ¬ (t251 = []) := fun h_ => c31 (by rw [h_]; rfl)
         have HC36 := Aside0.mk H
         clear H
         obtain ⟨Ao37, co37, eo37⟩ := Kd.R_slice HO_5.out
         subst eo37
         go_upto_region 9 with (fail)
         go_cut [72] (fun v72 wc => ∃ (kq : Nat) (x72_35 : Bool), v72 = .bool x72_35 ∧ Aside0 (limelightlaw07_AimHides.j3 kq l0 t251 x72_35 = some r) ∧ Aside0 (kq ≤ kj25) ∧ Aside0 (Kd.R k36 36 wc w.heap.size (fun _ => True) (.slice Ao37 t251.length co37) t251) ∧ Aside0 (wc.heap[gb247]? = some (.cells #[.int .i64 a1_0, .int .i64 a1_1, .int .i64 a1_2, .bool a1_3, .bool a1_4, .bool a1_5] 25 (0, 0))) ∧ Aside0 (Below w.heap.size w wc))
         case first =>
          have H := HC36.out
          clear HC36
          by_cases c38 : x6_25 = true
          ·subst c38
           have H1 : (limelightlaw07_AimHides.j3 kj25 l0 t251 true) = some r := by rw [if_pos rfl] at H; exact H
           clear H
           have H := H1
           clear H1
           have H' := Aside0.mk H
           clear H
           try go_wp2
           have n0_ := Aside0.mk (Kd.R_drew HO_5.out)
           have n1_ := Aside0.mk (blk_drew BK247.out)
           have n2_ := Aside0.mk (below_drew1 HB.out)
           clear HO_5
           clear BK247
           clear HB
           have HO_5 := n0_
           have BK247 := n1_
           have HB := n2_
           clear n0_ n1_ n2_
           refine start_ (n := 19) (S := fun w' => True) (ds := []) #[false, false, false, false, false, false, false, false, false, false, false, false, false, false, false, false, false, false, false] (by kernel_rfl) rfl rfl trivial (fun hHeld => ?_); refine with_tabW limelightlaw07_AimHides.tab9 limelightlaw07_AimHides.bits9 (fun HT_ HW_ => ?_)
           generalize wc.drew = w39 at HO_5 BK247 HB hHeld ⊢
           refine pure_ (i := 0) (N := some 54) (v := ?_) (a' := ?_) #[true, false, false, false, false, false, false, false, false, false, false, false, false, false, false, false, false, false, false] rfl rfl (any_of HT_.out (by kernel_rfl)) (fun _ _ _ h => h) (Or.inl ⟨by rfl, ?_⟩) ?_ ?_
           rotate_left
           ·intro w'
            go_simp
            with_reducible rfl
           rotate_left
           ·simp only [Act.put, List.setIfInBounds_toArray, List.set_cons_zero, List.set_cons_succ, i64_w, i32_w]
            rfl
           refine pure_ (i := 1) (N := some 55) (v := ?_) (a' := ?_) #[true, true, false, false, false, false, false, false, false, false, false, false, false, false, false, false, false, false, false] rfl rfl (any_of HT_.out (by kernel_rfl)) (fun _ _ _ h => h) (Or.inl ⟨by rfl, ?_⟩) ?_ ?_
           rotate_left
           ·intro w'
            go_simp
            with_reducible rfl
           rotate_left
           ·simp only [Act.put, List.setIfInBounds_toArray, List.set_cons_zero, List.set_cons_succ, i64_w, i32_w]
            rfl
           refine pure_ (i := 2) (N := some 56) (v := undef) (a' := ?_) #[true, true, true, false, false, false, false, false, false, false, false, false, false, false, false, false, false, false, false] rfl rfl (any_of HT_.out (by kernel_rfl)) (fun _ _ _ h => h) (Or.inr ⟨by rfl, rfl⟩) ?_ ?_
           rotate_left
           ·simp only [Act.put, List.setIfInBounds_toArray, List.set_cons_zero, List.set_cons_succ, i64_w, i32_w]
            rfl
           refine pure_ (i := 3) (N := some 57) (v := undef) (a' := ?_) #[true, true, true, true, false, false, false, false, false, false, false, false, false, false, false, false, false, false, false] rfl rfl (any_of HT_.out (by kernel_rfl)) (fun _ _ _ h => h) (Or.inr ⟨by rfl, rfl⟩) ?_ ?_
           rotate_left
           ·simp only [Act.put, List.setIfInBounds_toArray, List.set_cons_zero, List.set_cons_succ, i64_w, i32_w]
            rfl
           refine pure_ (i := 4) (N := some 58) (v := undef) (a' := ?_) #[true, true, true, true, true, false, false, false, false, false, false, false, false, false, false, false, false, false, false] rfl rfl (any_of HT_.out (by kernel_rfl)) (fun _ _ _ h => h) (Or.inr ⟨by rfl, rfl⟩) ?_ ?_
           rotate_left
           ·simp only [Act.put, List.setIfInBounds_toArray, List.set_cons_zero, List.set_cons_succ, i64_w, i32_w]
            rfl
           refine pure_ (i := 5) (N := some 59) (v := undef) (a' := ?_) #[true, true, true, true, true, true, false, false, false, false, false, false, false, false, false, false, false, false, false] rfl rfl (any_of HT_.out (by kernel_rfl)) (fun _ _ _ h => h) (Or.inr ⟨by rfl, rfl⟩) ?_ ?_
           rotate_left
           ·simp only [Act.put, List.setIfInBounds_toArray, List.set_cons_zero, List.set_cons_succ, i64_w, i32_w]
            rfl
           refine pure_ (i := 6) (N := some 60) (v := undef) (a' := ?_) #[true, true, true, true, true, true, true, false, false, false, false, false, false, false, false, false, false, false, false] rfl rfl (any_of HT_.out (by kernel_rfl)) (fun _ _ _ h => h) (Or.inr ⟨by rfl, rfl⟩) ?_ ?_
           rotate_left
           ·simp only [Act.put, List.setIfInBounds_toArray, List.set_cons_zero, List.set_cons_succ, i64_w, i32_w]
            rfl
           refine pure_ (i := 7) (N := some 61) (v := undef) (a' := ?_) #[true, true, true, true, true, true, true, true, false, false, false, false, false, false, false, false, false, false, false] rfl rfl (any_of HT_.out (by kernel_rfl)) (fun _ _ _ h => h) (Or.inr ⟨by rfl, rfl⟩) ?_ ?_
           rotate_left
           ·simp only [Act.put, List.setIfInBounds_toArray, List.set_cons_zero, List.set_cons_succ, i64_w, i32_w]
            rfl
           refine pure_ (i := 8) (N := some 62) (v := undef) (a' := ?_) #[true, true, true, true, true, true, true, true, true, false, false, false, false, false, false, false, false, false, false] rfl rfl (any_of HT_.out (by kernel_rfl)) (fun _ _ _ h => h) (Or.inr ⟨by rfl, rfl⟩) ?_ ?_
           rotate_left
           ·simp only [Act.put, List.setIfInBounds_toArray, List.set_cons_zero, List.set_cons_succ, i64_w, i32_w]
            rfl
           refine pure_ (i := 9) (N := some 63) (v := ?_) (a' := ?_) #[true, true, true, true, true, true, true, true, true, true, false, false, false, false, false, false, false, false, false] rfl rfl (any_of HT_.out (by kernel_rfl)) (fun _ _ _ h => h) (Or.inl ⟨by rfl, ?_⟩) ?_ ?_
           rotate_left
           ·intro w'
            go_simp
            with_reducible rfl
           rotate_left
           ·simp only [Act.put, List.setIfInBounds_toArray, List.set_cons_zero, List.set_cons_succ, i64_w, i32_w]
            rfl
           refine pure_ (i := 10) (N := some 64) (v := ?_) (a' := ?_) #[true, true, true, true, true, true, true, true, true, true, true, false, false, false, false, false, false, false, false] rfl rfl (any_of HT_.out (by kernel_rfl)) (fun _ _ _ h => h) (Or.inl ⟨by rfl, ?_⟩) ?_ ?_
           rotate_left
           ·intro w'
            go_simp
            with_reducible rfl
           rotate_left
           ·simp only [Act.put, List.setIfInBounds_toArray, List.set_cons_zero, List.set_cons_succ, i64_w, i32_w]
            rfl
           refine pure_ (i := 11) (N := some 65) (v := undef) (a' := ?_) #[true, true, true, true, true, true, true, true, true, true, true, true, false, false, false, false, false, false, false] rfl rfl (any_of HT_.out (by kernel_rfl)) (fun _ _ _ h => h) (Or.inr ⟨by rfl, rfl⟩) ?_ ?_
           rotate_left
           ·simp only [Act.put, List.setIfInBounds_toArray, List.set_cons_zero, List.set_cons_succ, i64_w, i32_w]
            rfl
           refine pure_ (i := 12) (N := some 66) (v := undef) (a' := ?_) #[true, true, true, true, true, true, true, true, true, true, true, true, true, false, false, false, false, false, false] rfl rfl (any_of HT_.out (by kernel_rfl)) (fun _ _ _ h => h) (Or.inr ⟨by rfl, rfl⟩) ?_ ?_
           rotate_left
           ·simp only [Act.put, List.setIfInBounds_toArray, List.set_cons_zero, List.set_cons_succ, i64_w, i32_w]
            rfl
           refine pure_ (i := 13) (N := some 67) (v := undef) (a' := ?_) #[true, true, true, true, true, true, true, true, true, true, true, true, true, true, false, false, false, false, false] rfl rfl (any_of HT_.out (by kernel_rfl)) (fun _ _ _ h => h) (Or.inr ⟨by rfl, rfl⟩) ?_ ?_
           rotate_left
           ·simp only [Act.put, List.setIfInBounds_toArray, List.set_cons_zero, List.set_cons_succ, i64_w, i32_w]
            rfl
           refine pure_ (i := 14) (N := some 68) (v := undef) (a' := ?_) #[true, true, true, true, true, true, true, true, true, true, true, true, true, true, true, false, false, false, false] rfl rfl (any_of HT_.out (by kernel_rfl)) (fun _ _ _ h => h) (Or.inr ⟨by rfl, rfl⟩) ?_ ?_
           rotate_left
           ·simp only [Act.put, List.setIfInBounds_toArray, List.set_cons_zero, List.set_cons_succ, i64_w, i32_w]
            rfl
           refine pure_ (i := 15) (N := some 69) (v := undef) (a' := ?_) #[true, true, true, true, true, true, true, true, true, true, true, true, true, true, true, true, false, false, false] rfl rfl (any_of HT_.out (by kernel_rfl)) (fun _ _ _ h => h) (Or.inr ⟨by rfl, rfl⟩) ?_ ?_
           rotate_left
           ·simp only [Act.put, List.setIfInBounds_toArray, List.set_cons_zero, List.set_cons_succ, i64_w, i32_w]
            rfl
           refine pure_ (i := 16) (N := some 70) (v := undef) (a' := ?_) #[true, true, true, true, true, true, true, true, true, true, true, true, true, true, true, true, true, false, false] rfl rfl (any_of HT_.out (by kernel_rfl)) (fun _ _ _ h => h) (Or.inr ⟨by rfl, rfl⟩) ?_ ?_
           rotate_left
           ·simp only [Act.put, List.setIfInBounds_toArray, List.set_cons_zero, List.set_cons_succ, i64_w, i32_w]
            rfl
           refine pure_ (i := 17) (N := some 71) (v := undef) (a' := ?_) #[true, true, true, true, true, true, true, true, true, true, true, true, true, true, true, true, true, true, false] rfl rfl (any_of HT_.out (by kernel_rfl)) (fun _ _ _ h => h) (Or.inr ⟨by rfl, rfl⟩) ?_ ?_
           rotate_left
           ·simp only [Act.put, List.setIfInBounds_toArray, List.set_cons_zero, List.set_cons_succ, i64_w, i32_w]
            rfl
           refine pure_ (i := 18) (N := some 72) (v := ?_) (a' := ?_) #[true, true, true, true, true, true, true, true, true, true, true, true, true, true, true, true, true, true, true] rfl rfl (any_of HT_.out (by kernel_rfl)) (fun _ _ _ h => h) (Or.inl ⟨by rfl, ?_⟩) ?_ ?_
           rotate_left
           ·intro w'
            go_simp
            with_reducible rfl
           rotate_left
           ·simp only [Act.put, List.setIfInBounds_toArray, List.set_cons_zero, List.set_cons_succ, i64_w, i32_w]
            rfl
           refine done_ (done_of HT_.out (by kernel_rfl)) ?_
           try go_wp2
           go_meet
           case rel => exact ⟨_, (true), (by first | rfl | (simp; done) | (simp [*]; done)), H', ⟨by have := HJ2.out; have := HJ15.out; have := HJ25.out; first | omega | exact Nat.le_refl _⟩, ⟨kra_ HO_5.out⟩, ⟨blkx_ BK247.out⟩, ⟨belg_ GE247.out⟩⟩
          ·replace c38 := Bool.eq_false_iff.mpr c38
           subst c38
           have H1 : (if 0 < (t251.length : Int) then (if ((rd_T36 t251 0).f0) = a1_1 then (limelightlaw07_AimHides.j3 kj25 l0 t251 (((rd_T36 t251 0).f1) != a1_1)) else (limelightlaw07_AimHides.j3 kj25 l0 t251 true)) else (none)) = some r := by rw [if_neg (show ¬ (false = true) by decide)] at H; exact H
           clear H
           have H := H1
           clear H1
           by_cases c40 : 0 < (t251.length : Int)
           ·rw [if_pos c40] at H
            have c40b0 : decide (0 < (t251.length : Int)) = true := decide_eq_true c40
            have c40b1 : decide (0 < t251.length) = true := decide_eq_true (by omega)
            clear c40
            (first | rw [c40b0] | (simp only [i64_w, i32_w]; rw [c40b0]) | skip)
            by_cases c41 : ((rd_T36 t251 0).f0) = a1_1
            ·rw [if_pos c41] at H
             have c41b0 : (((rd_T36 t251 0).f0) == a1_1) = true := beq_iff_eq.mpr c41
             have c41b1 : (((rd_T36 t251 0).f0) != a1_1) = false := bne_eq_false_iff_eq.mpr c41
             clear c41
             have H' := Aside0.mk H
             clear H
             try go_wp2
             have n0_ := Aside0.mk (Kd.R_drew HO_5.out)
             have n1_ := Aside0.mk (blk_drew BK247.out)
             have n2_ := Aside0.mk (below_drew1 HB.out)
             clear HO_5
             clear BK247
             clear HB
             have HO_5 := n0_
             have BK247 := n1_
             have HB := n2_
             clear n0_ n1_ n2_
             have p257 : 0 ≤ (0 : Int) := (by omega)
             have q257 : 0 < (t251.length : Int) := of_decide_eq_true asm_
             obtain ⟨ad257, e257, hx257_0, hx257_1, hx257_2⟩ := at_T36 (Kd.R_reads' HO_5.out).2.2 0 p257 q257
             cases e257
             have qi257 : (0 < t251.length) = True := eq_true (by omega)
             (try rw [show ((0 : Int)).toNat = 0 from rfl] at hx257_0)
             (try rw [show 0 * 3 = 0 from rfl] at hx257_0)
             (try rw [Addr.add_zero'] at hx257_0)
             (try rw [show ((0 : Int)).toNat = 0 from rfl] at hx257_1)
             (try rw [show 0 * 3 = 0 from rfl] at hx257_1)
             (try rw [Addr.add_zero'] at hx257_1)
             (try rw [show ((0 : Int)).toNat = 0 from rfl] at hx257_2)
             (try rw [show 0 * 3 = 0 from rfl] at hx257_2)
             (try rw [Addr.add_zero'] at hx257_2)
             replace p257 := eq_true p257
             replace q257 := eq_true q257
             have p258 : 0 ≤ (0 : Int) := (by omega)
             have q258 : 0 < (t251.length : Int) := of_decide_eq_true asm_
             obtain ⟨ad258, e258, hx258_0, hx258_1, hx258_2⟩ := at_T36 (Kd.R_reads' HO_5.out).2.2 0 p258 q258
             obtain rfl : ad257 = ad258 := (by injection e258)
             have qi258 : (0 < t251.length) = True := eq_true (by omega)
             (try rw [show ((0 : Int)).toNat = 0 from rfl] at hx258_0)
             (try rw [show 0 * 3 = 0 from rfl] at hx258_0)
             (try rw [Addr.add_zero'] at hx258_0)
             (try rw [show ((0 : Int)).toNat = 0 from rfl] at hx258_1)
             (try rw [show 0 * 3 = 0 from rfl] at hx258_1)
             (try rw [Addr.add_zero'] at hx258_1)
             (try rw [show ((0 : Int)).toNat = 0 from rfl] at hx258_2)
             (try rw [show 0 * 3 = 0 from rfl] at hx258_2)
             (try rw [Addr.add_zero'] at hx258_2)
             replace p258 := eq_true p258
             replace q258 := eq_true q258
             refine start_ (n := 19) (S := fun w' => w'.cell? ⟨gb247, 0, none⟩ = some (.int .i64 a1_0) ∧ w'.cell? ⟨gb247, 1, none⟩ = some (.int .i64 a1_1) ∧ w'.cell? ⟨gb247, 2, none⟩ = some (.int .i64 a1_2) ∧ w'.cell? ⟨gb247, 3, none⟩ = some (.bool a1_3) ∧ w'.cell? ⟨gb247, 4, none⟩ = some (.bool a1_4) ∧ w'.cell? ⟨gb247, 5, none⟩ = some (.bool a1_5) ∧ w'.cell? ad257 = some (.int .i64 ((rd_T36 t251 0).f0)) ∧ w'.cell? ⟨ad257.block, ad257.off + 1, none⟩ = some (.int .i64 ((rd_T36 t251 0).f1)) ∧ w'.cell? ⟨ad257.block, ad257.off + 2, none⟩ = some (.int .i64 ((rd_T36 t251 0).f2)) ∧ w'.cell? ad257 = some (.int .i64 ((rd_T36 t251 0).f0)) ∧ w'.cell? ⟨ad257.block, ad257.off + 1, none⟩ = some (.int .i64 ((rd_T36 t251 0).f1)) ∧ w'.cell? ⟨ad257.block, ad257.off + 2, none⟩ = some (.int .i64 ((rd_T36 t251 0).f2))) (ds := []) #[false, false, false, false, false, false, false, false, false, false, false, false, false, false, false, false, false, false, false] (by kernel_rfl) rfl rfl ⟨(blk_cell BK247.out 0).trans rfl, (blk_cell BK247.out 1).trans rfl, (blk_cell BK247.out 2).trans rfl, (blk_cell BK247.out 3).trans rfl, (blk_cell BK247.out 4).trans rfl, (blk_cell BK247.out 5).trans rfl, hx257_0, hx257_1, hx257_2, hx258_0, hx258_1, hx258_2⟩ (fun hHeld => ?_); refine with_tabW limelightlaw07_AimHides.tab9 limelightlaw07_AimHides.bits9 (fun HT_ HW_ => ?_)
             generalize wc.drew = w42 at HO_5 BK247 HB hx257_0 hx257_1 hx257_2 hx258_0 hx258_1 hx258_2 hHeld ⊢
             refine pure_ (i := 0) (N := some 54) (v := ?_) (a' := ?_) #[true, false, false, false, false, false, false, false, false, false, false, false, false, false, false, false, false, false, false] rfl rfl (any_of HT_.out (by kernel_rfl)) (fun _ _ _ h => h) (Or.inl ⟨by rfl, ?_⟩) ?_ ?_
             rotate_left
             ·intro w'
              go_simp
              with_reducible rfl
             rotate_left
             ·simp only [Act.put, List.setIfInBounds_toArray, List.set_cons_zero, List.set_cons_succ, i64_w, i32_w]
              rfl
             refine pure_ (i := 1) (N := some 55) (v := ?_) (a' := ?_) #[true, true, false, false, false, false, false, false, false, false, false, false, false, false, false, false, false, false, false] rfl rfl (any_of HT_.out (by kernel_rfl)) (fun _ _ _ h => h) (Or.inl ⟨by rfl, ?_⟩) ?_ ?_
             rotate_left
             ·intro w'
              go_simp
              with_reducible rfl
             rotate_left
             ·simp only [Act.put, List.setIfInBounds_toArray, List.set_cons_zero, List.set_cons_succ, i64_w, i32_w]
              rfl
             refine pure_ (i := 2) (N := some 56) (v := ?_) (a' := ?_) #[true, true, true, false, false, false, false, false, false, false, false, false, false, false, false, false, false, false, false] rfl rfl (any_of HT_.out (by kernel_rfl)) (fun _ _ _ h => h) (Or.inl ⟨by rfl, ?_⟩) ?_ ?_
             rotate_left
             ·intro w'
              go_simp
              with_reducible rfl
             rotate_left
             ·simp only [Act.put, List.setIfInBounds_toArray, List.set_cons_zero, List.set_cons_succ, i64_w, i32_w]
              rfl
             refine pure_ (i := 3) (N := some 57) (v := ?_) (a' := ?_) #[true, true, true, true, false, false, false, false, false, false, false, false, false, false, false, false, false, false, false] rfl rfl (any_of HT_.out (by kernel_rfl)) (fun _ _ _ h => h) (Or.inl ⟨by rfl, ?_⟩) ?_ ?_
             rotate_left
             ·intro w'
              go_simp
              with_reducible rfl
             rotate_left
             ·simp only [Act.put, List.setIfInBounds_toArray, List.set_cons_zero, List.set_cons_succ, i64_w, i32_w]
              rfl
             refine pure_ (i := 4) (N := some 58) (v := ?_) (a' := ?_) #[true, true, true, true, true, false, false, false, false, false, false, false, false, false, false, false, false, false, false] rfl rfl (any_of HT_.out (by kernel_rfl)) (fun _ _ _ h => h) (Or.inl ⟨by rfl, ?_⟩) ?_ ?_
             rotate_left
             ·intro w'
              go_simp
              with_reducible rfl
             rotate_left
             ·simp only [Act.put, List.setIfInBounds_toArray, List.set_cons_zero, List.set_cons_succ, i64_w, i32_w]
              rfl
             refine pure_ (i := 6) (N := some 60) (v := ?_) (a' := ?_) #[true, true, true, true, true, false, true, false, false, false, false, false, false, false, false, false, false, false, false] rfl rfl (any_of HT_.out (by kernel_rfl)) (fun _ _ _ h => h) (Or.inl ⟨by rfl, ?_⟩) ?_ ?_
             rotate_left
             ·intro w'
              go_simp
              with_reducible rfl
             rotate_left
             ·simp only [Act.put, List.setIfInBounds_toArray, List.set_cons_zero, List.set_cons_succ, i64_w, i32_w]
              rfl
             refine take_ (i := 5) (N := some 59) (v := ?_) (a' := ?_) #[true, true, true, true, true, true, true, false, false, false, false, false, false, false, false, false, false, false, false] rfl rfl (take_ofW HT_.out HW_.out (by kernel_rfl)) (fun _ _ _ h => h) (Or.inl ⟨by rfl, ?_⟩) hHeld ?_ ?_
             rotate_left
             ·rintro w' ⟨s0, s1, s2, s3, s4, s5, s6, s7, s8, s9, s10, s11⟩
              go_simp
              with_reducible rfl
             rotate_left
             ·simp only [Act.put, List.setIfInBounds_toArray, List.set_cons_zero, List.set_cons_succ, i64_w, i32_w]
              rfl
             refine take_ (i := 7) (N := some 61) (v := ?_) (a' := ?_) #[true, true, true, true, true, true, true, true, false, false, false, false, false, false, false, false, false, false, false] rfl rfl (take_ofW HT_.out HW_.out (by kernel_rfl)) (fun _ _ _ h => h) (Or.inl ⟨by rfl, ?_⟩) hHeld ?_ ?_
             rotate_left
             ·rintro w' ⟨s0, s1, s2, s3, s4, s5, s6, s7, s8, s9, s10, s11⟩
              go_simp
              with_reducible rfl
             rotate_left
             ·simp only [Act.put, List.setIfInBounds_toArray, List.set_cons_zero, List.set_cons_succ, i64_w, i32_w]
              rfl
             refine pure_ (i := 8) (N := some 62) (v := ?_) (a' := ?_) #[true, true, true, true, true, true, true, true, true, false, false, false, false, false, false, false, false, false, false] rfl rfl (any_of HT_.out (by kernel_rfl)) (fun _ _ _ h => h) (Or.inl ⟨by rfl, ?_⟩) ?_ ?_
             rotate_left
             ·intro w'
              go_simp
              with_reducible rfl
             rotate_left
             ·simp only [Act.put, List.setIfInBounds_toArray, List.set_cons_zero, List.set_cons_succ, i64_w, i32_w]
              rfl
             refine pure_ (i := 9) (N := some 63) (v := ?_) (a' := ?_) #[true, true, true, true, true, true, true, true, true, true, false, false, false, false, false, false, false, false, false] rfl rfl (any_of HT_.out (by kernel_rfl)) (fun _ _ _ h => h) (Or.inl ⟨by rfl, ?_⟩) ?_ ?_
             rotate_left
             ·intro w'
              go_simp
              with_reducible rfl
             rotate_left
             ·simp only [Act.put, List.setIfInBounds_toArray, List.set_cons_zero, List.set_cons_succ, i64_w, i32_w]
              rfl
             refine pure_ (i := 10) (N := some 64) (v := ?_) (a' := ?_) #[true, true, true, true, true, true, true, true, true, true, true, false, false, false, false, false, false, false, false] rfl rfl (any_of HT_.out (by kernel_rfl)) (fun _ _ _ h => h) (Or.inl ⟨by rfl, ?_⟩) ?_ ?_
             rotate_left
             ·intro w'
              go_simp
              with_reducible rfl
             rotate_left
             ·simp only [Act.put, List.setIfInBounds_toArray, List.set_cons_zero, List.set_cons_succ, i64_w, i32_w]
              rfl
             refine pure_ (i := 11) (N := some 65) (v := ?_) (a' := ?_) #[true, true, true, true, true, true, true, true, true, true, true, true, false, false, false, false, false, false, false] rfl rfl (any_of HT_.out (by kernel_rfl)) (fun _ _ _ h => h) (Or.inl ⟨by rfl, ?_⟩) ?_ ?_
             rotate_left
             ·intro w'
              go_simp
              with_reducible rfl
             rotate_left
             ·simp only [Act.put, List.setIfInBounds_toArray, List.set_cons_zero, List.set_cons_succ, i64_w, i32_w]
              rfl
             refine pure_ (i := 12) (N := some 66) (v := ?_) (a' := ?_) #[true, true, true, true, true, true, true, true, true, true, true, true, true, false, false, false, false, false, false] rfl rfl (any_of HT_.out (by kernel_rfl)) (fun _ _ _ h => h) (Or.inl ⟨by rfl, ?_⟩) ?_ ?_
             rotate_left
             ·intro w'
              go_simp
              with_reducible rfl
             rotate_left
             ·simp only [Act.put, List.setIfInBounds_toArray, List.set_cons_zero, List.set_cons_succ, i64_w, i32_w]
              rfl
             refine pure_ (i := 13) (N := some 67) (v := ?_) (a' := ?_) #[true, true, true, true, true, true, true, true, true, true, true, true, true, true, false, false, false, false, false] rfl rfl (any_of HT_.out (by kernel_rfl)) (fun _ _ _ h => h) (Or.inl ⟨by rfl, ?_⟩) ?_ ?_
             rotate_left
             ·intro w'
              go_simp
              with_reducible rfl
             rotate_left
             ·simp only [Act.put, List.setIfInBounds_toArray, List.set_cons_zero, List.set_cons_succ, i64_w, i32_w]
              rfl
             refine pure_ (i := 15) (N := some 69) (v := ?_) (a' := ?_) #[true, true, true, true, true, true, true, true, true, true, true, true, true, true, false, true, false, false, false] rfl rfl (any_of HT_.out (by kernel_rfl)) (fun _ _ _ h => h) (Or.inl ⟨by rfl, ?_⟩) ?_ ?_
             rotate_left
             ·intro w'
              go_simp
              with_reducible rfl
             rotate_left
             ·simp only [Act.put, List.setIfInBounds_toArray, List.set_cons_zero, List.set_cons_succ, i64_w, i32_w]
              rfl
             refine take_ (i := 14) (N := some 68) (v := ?_) (a' := ?_) #[true, true, true, true, true, true, true, true, true, true, true, true, true, true, true, true, false, false, false] rfl rfl (take_ofW HT_.out HW_.out (by kernel_rfl)) (fun _ _ _ h => h) (Or.inl ⟨by rfl, ?_⟩) hHeld ?_ ?_
             rotate_left
             ·rintro w' ⟨s0, s1, s2, s3, s4, s5, s6, s7, s8, s9, s10, s11⟩
              go_simp
              with_reducible rfl
             rotate_left
             ·simp only [Act.put, List.setIfInBounds_toArray, List.set_cons_zero, List.set_cons_succ, i64_w, i32_w]
              rfl
             refine take_ (i := 16) (N := some 70) (v := ?_) (a' := ?_) #[true, true, true, true, true, true, true, true, true, true, true, true, true, true, true, true, true, false, false] rfl rfl (take_ofW HT_.out HW_.out (by kernel_rfl)) (fun _ _ _ h => h) (Or.inl ⟨by rfl, ?_⟩) hHeld ?_ ?_
             rotate_left
             ·rintro w' ⟨s0, s1, s2, s3, s4, s5, s6, s7, s8, s9, s10, s11⟩
              go_simp
              with_reducible rfl
             rotate_left
             ·simp only [Act.put, List.setIfInBounds_toArray, List.set_cons_zero, List.set_cons_succ, i64_w, i32_w]
              rfl
             refine pure_ (i := 17) (N := some 71) (v := ?_) (a' := ?_) #[true, true, true, true, true, true, true, true, true, true, true, true, true, true, true, true, true, true, false] rfl rfl (any_of HT_.out (by kernel_rfl)) (fun _ _ _ h => h) (Or.inl ⟨by rfl, ?_⟩) ?_ ?_
             rotate_left
             ·intro w'
              go_simp
              with_reducible rfl
             rotate_left
             ·simp only [Act.put, List.setIfInBounds_toArray, List.set_cons_zero, List.set_cons_succ, i64_w, i32_w]
              rfl
             refine pure_ (i := 18) (N := some 72) (v := ?_) (a' := ?_) #[true, true, true, true, true, true, true, true, true, true, true, true, true, true, true, true, true, true, true] rfl rfl (any_of HT_.out (by kernel_rfl)) (fun _ _ _ h => h) (Or.inl ⟨by rfl, ?_⟩) ?_ ?_
             rotate_left
             ·intro w'
              go_simp
              with_reducible rfl
             rotate_left
             ·simp only [Act.put, List.setIfInBounds_toArray, List.set_cons_zero, List.set_cons_succ, i64_w, i32_w]
              rfl
             refine done_ (done_of HT_.out (by kernel_rfl)) ?_
             try go_wp2
             go_meet
             case rel => exact ⟨_, ((((rd_T36 t251 0).f1) != a1_1)), (by first | rfl | (simp; done) | (simp [*]; done)), H', ⟨by have := HJ2.out; have := HJ15.out; have := HJ25.out; first | omega | exact Nat.le_refl _⟩, ⟨kra_ HO_5.out⟩, ⟨blkx_ BK247.out⟩, ⟨belg_ GE247.out⟩⟩
            ·rw [if_neg c41] at H
             have c41b0 : (((rd_T36 t251 0).f0) == a1_1) = false := beq_eq_false_iff_ne.mpr c41
             have c41b1 : (((rd_T36 t251 0).f0) != a1_1) = true := bne_iff_ne.mpr c41
             have H' := Aside0.mk H
             clear H
             try go_wp2
             have n0_ := Aside0.mk (Kd.R_drew HO_5.out)
             have n1_ := Aside0.mk (blk_drew BK247.out)
             have n2_ := Aside0.mk (below_drew1 HB.out)
             clear HO_5
             clear BK247
             clear HB
             have HO_5 := n0_
             have BK247 := n1_
             have HB := n2_
             clear n0_ n1_ n2_
             have p257 : 0 ≤ (0 : Int) := (by omega)
             have q257 : 0 < (t251.length : Int) := of_decide_eq_true asm_
             obtain ⟨ad257, e257, hx257_0, hx257_1, hx257_2⟩ := at_T36 (Kd.R_reads' HO_5.out).2.2 0 p257 q257
             cases e257
             have qi257 : (0 < t251.length) = True := eq_true (by omega)
             (try rw [show ((0 : Int)).toNat = 0 from rfl] at hx257_0)
             (try rw [show 0 * 3 = 0 from rfl] at hx257_0)
             (try rw [Addr.add_zero'] at hx257_0)
             (try rw [show ((0 : Int)).toNat = 0 from rfl] at hx257_1)
             (try rw [show 0 * 3 = 0 from rfl] at hx257_1)
             (try rw [Addr.add_zero'] at hx257_1)
             (try rw [show ((0 : Int)).toNat = 0 from rfl] at hx257_2)
             (try rw [show 0 * 3 = 0 from rfl] at hx257_2)
             (try rw [Addr.add_zero'] at hx257_2)
             replace p257 := eq_true p257
             replace q257 := eq_true q257
             refine start_ (n := 19) (S := fun w' => w'.cell? ⟨gb247, 0, none⟩ = some (.int .i64 a1_0) ∧ w'.cell? ⟨gb247, 1, none⟩ = some (.int .i64 a1_1) ∧ w'.cell? ⟨gb247, 2, none⟩ = some (.int .i64 a1_2) ∧ w'.cell? ⟨gb247, 3, none⟩ = some (.bool a1_3) ∧ w'.cell? ⟨gb247, 4, none⟩ = some (.bool a1_4) ∧ w'.cell? ⟨gb247, 5, none⟩ = some (.bool a1_5) ∧ w'.cell? ad257 = some (.int .i64 ((rd_T36 t251 0).f0)) ∧ w'.cell? ⟨ad257.block, ad257.off + 1, none⟩ = some (.int .i64 ((rd_T36 t251 0).f1)) ∧ w'.cell? ⟨ad257.block, ad257.off + 2, none⟩ = some (.int .i64 ((rd_T36 t251 0).f2))) (ds := []) #[false, false, false, false, false, false, false, false, false, false, false, false, false, false, false, false, false, false, false] (by kernel_rfl) rfl rfl ⟨(blk_cell BK247.out 0).trans rfl, (blk_cell BK247.out 1).trans rfl, (blk_cell BK247.out 2).trans rfl, (blk_cell BK247.out 3).trans rfl, (blk_cell BK247.out 4).trans rfl, (blk_cell BK247.out 5).trans rfl, hx257_0, hx257_1, hx257_2⟩ (fun hHeld => ?_); refine with_tabW limelightlaw07_AimHides.tab9 limelightlaw07_AimHides.bits9 (fun HT_ HW_ => ?_)
             generalize wc.drew = w43 at HO_5 BK247 HB hx257_0 hx257_1 hx257_2 hHeld ⊢
             refine pure_ (i := 0) (N := some 54) (v := ?_) (a' := ?_) #[true, false, false, false, false, false, false, false, false, false, false, false, false, false, false, false, false, false, false] rfl rfl (any_of HT_.out (by kernel_rfl)) (fun _ _ _ h => h) (Or.inl ⟨by rfl, ?_⟩) ?_ ?_
             rotate_left
             ·intro w'
              go_simp
              with_reducible rfl
             rotate_left
             ·simp only [Act.put, List.setIfInBounds_toArray, List.set_cons_zero, List.set_cons_succ, i64_w, i32_w]
              rfl
             refine pure_ (i := 1) (N := some 55) (v := ?_) (a' := ?_) #[true, true, false, false, false, false, false, false, false, false, false, false, false, false, false, false, false, false, false] rfl rfl (any_of HT_.out (by kernel_rfl)) (fun _ _ _ h => h) (Or.inl ⟨by rfl, ?_⟩) ?_ ?_
             rotate_left
             ·intro w'
              go_simp
              with_reducible rfl
             rotate_left
             ·simp only [Act.put, List.setIfInBounds_toArray, List.set_cons_zero, List.set_cons_succ, i64_w, i32_w]
              rfl
             refine pure_ (i := 2) (N := some 56) (v := ?_) (a' := ?_) #[true, true, true, false, false, false, false, false, false, false, false, false, false, false, false, false, false, false, false] rfl rfl (any_of HT_.out (by kernel_rfl)) (fun _ _ _ h => h) (Or.inl ⟨by rfl, ?_⟩) ?_ ?_
             rotate_left
             ·intro w'
              go_simp
              with_reducible rfl
             rotate_left
             ·simp only [Act.put, List.setIfInBounds_toArray, List.set_cons_zero, List.set_cons_succ, i64_w, i32_w]
              rfl
             refine pure_ (i := 3) (N := some 57) (v := ?_) (a' := ?_) #[true, true, true, true, false, false, false, false, false, false, false, false, false, false, false, false, false, false, false] rfl rfl (any_of HT_.out (by kernel_rfl)) (fun _ _ _ h => h) (Or.inl ⟨by rfl, ?_⟩) ?_ ?_
             rotate_left
             ·intro w'
              go_simp
              with_reducible rfl
             rotate_left
             ·simp only [Act.put, List.setIfInBounds_toArray, List.set_cons_zero, List.set_cons_succ, i64_w, i32_w]
              rfl
             refine pure_ (i := 4) (N := some 58) (v := ?_) (a' := ?_) #[true, true, true, true, true, false, false, false, false, false, false, false, false, false, false, false, false, false, false] rfl rfl (any_of HT_.out (by kernel_rfl)) (fun _ _ _ h => h) (Or.inl ⟨by rfl, ?_⟩) ?_ ?_
             rotate_left
             ·intro w'
              go_simp
              with_reducible rfl
             rotate_left
             ·simp only [Act.put, List.setIfInBounds_toArray, List.set_cons_zero, List.set_cons_succ, i64_w, i32_w]
              rfl
             refine pure_ (i := 6) (N := some 60) (v := ?_) (a' := ?_) #[true, true, true, true, true, false, true, false, false, false, false, false, false, false, false, false, false, false, false] rfl rfl (any_of HT_.out (by kernel_rfl)) (fun _ _ _ h => h) (Or.inl ⟨by rfl, ?_⟩) ?_ ?_
             rotate_left
             ·intro w'
              go_simp
              with_reducible rfl
             rotate_left
             ·simp only [Act.put, List.setIfInBounds_toArray, List.set_cons_zero, List.set_cons_succ, i64_w, i32_w]
              rfl
             refine take_ (i := 5) (N := some 59) (v := ?_) (a' := ?_) #[true, true, true, true, true, true, true, false, false, false, false, false, false, false, false, false, false, false, false] rfl rfl (take_ofW HT_.out HW_.out (by kernel_rfl)) (fun _ _ _ h => h) (Or.inl ⟨by rfl, ?_⟩) hHeld ?_ ?_
             rotate_left
             ·rintro w' ⟨s0, s1, s2, s3, s4, s5, s6, s7, s8⟩
              go_simp
              with_reducible rfl
             rotate_left
             ·simp only [Act.put, List.setIfInBounds_toArray, List.set_cons_zero, List.set_cons_succ, i64_w, i32_w]
              rfl
             refine take_ (i := 7) (N := some 61) (v := ?_) (a' := ?_) #[true, true, true, true, true, true, true, true, false, false, false, false, false, false, false, false, false, false, false] rfl rfl (take_ofW HT_.out HW_.out (by kernel_rfl)) (fun _ _ _ h => h) (Or.inl ⟨by rfl, ?_⟩) hHeld ?_ ?_
             rotate_left
             ·rintro w' ⟨s0, s1, s2, s3, s4, s5, s6, s7, s8⟩
              go_simp
              with_reducible rfl
             rotate_left
             ·simp only [Act.put, List.setIfInBounds_toArray, List.set_cons_zero, List.set_cons_succ, i64_w, i32_w]
              rfl
             refine pure_ (i := 8) (N := some 62) (v := ?_) (a' := ?_) #[true, true, true, true, true, true, true, true, true, false, false, false, false, false, false, false, false, false, false] rfl rfl (any_of HT_.out (by kernel_rfl)) (fun _ _ _ h => h) (Or.inl ⟨by rfl, ?_⟩) ?_ ?_
             rotate_left
             ·intro w'
              go_simp
              with_reducible rfl
             rotate_left
             ·simp only [Act.put, List.setIfInBounds_toArray, List.set_cons_zero, List.set_cons_succ, i64_w, i32_w]
              rfl
             refine pure_ (i := 9) (N := some 63) (v := ?_) (a' := ?_) #[true, true, true, true, true, true, true, true, true, true, false, false, false, false, false, false, false, false, false] rfl rfl (any_of HT_.out (by kernel_rfl)) (fun _ _ _ h => h) (Or.inl ⟨by rfl, ?_⟩) ?_ ?_
             rotate_left
             ·intro w'
              go_simp
              with_reducible rfl
             rotate_left
             ·simp only [Act.put, List.setIfInBounds_toArray, List.set_cons_zero, List.set_cons_succ, i64_w, i32_w]
              rfl
             refine pure_ (i := 10) (N := some 64) (v := ?_) (a' := ?_) #[true, true, true, true, true, true, true, true, true, true, true, false, false, false, false, false, false, false, false] rfl rfl (any_of HT_.out (by kernel_rfl)) (fun _ _ _ h => h) (Or.inl ⟨by rfl, ?_⟩) ?_ ?_
             rotate_left
             ·intro w'
              go_simp
              with_reducible rfl
             rotate_left
             ·simp only [Act.put, List.setIfInBounds_toArray, List.set_cons_zero, List.set_cons_succ, i64_w, i32_w]
              rfl
             refine pure_ (i := 11) (N := some 65) (v := undef) (a' := ?_) #[true, true, true, true, true, true, true, true, true, true, true, true, false, false, false, false, false, false, false] rfl rfl (any_of HT_.out (by kernel_rfl)) (fun _ _ _ h => h) (Or.inr ⟨by rfl, rfl⟩) ?_ ?_
             rotate_left
             ·simp only [Act.put, List.setIfInBounds_toArray, List.set_cons_zero, List.set_cons_succ, i64_w, i32_w]
              rfl
             refine pure_ (i := 12) (N := some 66) (v := undef) (a' := ?_) #[true, true, true, true, true, true, true, true, true, true, true, true, true, false, false, false, false, false, false] rfl rfl (any_of HT_.out (by kernel_rfl)) (fun _ _ _ h => h) (Or.inr ⟨by rfl, rfl⟩) ?_ ?_
             rotate_left
             ·simp only [Act.put, List.setIfInBounds_toArray, List.set_cons_zero, List.set_cons_succ, i64_w, i32_w]
              rfl
             refine pure_ (i := 13) (N := some 67) (v := undef) (a' := ?_) #[true, true, true, true, true, true, true, true, true, true, true, true, true, true, false, false, false, false, false] rfl rfl (any_of HT_.out (by kernel_rfl)) (fun _ _ _ h => h) (Or.inr ⟨by rfl, rfl⟩) ?_ ?_
             rotate_left
             ·simp only [Act.put, List.setIfInBounds_toArray, List.set_cons_zero, List.set_cons_succ, i64_w, i32_w]
              rfl
             refine pure_ (i := 14) (N := some 68) (v := undef) (a' := ?_) #[true, true, true, true, true, true, true, true, true, true, true, true, true, true, true, false, false, false, false] rfl rfl (any_of HT_.out (by kernel_rfl)) (fun _ _ _ h => h) (Or.inr ⟨by rfl, rfl⟩) ?_ ?_
             rotate_left
             ·simp only [Act.put, List.setIfInBounds_toArray, List.set_cons_zero, List.set_cons_succ, i64_w, i32_w]
              rfl
             refine pure_ (i := 15) (N := some 69) (v := undef) (a' := ?_) #[true, true, true, true, true, true, true, true, true, true, true, true, true, true, true, true, false, false, false] rfl rfl (any_of HT_.out (by kernel_rfl)) (fun _ _ _ h => h) (Or.inr ⟨by rfl, rfl⟩) ?_ ?_
             rotate_left
             ·simp only [Act.put, List.setIfInBounds_toArray, List.set_cons_zero, List.set_cons_succ, i64_w, i32_w]
              rfl
             refine pure_ (i := 16) (N := some 70) (v := undef) (a' := ?_) #[true, true, true, true, true, true, true, true, true, true, true, true, true, true, true, true, true, false, false] rfl rfl (any_of HT_.out (by kernel_rfl)) (fun _ _ _ h => h) (Or.inr ⟨by rfl, rfl⟩) ?_ ?_
             rotate_left
             ·simp only [Act.put, List.setIfInBounds_toArray, List.set_cons_zero, List.set_cons_succ, i64_w, i32_w]
              rfl
             refine pure_ (i := 17) (N := some 71) (v := undef) (a' := ?_) #[true, true, true, true, true, true, true, true, true, true, true, true, true, true, true, true, true, true, false] rfl rfl (any_of HT_.out (by kernel_rfl)) (fun _ _ _ h => h) (Or.inr ⟨by rfl, rfl⟩) ?_ ?_
             rotate_left
             ·simp only [Act.put, List.setIfInBounds_toArray, List.set_cons_zero, List.set_cons_succ, i64_w, i32_w]
              rfl
             refine pure_ (i := 18) (N := some 72) (v := ?_) (a' := ?_) #[true, true, true, true, true, true, true, true, true, true, true, true, true, true, true, true, true, true, true] rfl rfl (any_of HT_.out (by kernel_rfl)) (fun _ _ _ h => h) (Or.inl ⟨by rfl, ?_⟩) ?_ ?_
             rotate_left
             ·intro w'
              go_simp
              with_reducible rfl
             rotate_left
             ·simp only [Act.put, List.setIfInBounds_toArray, List.set_cons_zero, List.set_cons_succ, i64_w, i32_w]
              rfl
             refine done_ (done_of HT_.out (by kernel_rfl)) ?_
             try go_wp2
             go_meet
             case rel => exact ⟨_, (true), (by first | rfl | (simp; done) | (simp [*]; done)), H', ⟨by have := HJ2.out; have := HJ15.out; have := HJ25.out; first | omega | exact Nat.le_refl _⟩, ⟨kra_ HO_5.out⟩, ⟨blkx_ BK247.out⟩, ⟨belg_ GE247.out⟩⟩
           ·rw [if_neg c40] at H
            exact absurd H (by simp)
         case rest =>
          clear HC36
          try clear p2
          try clear q2
          try clear hx2
          try clear qi2
          try clear c3
          try clear c4
          try clear p25
          try clear q25
          try clear hx25
          try clear qi25
          try clear c31
          try clear c31b0
          try clear c31b1
          try clear c31b2
          try clear c32
          try clear c38
          try clear c40
          try clear c40b0
          try clear c40b1
          try clear c41
          try clear c41b0
          try clear c41b1
          try clear hcz23_5
          try clear hcz24_0
          try clear hcz24_1
          try clear hcz24_2
          try clear hcz24_3
          try clear hcz24_4
          try clear hcz24_5
          try clear hcz9_0
          try clear hcz9_1
          try clear hcz9_2
          try clear hcz9_3
          try clear hcz9_4
          try clear hcz9_5
          try clear hfz17_0
          try clear hfz17_1
          try clear hfz17_2
          try clear hfz17_3
          try clear hfz17_4
          try clear hfz17_5
          try clear hfz21_0
          try clear hfz21_1
          try clear hfz21_2
          try clear hfz21_3
          try clear hfz21_4
          try clear hfz21_5
          try clear hfz23_0
          try clear hfz23_1
          try clear hfz23_2
          try clear hfz23_3
          try clear hfz23_4
          try clear hfz23_5
          try clear hfz24_0
          try clear hfz24_1
          try clear hfz24_2
          try clear hfz24_3
          try clear hfz24_4
          try clear hfz24_5
          try clear hfz9_0
          try clear hfz9_1
          try clear hfz9_2
          try clear hfz9_3
          try clear hfz9_4
          try clear hfz9_5
          try clear hx257_0
          try clear hx257_1
          try clear hx257_2
          try clear hx258_0
          try clear hx258_1
          try clear hx258_2
          try clear p2
          try clear p257
          try clear p258
          try clear q257
          try clear q258
          obtain ⟨kq, x72_35, rfl, HA, HJ35, HO_5, BK247, HB⟩ := hcut
          cases kq with
          | zero => exact absurd HA.out (by simp [limelightlaw07_AimHides.j3])
          | succ kj35 =>
           have H := HA.out
           clear HA
           simp only [limelightlaw07_AimHides.j3] at H
           by_cases c44 : x72_35 = true
           ·subst c44
            have H1 : (none) = some r := by rw [if_pos rfl] at H; exact H
            clear H
            have H := H1
            clear H1
            exact absurd H (by simp)
           ·replace c44 := Bool.eq_false_iff.mpr c44
            subst c44
            have H1 : (limelightlaw07_AimHides.l0 kj35 l0 t251 0) = some r := by rw [if_neg (show ¬ (false = true) by decide)] at H; exact H
            clear H
            have H := H1
            clear H1
            have H' := Aside0.mk H
            clear H
            go_wp2
            go_loopg [7] kj35 (fun kq v7 w' => ∃ (x7_5 : Int), v7 = .int .i64 x7_5 ∧ Aside0 (limelightlaw07_AimHides.l0 kq l0 t251 x7_5 = some r) ∧ Aside0 (kq ≤ kj35) ∧ Aside0 (Kd.R k36 36 w' w.heap.size (fun _ => True) (.slice Ao37 t251.length co37) t251) ∧ Aside0 (w'.heap[gb247]? = some (.cells #[.int .i64 a1_0, .int .i64 a1_1, .int .i64 a1_2, .bool a1_3, .bool a1_4, .bool a1_5] 25 (0, 0))) ∧ Aside0 (Below w.heap.size w w'))
            case atStart => exact ⟨(0), (by first | rfl | (simp; done) | (simp [*]; done)), H', ⟨Nat.le_refl _⟩, ⟨kra_ HO_5.out⟩, ⟨blkx_ BK247.out⟩, ⟨belg_ GE247.out⟩⟩
            case round =>
             clear H'
             try clear p2
             try clear q2
             try clear hx2
             try clear qi2
             try clear c3
             try clear c4
             try clear p25
             try clear q25
             try clear hx25
             try clear qi25
             try clear c31
             try clear c31b0
             try clear c31b1
             try clear c31b2
             try clear c32
             try clear c38
             try clear c40
             try clear c40b0
             try clear c40b1
             try clear c41
             try clear c41b0
             try clear c41b1
             try clear c44
             try clear hcz23_5
             try clear hcz24_0
             try clear hcz24_1
             try clear hcz24_2
             try clear hcz24_3
             try clear hcz24_4
             try clear hcz24_5
             try clear hcz9_0
             try clear hcz9_1
             try clear hcz9_2
             try clear hcz9_3
             try clear hcz9_4
             try clear hcz9_5
             try clear hfz17_0
             try clear hfz17_1
             try clear hfz17_2
             try clear hfz17_3
             try clear hfz17_4
             try clear hfz17_5
             try clear hfz21_0
             try clear hfz21_1
             try clear hfz21_2
             try clear hfz21_3
             try clear hfz21_4
             try clear hfz21_5
             try clear hfz23_0
             try clear hfz23_1
             try clear hfz23_2
             try clear hfz23_3
             try clear hfz23_4
             try clear hfz23_5
             try clear hfz24_0
             try clear hfz24_1
             try clear hfz24_2
             try clear hfz24_3
             try clear hfz24_4
             try clear hfz24_5
             try clear hfz9_0
             try clear hfz9_1
             try clear hfz9_2
             try clear hfz9_3
             try clear hfz9_4
             try clear hfz9_5
             try clear hx257_0
             try clear hx257_1
             try clear hx257_2
             try clear hx258_0
             try clear hx258_1
             try clear hx258_2
             try clear p2
             try clear p25
             try clear p257
             try clear p258
             try clear q2
             try clear q25
             try clear q257
             try clear q258
             obtain ⟨x7_5, rfl, HA, HK5, HO_5, BK247, HB⟩ := hrel
             cases gk with
             | zero => exact absurd HA.out (by simp [limelightlaw07_AimHides.l0])
             | succ k5 =>
              have H := HA.out
              clear HA
              simp only [limelightlaw07_AimHides.l0] at H
              by_cases c45 : x7_5 < (t251.length : Int)
              ·rw [if_pos c45] at H
               have c45b0 : decide (x7_5 < (t251.length : Int)) = true := decide_eq_true c45
               clear c45
               by_cases c46 : 0 ≤ x7_5
               ·rw [if_pos c46] at H
                have c46b0 : decide (0 ≤ x7_5) = true := decide_eq_true c46
                clear c46
                have HC47 := Aside0.mk H
                clear H
                have p260 : 0 ≤ (x7_5 : Int) := of_decide_eq_true asm_
                have q260 : x7_5 < (t251.length : Int) := of_decide_eq_true asm_
                obtain ⟨ad260, e260, hx260_0, hx260_1, hx260_2⟩ := at_T36 (Kd.R_reads' HO_5.out).2.2 x7_5 p260 q260
                cases e260
                replace p260 := eq_true p260
                replace q260 := eq_true q260
                go_upto_region 15 with (first | ((with_reducible refine gate_dst (N := 8) rfl ?_); refine box_event ?hg (N := 8) ?hd (cs := #[.int .i64 0, .int .i64 0, .int .i64 0]) (t := 36) ?hr ?_; (case hd => rfl); (case hg => rfl); (case hr => first | (go_simp; done) | (go_simp; rfl)); intro gb261 hg w48 hbox hb; have n0_ := Aside0.mk (Kd.R_below (Kd.R_elderB (kra_ HO_5.out) gb261 (Nat.le_of_eq hg.symm)) hb); have n1_ := Aside0.mk (blk_below (g := gb247) (o := .cells #[.int .i64 a1_0, .int .i64 a1_1, .int .i64 a1_2, .bool a1_3, .bool a1_4, .bool a1_5] 25 (0, 0)) (blkx_ BK247.out) hb); have n2_ := Aside0.mk (below_step (belg_ GE247.out) hb); have n3_ := Aside0.mk (hbox); have n4_ := Aside0.mk ((by rw [hg]; exact (below_size (belg_ GE247.out)) : w.heap.size ≤ gb261)); have n5_ := Aside0.mk ((by rw [hg]; exact (below_size (belg_ GE247.out)) : w.heap.size ≤ gb261)); have n6_ := Aside0.mk ((by rw [hg]; exact Nat.ne_of_lt (blk_lt (g := gb247) (o := .cells #[.int .i64 a1_0, .int .i64 a1_1, .int .i64 a1_2, .bool a1_3, .bool a1_4, .bool a1_5] 25 (0, 0)) (blkx_ BK247.out)) : gb247 ≠ gb261)); have n7_ := Aside0.mk ((by rw [hg]; exact Nat.ne_of_gt (blk_lt (g := gb247) (o := .cells #[.int .i64 a1_0, .int .i64 a1_1, .int .i64 a1_2, .bool a1_3, .bool a1_4, .bool a1_5] 25 (0, 0)) (blkx_ BK247.out)) : gb261 ≠ gb247)); clear HO_5; clear BK247; clear HB; have HO_5 := n0_; have BK247 := n1_; have HB := n2_; have BK261 := n3_; have GW261 := n4_; have GE261 := n5_; have NB247_261 := n6_; have NB261_247 := n7_; clear n0_ n1_ n2_ n3_ n4_ n5_ n6_ n7_; clear hb hbox hg; have hnb49 := NB261_247.out; have hnc49 := NB247_261.out; have hcz50_0 : w48.cell? ⟨gb261, 0, none⟩ = some (.int .i64 0) := (blk_cell BK261.out 0).trans rfl; have hcz50_1 : w48.cell? ⟨gb261, 1, none⟩ = some (.int .i64 0) := (blk_cell BK261.out 1).trans rfl; have hcz50_2 : w48.cell? ⟨gb261, 2, none⟩ = some (.int .i64 0) := (blk_cell BK261.out 2).trans rfl; have hfz50_0 := blk_frozen BK261.out 0; have hfz50_1 := blk_frozen BK261.out 1; have hfz50_2 := blk_frozen BK261.out 2))
                (try simp only [Act.put, List.setIfInBounds_toArray, List.set_cons_zero, List.set_cons_succ])
                go_cut [102] (fun v102 wc => ∃ (kq : Nat) (x102_46 : Bool), v102 = .bool x102_46 ∧ Aside0 (limelightlaw07_AimHides.j5 kq l0 t251 x7_5 x102_46 ((rd_T36 t251 x7_5).f0) ((rd_T36 t251 x7_5).f1) ((rd_T36 t251 x7_5).f2) = some r) ∧ Aside0 (kq ≤ k5) ∧ Aside0 (Kd.R k36 36 wc w.heap.size (fun k_ => k_ ≠ gb261) (.slice (some ad260) t251.length co37) t251) ∧ Aside0 (wc.heap[gb247]? = some (.cells #[.int .i64 a1_0, .int .i64 a1_1, .int .i64 a1_2, .bool a1_3, .bool a1_4, .bool a1_5] 25 (0, 0))) ∧ Aside0 (wc.heap[gb261]? = some (.cells #[.int .i64 ((rd_T36 t251 x7_5).f0), .int .i64 ((rd_T36 t251 x7_5).f1), .int .i64 ((rd_T36 t251 x7_5).f2)] 36 (0, 0))) ∧ Aside0 (Below w.heap.size w wc))
                case first =>
                 have H := HC47.out
                 clear HC47
                 replace H := Option.bind_eq_some_iff.mp H
                 obtain ⟨t262, A510, H⟩ := H
                 replace H : (if t262 = true then ((limelightref01_Is.f l0 ((rd_T36 t251 x7_5).f1)).bind fun t263 => (if t263 = true then ((limelightlaw07_hidden.f k5 l0 ((rd_T36 t251 x7_5).f1) ((rd_T36 t251 x7_5).f0)).bind fun t264 => (limelightlaw07_AimHides.j5 k5 l0 t251 x7_5 t264 ((rd_T36 t251 x7_5).f0) ((rd_T36 t251 x7_5).f1) ((rd_T36 t251 x7_5).f2))) else (limelightlaw07_AimHides.j5 k5 l0 t251 x7_5 true ((rd_T36 t251 x7_5).f0) ((rd_T36 t251 x7_5).f1) ((rd_T36 t251 x7_5).f2)))) else (limelightlaw07_AimHides.j5 k5 l0 t251 x7_5 true ((rd_T36 t251 x7_5).f0) ((rd_T36 t251 x7_5).f1) ((rd_T36 t251 x7_5).f2))) = some r := H
                 have A51 := Aside0.mk A510
                 clear A510
                 by_cases c52 : t262 = true
                 ·subst c52
                  have H1 : ((limelightref01_Is.f l0 ((rd_T36 t251 x7_5).f1)).bind fun t263 => (if t263 = true then ((limelightlaw07_hidden.f k5 l0 ((rd_T36 t251 x7_5).f1) ((rd_T36 t251 x7_5).f0)).bind fun t264 => (limelightlaw07_AimHides.j5 k5 l0 t251 x7_5 t264 ((rd_T36 t251 x7_5).f0) ((rd_T36 t251 x7_5).f1) ((rd_T36 t251 x7_5).f2))) else (limelightlaw07_AimHides.j5 k5 l0 t251 x7_5 true ((rd_T36 t251 x7_5).f0) ((rd_T36 t251 x7_5).f1) ((rd_T36 t251 x7_5).f2)))) = some r := by rw [if_pos rfl] at H; exact H
                  clear H
                  have H := H1
                  clear H1
                  replace H := Option.bind_eq_some_iff.mp H
                  obtain ⟨t263, A530, H⟩ := H
                  replace H : (if t263 = true then ((limelightlaw07_hidden.f k5 l0 ((rd_T36 t251 x7_5).f1) ((rd_T36 t251 x7_5).f0)).bind fun t264 => (limelightlaw07_AimHides.j5 k5 l0 t251 x7_5 t264 ((rd_T36 t251 x7_5).f0) ((rd_T36 t251 x7_5).f1) ((rd_T36 t251 x7_5).f2))) else (limelightlaw07_AimHides.j5 k5 l0 t251 x7_5 true ((rd_T36 t251 x7_5).f0) ((rd_T36 t251 x7_5).f1) ((rd_T36 t251 x7_5).f2))) = some r := H
                  have A53 := Aside0.mk A530
                  clear A530
                  by_cases c54 : t263 = true
                  ·subst c54
                   have H1 : ((limelightlaw07_hidden.f k5 l0 ((rd_T36 t251 x7_5).f1) ((rd_T36 t251 x7_5).f0)).bind fun t264 => (limelightlaw07_AimHides.j5 k5 l0 t251 x7_5 t264 ((rd_T36 t251 x7_5).f0) ((rd_T36 t251 x7_5).f1) ((rd_T36 t251 x7_5).f2))) = some r := by rw [if_pos rfl] at H; exact H
                   clear H
                   have H := H1
                   clear H1
                   replace H := Option.bind_eq_some_iff.mp H
                   obtain ⟨t264, A550, H⟩ := H
                   replace H : (limelightlaw07_AimHides.j5 k5 l0 t251 x7_5 t264 ((rd_T36 t251 x7_5).f0) ((rd_T36 t251 x7_5).f1) ((rd_T36 t251 x7_5).f2)) = some r := H
                   have A55 := Aside0.mk A550
                   clear A550
                   have H' := Aside0.mk H
                   clear H
                   have hnb56 := NB261_247.out
                   have hnc56 := NB247_261.out
                   have hcz57_0 : w48.cell? ⟨gb261, 0, none⟩ = some (.int .i64 0) := (blk_cell BK261.out 0).trans rfl
                   have hcz57_1 : w48.cell? ⟨gb261, 1, none⟩ = some (.int .i64 0) := (blk_cell BK261.out 1).trans rfl
                   have hcz57_2 : w48.cell? ⟨gb261, 2, none⟩ = some (.int .i64 0) := (blk_cell BK261.out 2).trans rfl
                   have hfz57_0 := blk_frozen BK261.out 0
                   have hfz57_1 := blk_frozen BK261.out 1
                   have hfz57_2 := blk_frozen BK261.out 2
                   go_wp2_with (first | ((with_reducible refine gate_callee (f := 14) rfl ?_); refine goesL_ (some 86) rfl rfl Try.func14 (by kernel_rfl) rfl #[.slice A0 l0.length c0, .int .i64 ((rd_T36 t251 x7_5).f0)] rfl margs_ ?_; (with_reducible refine (limelightref01_Is.calls _ _ l0 ((rd_T36 t251 x7_5).f0) true _ ?side1 ?side2 A51.out).mono ?_); (case side1 => exact Kd.C_below HR0.out (by repeat (first | (with_reducible first | exact HB.out | apply below_alloc | apply pw_below_drewN | apply below_drew1 | refine below_set ?_ GE247.out | refine below_set ?_ GE261.out) | exact HB.out))); (case side2 => exact HC0.out); rintro e w58 ⟨rfl, hb⟩; refine ⟨_, rfl, ?_⟩; have n0_ := Aside0.mk (Kd.R_below (by (with_reducible repeat (first | apply Kd.R_alloc | apply Kd.R_drewN | apply Kd.R_drew)); exact (Kd.R_mono (Kd.R_far (p := ⟨gb261, 2, none⟩) (Kd.R_far (p := ⟨gb261, 1, none⟩) (Kd.R_far (p := ⟨gb261, 0, none⟩) (Kd.R_mono HO_5.out (fun k_ hk => (⟨hk, hk.2⟩ : _ ∧ k_ ≠ gb261))) (fun _ hk => hk.2) (.int .i64 ((rd_T36 t251 x7_5).f0))) (fun _ hk => hk.2) (.int .i64 ((rd_T36 t251 x7_5).f1))) (fun _ hk => hk.2) (.int .i64 ((rd_T36 t251 x7_5).f2))) (fun _ h_ => h_.1))) hb); have n1_ := Aside0.mk (blk_below (g := gb247) (o := .cells #[.int .i64 a1_0, .int .i64 a1_1, .int .i64 a1_2, .bool a1_3, .bool a1_4, .bool a1_5] 25 (0, 0)) (by (with_reducible repeat (first | refine blk_drewN ?_ _ | refine blk_drew ?_ | refine blk_alloc ?_ _)); refine blk_far ?_ NB247_261.out _; (with_reducible repeat (first | refine blk_drewN ?_ _ | refine blk_drew ?_ | refine blk_alloc ?_ _)); refine blk_far ?_ NB247_261.out _; (with_reducible repeat (first | refine blk_drewN ?_ _ | refine blk_drew ?_ | refine blk_alloc ?_ _)); refine blk_far ?_ NB247_261.out _; (with_reducible repeat (first | refine blk_drewN ?_ _ | refine blk_drew ?_ | refine blk_alloc ?_ _)); exact BK247.out) hb); have n2_ := Aside0.mk (blk_below (g := gb261) (o := .cells #[.int .i64 ((rd_T36 t251 x7_5).f0), .int .i64 ((rd_T36 t251 x7_5).f1), .int .i64 ((rd_T36 t251 x7_5).f2)] 36 (0, 0)) (by (with_reducible repeat (first | refine blk_drewN ?_ _ | refine blk_drew ?_ | refine blk_alloc ?_ _)); refine blk_put (cs := #[.int .i64 ((rd_T36 t251 x7_5).f0), .int .i64 ((rd_T36 t251 x7_5).f1), .int .i64 0]) ?_ 2 _ rfl; (with_reducible repeat (first | refine blk_drewN ?_ _ | refine blk_drew ?_ | refine blk_alloc ?_ _)); refine blk_put (cs := #[.int .i64 ((rd_T36 t251 x7_5).f0), .int .i64 0, .int .i64 0]) ?_ 1 _ rfl; (with_reducible repeat (first | refine blk_drewN ?_ _ | refine blk_drew ?_ | refine blk_alloc ?_ _)); refine blk_put (cs := #[.int .i64 0, .int .i64 0, .int .i64 0]) ?_ 0 _ rfl; (with_reducible repeat (first | refine blk_drewN ?_ _ | refine blk_drew ?_ | refine blk_alloc ?_ _)); exact BK261.out) hb); have n3_ := Aside0.mk (below_step (by repeat (first | (with_reducible first | exact HB.out | apply below_alloc | apply pw_below_drewN | apply below_drew1 | refine below_set ?_ GE247.out | refine below_set ?_ GE261.out) | exact HB.out)) hb); clear HO_5; clear BK247; clear BK261; clear HB; have HO_5 := n0_; have BK247 := n1_; have BK261 := n2_; have HB := n3_; clear n0_ n1_ n2_ n3_; (try clear hb); (try clear hb2); (try clear hk); (try clear hi); have hcz59_0 : w58.cell? ⟨gb261, 0, none⟩ = some (.int .i64 ((rd_T36 t251 x7_5).f0)) := (blk_cell BK261.out 0).trans rfl; have hcz59_1 : w58.cell? ⟨gb261, 1, none⟩ = some (.int .i64 ((rd_T36 t251 x7_5).f1)) := (blk_cell BK261.out 1).trans rfl; have hcz59_2 : w58.cell? ⟨gb261, 2, none⟩ = some (.int .i64 ((rd_T36 t251 x7_5).f2)) := (blk_cell BK261.out 2).trans rfl; have hfz59_0 := blk_frozen BK261.out 0; have hfz59_1 := blk_frozen BK261.out 1; have hfz59_2 := blk_frozen BK261.out 2) | (go_at_call 14; (with_reducible refine (limelightref01_Is.calls _ _ l0 ((rd_T36 t251 x7_5).f1) true _ ?side1 ?side2 A53.out).mono ?_); (case side1 => exact kcb_ ((Kd.C_below HR0.out HB.out))); (case side2 => exact HC0.out); rintro e w60 ⟨rfl, hb⟩; have n0_ := Aside0.mk (Kd.R_below (kra_ HO_5.out) hb); have n1_ := Aside0.mk (blk_below (g := gb247) (o := .cells #[.int .i64 a1_0, .int .i64 a1_1, .int .i64 a1_2, .bool a1_3, .bool a1_4, .bool a1_5] 25 (0, 0)) (blkx_ BK247.out) hb); have n2_ := Aside0.mk (blk_below (g := gb261) (o := .cells #[.int .i64 ((rd_T36 t251 x7_5).f0), .int .i64 ((rd_T36 t251 x7_5).f1), .int .i64 ((rd_T36 t251 x7_5).f2)] 36 (0, 0)) (blkx_ BK261.out) hb); have n3_ := Aside0.mk (below_step (by repeat (first | (with_reducible first | exact HB.out | apply below_alloc | apply pw_below_drewN | apply below_drew1 | refine below_set ?_ GE247.out | refine below_set ?_ GE261.out) | exact HB.out)) hb); clear HO_5; clear BK247; clear BK261; clear HB; have HO_5 := n0_; have BK247 := n1_; have BK261 := n2_; have HB := n3_; clear n0_ n1_ n2_ n3_; (try clear hb); (try clear hb2); (try clear hk); (try clear hi); have hcz61_0 : w60.cell? ⟨gb261, 0, none⟩ = some (.int .i64 ((rd_T36 t251 x7_5).f0)) := (blk_cell BK261.out 0).trans rfl; have hcz61_1 : w60.cell? ⟨gb261, 1, none⟩ = some (.int .i64 ((rd_T36 t251 x7_5).f1)) := (blk_cell BK261.out 1).trans rfl; have hcz61_2 : w60.cell? ⟨gb261, 2, none⟩ = some (.int .i64 ((rd_T36 t251 x7_5).f2)) := (blk_cell BK261.out 2).trans rfl; have hfz61_0 := blk_frozen BK261.out 0; have hfz61_1 := blk_frozen BK261.out 1; have hfz61_2 := blk_frozen BK261.out 2) | (go_at_call 19; (with_reducible refine (limelightlaw07_hidden.calls k5 _ _ l0 ((rd_T36 t251 x7_5).f1) ((rd_T36 t251 x7_5).f0) t264 _ ?side1 ?side2 A55.out).mono ?_); (case side1 => exact kcb_ ((Kd.C_below HR0.out HB.out))); (case side2 => exact HC0.out); rintro e w62 ⟨rfl, hb⟩; have n0_ := Aside0.mk (Kd.R_below (kra_ HO_5.out) hb); have n1_ := Aside0.mk (blk_below (g := gb247) (o := .cells #[.int .i64 a1_0, .int .i64 a1_1, .int .i64 a1_2, .bool a1_3, .bool a1_4, .bool a1_5] 25 (0, 0)) (blkx_ BK247.out) hb); have n2_ := Aside0.mk (blk_below (g := gb261) (o := .cells #[.int .i64 ((rd_T36 t251 x7_5).f0), .int .i64 ((rd_T36 t251 x7_5).f1), .int .i64 ((rd_T36 t251 x7_5).f2)] 36 (0, 0)) (blkx_ BK261.out) hb); have n3_ := Aside0.mk (below_step (by repeat (first | (with_reducible first | exact HB.out | apply below_alloc | apply pw_below_drewN | apply below_drew1 | refine below_set ?_ GE247.out | refine below_set ?_ GE261.out) | exact HB.out)) hb); clear HO_5; clear BK247; clear BK261; clear HB; have HO_5 := n0_; have BK247 := n1_; have BK261 := n2_; have HB := n3_; clear n0_ n1_ n2_ n3_; (try clear hb); (try clear hb2); (try clear hk); (try clear hi)))
                   go_meet
                   case rel => exact ⟨_, (t264), (by first | rfl | (simp; done) | (simp [*]; done)), H', ⟨by have := HJ2.out; have := HJ15.out; have := HJ25.out; have := HJ35.out; have := HK5.out; first | omega | exact Nat.le_refl _⟩, ⟨by (with_reducible repeat (first | apply Kd.R_alloc | apply Kd.R_drewN | apply Kd.R_drew)); exact Kd.R_mono HO_5.out (fun _ hk => hk.2)⟩, ⟨blkx_ BK247.out⟩, ⟨blkx_ BK261.out⟩, ⟨by repeat (first | (with_reducible first | exact HB.out | apply below_alloc | apply pw_below_drewN | apply below_drew1 | refine below_set ?_ GE247.out | refine below_set ?_ GE261.out) | exact HB.out)⟩⟩
                  ·replace c54 := Bool.eq_false_iff.mpr c54
                   subst c54
                   have H1 : (limelightlaw07_AimHides.j5 k5 l0 t251 x7_5 true ((rd_T36 t251 x7_5).f0) ((rd_T36 t251 x7_5).f1) ((rd_T36 t251 x7_5).f2)) = some r := by rw [if_neg (show ¬ (false = true) by decide)] at H; exact H
                   clear H
                   have H := H1
                   clear H1
                   have H' := Aside0.mk H
                   clear H
                   have hnb63 := NB261_247.out
                   have hnc63 := NB247_261.out
                   have hcz64_0 : w48.cell? ⟨gb261, 0, none⟩ = some (.int .i64 0) := (blk_cell BK261.out 0).trans rfl
                   have hcz64_1 : w48.cell? ⟨gb261, 1, none⟩ = some (.int .i64 0) := (blk_cell BK261.out 1).trans rfl
                   have hcz64_2 : w48.cell? ⟨gb261, 2, none⟩ = some (.int .i64 0) := (blk_cell BK261.out 2).trans rfl
                   have hfz64_0 := blk_frozen BK261.out 0
                   have hfz64_1 := blk_frozen BK261.out 1
                   have hfz64_2 := blk_frozen BK261.out 2
                   go_wp2_with (first | ((with_reducible refine gate_callee (f := 14) rfl ?_); refine goesL_ (some 86) rfl rfl Try.func14 (by kernel_rfl) rfl #[.slice A0 l0.length c0, .int .i64 ((rd_T36 t251 x7_5).f0)] rfl margs_ ?_; (with_reducible refine (limelightref01_Is.calls _ _ l0 ((rd_T36 t251 x7_5).f0) true _ ?side1 ?side2 A51.out).mono ?_); (case side1 => exact Kd.C_below HR0.out (by repeat (first | (with_reducible first | exact HB.out | apply below_alloc | apply pw_below_drewN | apply below_drew1 | refine below_set ?_ GE247.out | refine below_set ?_ GE261.out) | exact HB.out))); (case side2 => exact HC0.out); rintro e w65 ⟨rfl, hb⟩; refine ⟨_, rfl, ?_⟩; have n0_ := Aside0.mk (Kd.R_below (by (with_reducible repeat (first | apply Kd.R_alloc | apply Kd.R_drewN | apply Kd.R_drew)); exact (Kd.R_mono (Kd.R_far (p := ⟨gb261, 2, none⟩) (Kd.R_far (p := ⟨gb261, 1, none⟩) (Kd.R_far (p := ⟨gb261, 0, none⟩) (Kd.R_mono HO_5.out (fun k_ hk => (⟨hk, hk.2⟩ : _ ∧ k_ ≠ gb261))) (fun _ hk => hk.2) (.int .i64 ((rd_T36 t251 x7_5).f0))) (fun _ hk => hk.2) (.int .i64 ((rd_T36 t251 x7_5).f1))) (fun _ hk => hk.2) (.int .i64 ((rd_T36 t251 x7_5).f2))) (fun _ h_ => h_.1))) hb); have n1_ := Aside0.mk (blk_below (g := gb247) (o := .cells #[.int .i64 a1_0, .int .i64 a1_1, .int .i64 a1_2, .bool a1_3, .bool a1_4, .bool a1_5] 25 (0, 0)) (by (with_reducible repeat (first | refine blk_drewN ?_ _ | refine blk_drew ?_ | refine blk_alloc ?_ _)); refine blk_far ?_ NB247_261.out _; (with_reducible repeat (first | refine blk_drewN ?_ _ | refine blk_drew ?_ | refine blk_alloc ?_ _)); refine blk_far ?_ NB247_261.out _; (with_reducible repeat (first | refine blk_drewN ?_ _ | refine blk_drew ?_ | refine blk_alloc ?_ _)); refine blk_far ?_ NB247_261.out _; (with_reducible repeat (first | refine blk_drewN ?_ _ | refine blk_drew ?_ | refine blk_alloc ?_ _)); exact BK247.out) hb); have n2_ := Aside0.mk (blk_below (g := gb261) (o := .cells #[.int .i64 ((rd_T36 t251 x7_5).f0), .int .i64 ((rd_T36 t251 x7_5).f1), .int .i64 ((rd_T36 t251 x7_5).f2)] 36 (0, 0)) (by (with_reducible repeat (first | refine blk_drewN ?_ _ | refine blk_drew ?_ | refine blk_alloc ?_ _)); refine blk_put (cs := #[.int .i64 ((rd_T36 t251 x7_5).f0), .int .i64 ((rd_T36 t251 x7_5).f1), .int .i64 0]) ?_ 2 _ rfl; (with_reducible repeat (first | refine blk_drewN ?_ _ | refine blk_drew ?_ | refine blk_alloc ?_ _)); refine blk_put (cs := #[.int .i64 ((rd_T36 t251 x7_5).f0), .int .i64 0, .int .i64 0]) ?_ 1 _ rfl; (with_reducible repeat (first | refine blk_drewN ?_ _ | refine blk_drew ?_ | refine blk_alloc ?_ _)); refine blk_put (cs := #[.int .i64 0, .int .i64 0, .int .i64 0]) ?_ 0 _ rfl; (with_reducible repeat (first | refine blk_drewN ?_ _ | refine blk_drew ?_ | refine blk_alloc ?_ _)); exact BK261.out) hb); have n3_ := Aside0.mk (below_step (by repeat (first | (with_reducible first | exact HB.out | apply below_alloc | apply pw_below_drewN | apply below_drew1 | refine below_set ?_ GE247.out | refine below_set ?_ GE261.out) | exact HB.out)) hb); clear HO_5; clear BK247; clear BK261; clear HB; have HO_5 := n0_; have BK247 := n1_; have BK261 := n2_; have HB := n3_; clear n0_ n1_ n2_ n3_; (try clear hb); (try clear hb2); (try clear hk); (try clear hi); have hcz66_0 : w65.cell? ⟨gb261, 0, none⟩ = some (.int .i64 ((rd_T36 t251 x7_5).f0)) := (blk_cell BK261.out 0).trans rfl; have hcz66_1 : w65.cell? ⟨gb261, 1, none⟩ = some (.int .i64 ((rd_T36 t251 x7_5).f1)) := (blk_cell BK261.out 1).trans rfl; have hcz66_2 : w65.cell? ⟨gb261, 2, none⟩ = some (.int .i64 ((rd_T36 t251 x7_5).f2)) := (blk_cell BK261.out 2).trans rfl; have hfz66_0 := blk_frozen BK261.out 0; have hfz66_1 := blk_frozen BK261.out 1; have hfz66_2 := blk_frozen BK261.out 2) | (go_at_call 14; (with_reducible refine (limelightref01_Is.calls _ _ l0 ((rd_T36 t251 x7_5).f1) false _ ?side1 ?side2 A53.out).mono ?_); (case side1 => exact kcb_ ((Kd.C_below HR0.out HB.out))); (case side2 => exact HC0.out); rintro e w67 ⟨rfl, hb⟩; have n0_ := Aside0.mk (Kd.R_below (kra_ HO_5.out) hb); have n1_ := Aside0.mk (blk_below (g := gb247) (o := .cells #[.int .i64 a1_0, .int .i64 a1_1, .int .i64 a1_2, .bool a1_3, .bool a1_4, .bool a1_5] 25 (0, 0)) (blkx_ BK247.out) hb); have n2_ := Aside0.mk (blk_below (g := gb261) (o := .cells #[.int .i64 ((rd_T36 t251 x7_5).f0), .int .i64 ((rd_T36 t251 x7_5).f1), .int .i64 ((rd_T36 t251 x7_5).f2)] 36 (0, 0)) (blkx_ BK261.out) hb); have n3_ := Aside0.mk (below_step (by repeat (first | (with_reducible first | exact HB.out | apply below_alloc | apply pw_below_drewN | apply below_drew1 | refine below_set ?_ GE247.out | refine below_set ?_ GE261.out) | exact HB.out)) hb); clear HO_5; clear BK247; clear BK261; clear HB; have HO_5 := n0_; have BK247 := n1_; have BK261 := n2_; have HB := n3_; clear n0_ n1_ n2_ n3_; (try clear hb); (try clear hb2); (try clear hk); (try clear hi)))
                   go_meet
                   case rel => exact ⟨_, (true), (by first | rfl | (simp; done) | (simp [*]; done)), H', ⟨by have := HJ2.out; have := HJ15.out; have := HJ25.out; have := HJ35.out; have := HK5.out; first | omega | exact Nat.le_refl _⟩, ⟨by (with_reducible repeat (first | apply Kd.R_alloc | apply Kd.R_drewN | apply Kd.R_drew)); exact Kd.R_mono HO_5.out (fun _ hk => hk.2)⟩, ⟨blkx_ BK247.out⟩, ⟨blkx_ BK261.out⟩, ⟨by repeat (first | (with_reducible first | exact HB.out | apply below_alloc | apply pw_below_drewN | apply below_drew1 | refine below_set ?_ GE247.out | refine below_set ?_ GE261.out) | exact HB.out)⟩⟩
                 ·replace c52 := Bool.eq_false_iff.mpr c52
                  subst c52
                  have H1 : (limelightlaw07_AimHides.j5 k5 l0 t251 x7_5 true ((rd_T36 t251 x7_5).f0) ((rd_T36 t251 x7_5).f1) ((rd_T36 t251 x7_5).f2)) = some r := by rw [if_neg (show ¬ (false = true) by decide)] at H; exact H
                  clear H
                  have H := H1
                  clear H1
                  have H' := Aside0.mk H
                  clear H
                  have hnb68 := NB261_247.out
                  have hnc68 := NB247_261.out
                  have hcz69_0 : w48.cell? ⟨gb261, 0, none⟩ = some (.int .i64 0) := (blk_cell BK261.out 0).trans rfl
                  have hcz69_1 : w48.cell? ⟨gb261, 1, none⟩ = some (.int .i64 0) := (blk_cell BK261.out 1).trans rfl
                  have hcz69_2 : w48.cell? ⟨gb261, 2, none⟩ = some (.int .i64 0) := (blk_cell BK261.out 2).trans rfl
                  have hfz69_0 := blk_frozen BK261.out 0
                  have hfz69_1 := blk_frozen BK261.out 1
                  have hfz69_2 := blk_frozen BK261.out 2
                  go_wp2_with (first | ((with_reducible refine gate_callee (f := 14) rfl ?_); refine goesL_ (some 86) rfl rfl Try.func14 (by kernel_rfl) rfl #[.slice A0 l0.length c0, .int .i64 ((rd_T36 t251 x7_5).f0)] rfl margs_ ?_; (with_reducible refine (limelightref01_Is.calls _ _ l0 ((rd_T36 t251 x7_5).f0) false _ ?side1 ?side2 A51.out).mono ?_); (case side1 => exact Kd.C_below HR0.out (by repeat (first | (with_reducible first | exact HB.out | apply below_alloc | apply pw_below_drewN | apply below_drew1 | refine below_set ?_ GE247.out | refine below_set ?_ GE261.out) | exact HB.out))); (case side2 => exact HC0.out); rintro e w70 ⟨rfl, hb⟩; refine ⟨_, rfl, ?_⟩; have n0_ := Aside0.mk (Kd.R_below (by (with_reducible repeat (first | apply Kd.R_alloc | apply Kd.R_drewN | apply Kd.R_drew)); exact (Kd.R_mono (Kd.R_far (p := ⟨gb261, 2, none⟩) (Kd.R_far (p := ⟨gb261, 1, none⟩) (Kd.R_far (p := ⟨gb261, 0, none⟩) (Kd.R_mono HO_5.out (fun k_ hk => (⟨hk, hk.2⟩ : _ ∧ k_ ≠ gb261))) (fun _ hk => hk.2) (.int .i64 ((rd_T36 t251 x7_5).f0))) (fun _ hk => hk.2) (.int .i64 ((rd_T36 t251 x7_5).f1))) (fun _ hk => hk.2) (.int .i64 ((rd_T36 t251 x7_5).f2))) (fun _ h_ => h_.1))) hb); have n1_ := Aside0.mk (blk_below (g := gb247) (o := .cells #[.int .i64 a1_0, .int .i64 a1_1, .int .i64 a1_2, .bool a1_3, .bool a1_4, .bool a1_5] 25 (0, 0)) (by (with_reducible repeat (first | refine blk_drewN ?_ _ | refine blk_drew ?_ | refine blk_alloc ?_ _)); refine blk_far ?_ NB247_261.out _; (with_reducible repeat (first | refine blk_drewN ?_ _ | refine blk_drew ?_ | refine blk_alloc ?_ _)); refine blk_far ?_ NB247_261.out _; (with_reducible repeat (first | refine blk_drewN ?_ _ | refine blk_drew ?_ | refine blk_alloc ?_ _)); refine blk_far ?_ NB247_261.out _; (with_reducible repeat (first | refine blk_drewN ?_ _ | refine blk_drew ?_ | refine blk_alloc ?_ _)); exact BK247.out) hb); have n2_ := Aside0.mk (blk_below (g := gb261) (o := .cells #[.int .i64 ((rd_T36 t251 x7_5).f0), .int .i64 ((rd_T36 t251 x7_5).f1), .int .i64 ((rd_T36 t251 x7_5).f2)] 36 (0, 0)) (by (with_reducible repeat (first | refine blk_drewN ?_ _ | refine blk_drew ?_ | refine blk_alloc ?_ _)); refine blk_put (cs := #[.int .i64 ((rd_T36 t251 x7_5).f0), .int .i64 ((rd_T36 t251 x7_5).f1), .int .i64 0]) ?_ 2 _ rfl; (with_reducible repeat (first | refine blk_drewN ?_ _ | refine blk_drew ?_ | refine blk_alloc ?_ _)); refine blk_put (cs := #[.int .i64 ((rd_T36 t251 x7_5).f0), .int .i64 0, .int .i64 0]) ?_ 1 _ rfl; (with_reducible repeat (first | refine blk_drewN ?_ _ | refine blk_drew ?_ | refine blk_alloc ?_ _)); refine blk_put (cs := #[.int .i64 0, .int .i64 0, .int .i64 0]) ?_ 0 _ rfl; (with_reducible repeat (first | refine blk_drewN ?_ _ | refine blk_drew ?_ | refine blk_alloc ?_ _)); exact BK261.out) hb); have n3_ := Aside0.mk (below_step (by repeat (first | (with_reducible first | exact HB.out | apply below_alloc | apply pw_below_drewN | apply below_drew1 | refine below_set ?_ GE247.out | refine below_set ?_ GE261.out) | exact HB.out)) hb); clear HO_5; clear BK247; clear BK261; clear HB; have HO_5 := n0_; have BK247 := n1_; have BK261 := n2_; have HB := n3_; clear n0_ n1_ n2_ n3_; (try clear hb); (try clear hb2); (try clear hk); (try clear hi)))
                  go_meet
                  case rel => exact ⟨_, (true), (by first | rfl | (simp; done) | (simp [*]; done)), H', ⟨by have := HJ2.out; have := HJ15.out; have := HJ25.out; have := HJ35.out; have := HK5.out; first | omega | exact Nat.le_refl _⟩, ⟨by (with_reducible repeat (first | apply Kd.R_alloc | apply Kd.R_drewN | apply Kd.R_drew)); exact Kd.R_mono HO_5.out (fun _ hk => hk.2)⟩, ⟨blkx_ BK247.out⟩, ⟨blkx_ BK261.out⟩, ⟨by repeat (first | (with_reducible first | exact HB.out | apply below_alloc | apply pw_below_drewN | apply below_drew1 | refine below_set ?_ GE247.out | refine below_set ?_ GE261.out) | exact HB.out)⟩⟩
                case rest =>
                 clear HC47
                 try clear c1
                 try clear p2
                 try clear q2
                 try clear hx2
                 try clear qi2
                 try clear c3
                 try clear c4
                 try clear c5
                 try clear c6
                 try clear c14
                 try clear p25
                 try clear q25
                 try clear hx25
                 try clear qi25
                 try clear p26
                 try clear q26
                 try clear hx26
                 try clear c31
                 try clear c31b0
                 try clear c31b1
                 try clear c31b2
                 try clear c32
                 try clear c38
                 try clear c40
                 try clear c40b0
                 try clear c40b1
                 try clear c41
                 try clear c41b0
                 try clear c41b1
                 try clear c44
                 try clear c45
                 try clear c45b0
                 try clear c46
                 try clear c46b0
                 try clear c49
                 try clear c52
                 try clear c54
                 try clear c56
                 try clear c63
                 try clear c68
                 try clear hcz23_5
                 try clear hcz24_0
                 try clear hcz24_1
                 try clear hcz24_2
                 try clear hcz24_3
                 try clear hcz24_4
                 try clear hcz24_5
                 try clear hcz50_0
                 try clear hcz50_1
                 try clear hcz50_2
                 try clear hcz57_0
                 try clear hcz57_1
                 try clear hcz57_2
                 try clear hcz59_0
                 try clear hcz59_1
                 try clear hcz59_2
                 try clear hcz61_0
                 try clear hcz61_1
                 try clear hcz61_2
                 try clear hcz64_0
                 try clear hcz64_1
                 try clear hcz64_2
                 try clear hcz66_0
                 try clear hcz66_1
                 try clear hcz66_2
                 try clear hcz69_0
                 try clear hcz69_1
                 try clear hcz69_2
                 try clear hcz9_0
                 try clear hcz9_1
                 try clear hcz9_2
                 try clear hcz9_3
                 try clear hcz9_4
                 try clear hcz9_5
                 try clear hfz17_0
                 try clear hfz17_1
                 try clear hfz17_2
                 try clear hfz17_3
                 try clear hfz17_4
                 try clear hfz17_5
                 try clear hfz21_0
                 try clear hfz21_1
                 try clear hfz21_2
                 try clear hfz21_3
                 try clear hfz21_4
                 try clear hfz21_5
                 try clear hfz23_0
                 try clear hfz23_1
                 try clear hfz23_2
                 try clear hfz23_3
                 try clear hfz23_4
                 try clear hfz23_5
                 try clear hfz24_0
                 try clear hfz24_1
                 try clear hfz24_2
                 try clear hfz24_3
                 try clear hfz24_4
                 try clear hfz24_5
                 try clear hfz50_0
                 try clear hfz50_1
                 try clear hfz50_2
                 try clear hfz57_0
                 try clear hfz57_1
                 try clear hfz57_2
                 try clear hfz59_0
                 try clear hfz59_1
                 try clear hfz59_2
                 try clear hfz61_0
                 try clear hfz61_1
                 try clear hfz61_2
                 try clear hfz64_0
                 try clear hfz64_1
                 try clear hfz64_2
                 try clear hfz66_0
                 try clear hfz66_1
                 try clear hfz66_2
                 try clear hfz69_0
                 try clear hfz69_1
                 try clear hfz69_2
                 try clear hfz9_0
                 try clear hfz9_1
                 try clear hfz9_2
                 try clear hfz9_3
                 try clear hfz9_4
                 try clear hfz9_5
                 try clear hx257_0
                 try clear hx257_1
                 try clear hx257_2
                 try clear hx258_0
                 try clear hx258_1
                 try clear hx258_2
                 try clear hx260_0
                 try clear hx260_1
                 try clear hx260_2
                 try clear p2
                 try clear p25
                 try clear p257
                 try clear p258
                 try clear p260
                 try clear q2
                 try clear q25
                 try clear q257
                 try clear q258
                 try clear q260
                 obtain ⟨kq, x102_46, rfl, HA, HJ46, HO_5, BK247, BK261, HB⟩ := hcut
                 cases kq with
                 | zero => exact absurd HA.out (by simp [limelightlaw07_AimHides.j5])
                 | succ kj46 =>
                  have H := HA.out
                  clear HA
                  simp only [limelightlaw07_AimHides.j5] at H
                  by_cases c71 : x102_46 = true
                  ·subst c71
                   have H1 : (none) = some r := by rw [if_pos rfl] at H; exact H
                   clear H
                   have H := H1
                   clear H1
                   exact absurd H (by simp)
                  ·replace c71 := Bool.eq_false_iff.mpr c71
                   subst c71
                   have H1 : (if ((rd_T36 t251 x7_5).f2) = (-1) then (limelightlaw07_AimHides.j6 kj46 l0 t251 x7_5 false ((rd_T36 t251 x7_5).f0) ((rd_T36 t251 x7_5).f1) ((rd_T36 t251 x7_5).f2)) else ((limelightref01_Is.f l0 ((rd_T36 t251 x7_5).f2)).bind fun t265 => (if t265 = true then ((limelightlaw07_hidden.f kj46 l0 ((rd_T36 t251 x7_5).f2) ((rd_T36 t251 x7_5).f0)).bind fun t266 => (limelightlaw07_AimHides.j6 kj46 l0 t251 x7_5 t266 ((rd_T36 t251 x7_5).f0) ((rd_T36 t251 x7_5).f1) ((rd_T36 t251 x7_5).f2))) else (limelightlaw07_AimHides.j6 kj46 l0 t251 x7_5 true ((rd_T36 t251 x7_5).f0) ((rd_T36 t251 x7_5).f1) ((rd_T36 t251 x7_5).f2))))) = some r := by rw [if_neg (show ¬ (false = true) by decide)] at H; exact H
                   clear H
                   have H := H1
                   clear H1
                   have HC72 := Aside0.mk H
                   clear H
                   go_upto_region 17 with (fail)
                   go_cut [120] (fun v120 wc => ∃ (kq : Nat) (x120_71 : Bool), v120 = .bool x120_71 ∧ Aside0 (limelightlaw07_AimHides.j6 kq l0 t251 x7_5 x120_71 ((rd_T36 t251 x7_5).f0) ((rd_T36 t251 x7_5).f1) ((rd_T36 t251 x7_5).f2) = some r) ∧ Aside0 (kq ≤ kj46) ∧ Aside0 (Kd.R k36 36 wc w.heap.size (fun k_ => k_ ≠ gb261) (.slice (some ad260) t251.length co37) t251) ∧ Aside0 (wc.heap[gb247]? = some (.cells #[.int .i64 a1_0, .int .i64 a1_1, .int .i64 a1_2, .bool a1_3, .bool a1_4, .bool a1_5] 25 (0, 0))) ∧ Aside0 (wc.heap[gb261]? = some (.cells #[.int .i64 ((rd_T36 t251 x7_5).f0), .int .i64 ((rd_T36 t251 x7_5).f1), .int .i64 ((rd_T36 t251 x7_5).f2)] 36 (0, 0))) ∧ Aside0 (Below w.heap.size w wc))
                   case first =>
                    have H := HC72.out
                    clear HC72
                    by_cases c73 : ((rd_T36 t251 x7_5).f2) = (-1)
                    ·rw [if_pos c73] at H
                     have c73b0 : (((rd_T36 t251 x7_5).f2) == (-1)) = true := beq_iff_eq.mpr c73
                     have c73b1 : (((rd_T36 t251 x7_5).f2) != (-1)) = false := bne_eq_false_iff_eq.mpr c73
                     clear c73
                     (first | rw [c73b0] | (simp only [i64_w, i32_w]; rw [c73b0]) | skip)
                     have H' := Aside0.mk H
                     clear H
                     have hnb74 := NB261_247.out
                     have hnc74 := NB247_261.out
                     have hcz75_0 : wc.cell? ⟨gb261, 0, none⟩ = some (.int .i64 ((rd_T36 t251 x7_5).f0)) := (blk_cell BK261.out 0).trans rfl
                     have hcz75_1 : wc.cell? ⟨gb261, 1, none⟩ = some (.int .i64 ((rd_T36 t251 x7_5).f1)) := (blk_cell BK261.out 1).trans rfl
                     have hcz75_2 : wc.cell? ⟨gb261, 2, none⟩ = some (.int .i64 ((rd_T36 t251 x7_5).f2)) := (blk_cell BK261.out 2).trans rfl
                     have hfz75_0 := blk_frozen BK261.out 0
                     have hfz75_1 := blk_frozen BK261.out 1
                     have hfz75_2 := blk_frozen BK261.out 2
                     go_wp2
                     go_meet
                     case rel => exact ⟨_, (false), (by first | rfl | (simp; done) | (simp [*]; done)), H', ⟨by have := HJ2.out; have := HJ15.out; have := HJ25.out; have := HJ35.out; have := HK5.out; have := HJ46.out; first | omega | exact Nat.le_refl _⟩, ⟨kra_ HO_5.out⟩, ⟨blkx_ BK247.out⟩, ⟨blkx_ BK261.out⟩, ⟨by repeat (first | (with_reducible first | exact HB.out | apply below_alloc | apply pw_below_drewN | apply below_drew1 | refine below_set ?_ GE247.out | refine below_set ?_ GE261.out) | exact HB.out)⟩⟩
                    ·rw [if_neg c73] at H
                     have c73b0 : (((rd_T36 t251 x7_5).f2) == (-1)) = false := beq_eq_false_iff_ne.mpr c73
                     have c73b1 : (((rd_T36 t251 x7_5).f2) != (-1)) = true := bne_iff_ne.mpr c73
                     (first | rw [c73b0] | (simp only [i64_w, i32_w]; rw [c73b0]) | skip)
                     replace H := Option.bind_eq_some_iff.mp H
                     obtain ⟨t265, A760, H⟩ := H
                     replace H : (if t265 = true then ((limelightlaw07_hidden.f kj46 l0 ((rd_T36 t251 x7_5).f2) ((rd_T36 t251 x7_5).f0)).bind fun t266 => (limelightlaw07_AimHides.j6 kj46 l0 t251 x7_5 t266 ((rd_T36 t251 x7_5).f0) ((rd_T36 t251 x7_5).f1) ((rd_T36 t251 x7_5).f2))) else (limelightlaw07_AimHides.j6 kj46 l0 t251 x7_5 true ((rd_T36 t251 x7_5).f0) ((rd_T36 t251 x7_5).f1) ((rd_T36 t251 x7_5).f2))) = some r := H
                     have A76 := Aside0.mk A760
                     clear A760
                     by_cases c77 : t265 = true
                     ·subst c77
                      have H1 : ((limelightlaw07_hidden.f kj46 l0 ((rd_T36 t251 x7_5).f2) ((rd_T36 t251 x7_5).f0)).bind fun t266 => (limelightlaw07_AimHides.j6 kj46 l0 t251 x7_5 t266 ((rd_T36 t251 x7_5).f0) ((rd_T36 t251 x7_5).f1) ((rd_T36 t251 x7_5).f2))) = some r := by rw [if_pos rfl] at H; exact H
                      clear H
                      have H := H1
                      clear H1
                      replace H := Option.bind_eq_some_iff.mp H
                      obtain ⟨t266, A780, H⟩ := H
                      replace H : (limelightlaw07_AimHides.j6 kj46 l0 t251 x7_5 t266 ((rd_T36 t251 x7_5).f0) ((rd_T36 t251 x7_5).f1) ((rd_T36 t251 x7_5).f2)) = some r := H
                      have A78 := Aside0.mk A780
                      clear A780
                      have H' := Aside0.mk H
                      clear H
                      have hnb79 := NB261_247.out
                      have hnc79 := NB247_261.out
                      have hcz80_0 : wc.cell? ⟨gb261, 0, none⟩ = some (.int .i64 ((rd_T36 t251 x7_5).f0)) := (blk_cell BK261.out 0).trans rfl
                      have hcz80_1 : wc.cell? ⟨gb261, 1, none⟩ = some (.int .i64 ((rd_T36 t251 x7_5).f1)) := (blk_cell BK261.out 1).trans rfl
                      have hcz80_2 : wc.cell? ⟨gb261, 2, none⟩ = some (.int .i64 ((rd_T36 t251 x7_5).f2)) := (blk_cell BK261.out 2).trans rfl
                      have hfz80_0 := blk_frozen BK261.out 0
                      have hfz80_1 := blk_frozen BK261.out 1
                      have hfz80_2 := blk_frozen BK261.out 2
                      go_wp2_with (first | (go_at_call 14; (with_reducible refine (limelightref01_Is.calls _ _ l0 ((rd_T36 t251 x7_5).f2) true _ ?side1 ?side2 A76.out).mono ?_); (case side1 => exact kcb_ ((Kd.C_below HR0.out HB.out))); (case side2 => exact HC0.out); rintro e w81 ⟨rfl, hb⟩; have n0_ := Aside0.mk (Kd.R_below (kra_ HO_5.out) hb); have n1_ := Aside0.mk (blk_below (g := gb247) (o := .cells #[.int .i64 a1_0, .int .i64 a1_1, .int .i64 a1_2, .bool a1_3, .bool a1_4, .bool a1_5] 25 (0, 0)) (blkx_ BK247.out) hb); have n2_ := Aside0.mk (blk_below (g := gb261) (o := .cells #[.int .i64 ((rd_T36 t251 x7_5).f0), .int .i64 ((rd_T36 t251 x7_5).f1), .int .i64 ((rd_T36 t251 x7_5).f2)] 36 (0, 0)) (blkx_ BK261.out) hb); have n3_ := Aside0.mk (below_step (by repeat (first | (with_reducible first | exact HB.out | apply below_alloc | apply pw_below_drewN | apply below_drew1 | refine below_set ?_ GE247.out | refine below_set ?_ GE261.out) | exact HB.out)) hb); clear HO_5; clear BK247; clear BK261; clear HB; have HO_5 := n0_; have BK247 := n1_; have BK261 := n2_; have HB := n3_; clear n0_ n1_ n2_ n3_; (try clear hb); (try clear hb2); (try clear hk); (try clear hi); have hcz82_0 : w81.cell? ⟨gb261, 0, none⟩ = some (.int .i64 ((rd_T36 t251 x7_5).f0)) := (blk_cell BK261.out 0).trans rfl; have hcz82_1 : w81.cell? ⟨gb261, 1, none⟩ = some (.int .i64 ((rd_T36 t251 x7_5).f1)) := (blk_cell BK261.out 1).trans rfl; have hcz82_2 : w81.cell? ⟨gb261, 2, none⟩ = some (.int .i64 ((rd_T36 t251 x7_5).f2)) := (blk_cell BK261.out 2).trans rfl; have hfz82_0 := blk_frozen BK261.out 0; have hfz82_1 := blk_frozen BK261.out 1; have hfz82_2 := blk_frozen BK261.out 2) | (go_at_call 19; (with_reducible refine (limelightlaw07_hidden.calls kj46 _ _ l0 ((rd_T36 t251 x7_5).f2) ((rd_T36 t251 x7_5).f0) t266 _ ?side1 ?side2 A78.out).mono ?_); (case side1 => exact kcb_ ((Kd.C_below HR0.out HB.out))); (case side2 => exact HC0.out); rintro e w83 ⟨rfl, hb⟩; have n0_ := Aside0.mk (Kd.R_below (kra_ HO_5.out) hb); have n1_ := Aside0.mk (blk_below (g := gb247) (o := .cells #[.int .i64 a1_0, .int .i64 a1_1, .int .i64 a1_2, .bool a1_3, .bool a1_4, .bool a1_5] 25 (0, 0)) (blkx_ BK247.out) hb); have n2_ := Aside0.mk (blk_below (g := gb261) (o := .cells #[.int .i64 ((rd_T36 t251 x7_5).f0), .int .i64 ((rd_T36 t251 x7_5).f1), .int .i64 ((rd_T36 t251 x7_5).f2)] 36 (0, 0)) (blkx_ BK261.out) hb); have n3_ := Aside0.mk (below_step (by repeat (first | (with_reducible first | exact HB.out | apply below_alloc | apply pw_below_drewN | apply below_drew1 | refine below_set ?_ GE247.out | refine below_set ?_ GE261.out) | exact HB.out)) hb); clear HO_5; clear BK247; clear BK261; clear HB; have HO_5 := n0_; have BK247 := n1_; have BK261 := n2_; have HB := n3_; clear n0_ n1_ n2_ n3_; (try clear hb); (try clear hb2); (try clear hk); (try clear hi)))
                      go_meet
                      case rel => exact ⟨_, (t266), (by first | rfl | (simp; done) | (simp [*]; done)), H', ⟨by have := HJ2.out; have := HJ15.out; have := HJ25.out; have := HJ35.out; have := HK5.out; have := HJ46.out; first | omega | exact Nat.le_refl _⟩, ⟨kra_ HO_5.out⟩, ⟨blkx_ BK247.out⟩, ⟨blkx_ BK261.out⟩, ⟨by repeat (first | (with_reducible first | exact HB.out | apply below_alloc | apply pw_below_drewN | apply below_drew1 | refine below_set ?_ GE247.out | refine below_set ?_ GE261.out) | exact HB.out)⟩⟩
                     ·replace c77 := Bool.eq_false_iff.mpr c77
                      subst c77
                      have H1 : (limelightlaw07_AimHides.j6 kj46 l0 t251 x7_5 true ((rd_T36 t251 x7_5).f0) ((rd_T36 t251 x7_5).f1) ((rd_T36 t251 x7_5).f2)) = some r := by rw [if_neg (show ¬ (false = true) by decide)] at H; exact H
                      clear H
                      have H := H1
                      clear H1
                      have H' := Aside0.mk H
                      clear H
                      have hnb84 := NB261_247.out
                      have hnc84 := NB247_261.out
                      have hcz85_0 : wc.cell? ⟨gb261, 0, none⟩ = some (.int .i64 ((rd_T36 t251 x7_5).f0)) := (blk_cell BK261.out 0).trans rfl
                      have hcz85_1 : wc.cell? ⟨gb261, 1, none⟩ = some (.int .i64 ((rd_T36 t251 x7_5).f1)) := (blk_cell BK261.out 1).trans rfl
                      have hcz85_2 : wc.cell? ⟨gb261, 2, none⟩ = some (.int .i64 ((rd_T36 t251 x7_5).f2)) := (blk_cell BK261.out 2).trans rfl
                      have hfz85_0 := blk_frozen BK261.out 0
                      have hfz85_1 := blk_frozen BK261.out 1
                      have hfz85_2 := blk_frozen BK261.out 2
                      go_wp2_with (first | (go_at_call 14; (with_reducible refine (limelightref01_Is.calls _ _ l0 ((rd_T36 t251 x7_5).f2) false _ ?side1 ?side2 A76.out).mono ?_); (case side1 => exact kcb_ ((Kd.C_below HR0.out HB.out))); (case side2 => exact HC0.out); rintro e w86 ⟨rfl, hb⟩; have n0_ := Aside0.mk (Kd.R_below (kra_ HO_5.out) hb); have n1_ := Aside0.mk (blk_below (g := gb247) (o := .cells #[.int .i64 a1_0, .int .i64 a1_1, .int .i64 a1_2, .bool a1_3, .bool a1_4, .bool a1_5] 25 (0, 0)) (blkx_ BK247.out) hb); have n2_ := Aside0.mk (blk_below (g := gb261) (o := .cells #[.int .i64 ((rd_T36 t251 x7_5).f0), .int .i64 ((rd_T36 t251 x7_5).f1), .int .i64 ((rd_T36 t251 x7_5).f2)] 36 (0, 0)) (blkx_ BK261.out) hb); have n3_ := Aside0.mk (below_step (by repeat (first | (with_reducible first | exact HB.out | apply below_alloc | apply pw_below_drewN | apply below_drew1 | refine below_set ?_ GE247.out | refine below_set ?_ GE261.out) | exact HB.out)) hb); clear HO_5; clear BK247; clear BK261; clear HB; have HO_5 := n0_; have BK247 := n1_; have BK261 := n2_; have HB := n3_; clear n0_ n1_ n2_ n3_; (try clear hb); (try clear hb2); (try clear hk); (try clear hi)))
                      go_meet
                      case rel => exact ⟨_, (true), (by first | rfl | (simp; done) | (simp [*]; done)), H', ⟨by have := HJ2.out; have := HJ15.out; have := HJ25.out; have := HJ35.out; have := HK5.out; have := HJ46.out; first | omega | exact Nat.le_refl _⟩, ⟨kra_ HO_5.out⟩, ⟨blkx_ BK247.out⟩, ⟨blkx_ BK261.out⟩, ⟨by repeat (first | (with_reducible first | exact HB.out | apply below_alloc | apply pw_below_drewN | apply below_drew1 | refine below_set ?_ GE247.out | refine below_set ?_ GE261.out) | exact HB.out)⟩⟩
                   case rest =>
                    clear HC72
                    try clear c1
                    try clear p2
                    try clear q2
                    try clear hx2
                    try clear qi2
                    try clear c3
                    try clear c4
                    try clear c5
                    try clear c6
                    try clear c7
                    try clear c8
                    try clear c14
                    try clear p25
                    try clear q25
                    try clear hx25
                    try clear qi25
                    try clear p26
                    try clear q26
                    try clear hx26
                    try clear c31
                    try clear c31b0
                    try clear c31b1
                    try clear c31b2
                    try clear c32
                    try clear c38
                    try clear c40
                    try clear c40b0
                    try clear c40b1
                    try clear c41
                    try clear c41b0
                    try clear c41b1
                    try clear c44
                    try clear c45
                    try clear c45b0
                    try clear c46
                    try clear c46b0
                    try clear c49
                    try clear c52
                    try clear c54
                    try clear c56
                    try clear c63
                    try clear c68
                    try clear c71
                    try clear c73
                    try clear c73b0
                    try clear c73b1
                    try clear c74
                    try clear c77
                    try clear c79
                    try clear c84
                    try clear hcz23_5
                    try clear hcz24_0
                    try clear hcz24_1
                    try clear hcz24_2
                    try clear hcz24_3
                    try clear hcz24_4
                    try clear hcz24_5
                    try clear hcz50_0
                    try clear hcz50_1
                    try clear hcz50_2
                    try clear hcz57_0
                    try clear hcz57_1
                    try clear hcz57_2
                    try clear hcz59_0
                    try clear hcz59_1
                    try clear hcz59_2
                    try clear hcz61_0
                    try clear hcz61_1
                    try clear hcz61_2
                    try clear hcz64_0
                    try clear hcz64_1
                    try clear hcz64_2
                    try clear hcz66_0
                    try clear hcz66_1
                    try clear hcz66_2
                    try clear hcz69_0
                    try clear hcz69_1
                    try clear hcz69_2
                    try clear hcz75_0
                    try clear hcz75_1
                    try clear hcz75_2
                    try clear hcz80_0
                    try clear hcz80_1
                    try clear hcz80_2
                    try clear hcz82_0
                    try clear hcz82_1
                    try clear hcz82_2
                    try clear hcz85_0
                    try clear hcz85_1
                    try clear hcz85_2
                    try clear hcz9_0
                    try clear hcz9_1
                    try clear hcz9_2
                    try clear hcz9_3
                    try clear hcz9_4
                    try clear hcz9_5
                    try clear hfz17_0
                    try clear hfz17_1
                    try clear hfz17_2
                    try clear hfz17_3
                    try clear hfz17_4
                    try clear hfz17_5
                    try clear hfz21_0
                    try clear hfz21_1
                    try clear hfz21_2
                    try clear hfz21_3
                    try clear hfz21_4
                    try clear hfz21_5
                    try clear hfz23_0
                    try clear hfz23_1
                    try clear hfz23_2
                    try clear hfz23_3
                    try clear hfz23_4
                    try clear hfz23_5
                    try clear hfz24_0
                    try clear hfz24_1
                    try clear hfz24_2
                    try clear hfz24_3
                    try clear hfz24_4
                    try clear hfz24_5
                    try clear hfz50_0
                    try clear hfz50_1
                    try clear hfz50_2
                    try clear hfz57_0
                    try clear hfz57_1
                    try clear hfz57_2
                    try clear hfz59_0
                    try clear hfz59_1
                    try clear hfz59_2
                    try clear hfz61_0
                    try clear hfz61_1
                    try clear hfz61_2
                    try clear hfz64_0
                    try clear hfz64_1
                    try clear hfz64_2
                    try clear hfz66_0
                    try clear hfz66_1
                    try clear hfz66_2
                    try clear hfz69_0
                    try clear hfz69_1
                    try clear hfz69_2
                    try clear hfz75_0
                    try clear hfz75_1
                    try clear hfz75_2
                    try clear hfz80_0
                    try clear hfz80_1
                    try clear hfz80_2
                    try clear hfz82_0
                    try clear hfz82_1
                    try clear hfz82_2
                    try clear hfz85_0
                    try clear hfz85_1
                    try clear hfz85_2
                    try clear hfz9_0
                    try clear hfz9_1
                    try clear hfz9_2
                    try clear hfz9_3
                    try clear hfz9_4
                    try clear hfz9_5
                    try clear hx257_0
                    try clear hx257_1
                    try clear hx257_2
                    try clear hx258_0
                    try clear hx258_1
                    try clear hx258_2
                    try clear hx260_0
                    try clear hx260_1
                    try clear hx260_2
                    try clear p2
                    try clear p25
                    try clear p257
                    try clear p258
                    try clear p26
                    try clear p260
                    try clear q2
                    try clear q25
                    try clear q257
                    try clear q258
                    try clear q26
                    try clear q260
                    obtain ⟨kq, x120_71, rfl, HA, HJ71, HO_5, BK247, BK261, HB⟩ := hcut
                    cases kq with
                    | zero => exact absurd HA.out (by simp [limelightlaw07_AimHides.j6])
                    | succ kj71 =>
                     have H := HA.out
                     clear HA
                     simp only [limelightlaw07_AimHides.j6] at H
                     by_cases c87 : x120_71 = true
                     ·subst c87
                      have H1 : (none) = some r := by rw [if_pos rfl] at H; exact H
                      clear H
                      have H := H1
                      clear H1
                      exact absurd H (by simp)
                     ·replace c87 := Bool.eq_false_iff.mpr c87
                      subst c87
                      have H1 : (limelightlaw07_AimHides.l1 kj71 l0 t251 x7_5 0 ((rd_T36 t251 x7_5).f0) ((rd_T36 t251 x7_5).f1) ((rd_T36 t251 x7_5).f2)) = some r := by rw [if_neg (show ¬ (false = true) by decide)] at H; exact H
                      clear H
                      have H := H1
                      clear H1
                      have H' := Aside0.mk H
                      clear H
                      go_wp2
                      go_loopg [9] kj71 (fun kq v9 w' => ∃ (x9_8 : Int), v9 = .int .i64 x9_8 ∧ Aside0 (limelightlaw07_AimHides.l1 kq l0 t251 x7_5 x9_8 ((rd_T36 t251 x7_5).f0) ((rd_T36 t251 x7_5).f1) ((rd_T36 t251 x7_5).f2) = some r) ∧ Aside0 (kq ≤ kj71) ∧ Aside0 (Kd.R k36 36 w' w.heap.size (fun k_ => k_ ≠ gb261) (.slice (some ad260) t251.length co37) t251) ∧ Aside0 (w'.heap[gb247]? = some (.cells #[.int .i64 a1_0, .int .i64 a1_1, .int .i64 a1_2, .bool a1_3, .bool a1_4, .bool a1_5] 25 (0, 0))) ∧ Aside0 (w'.heap[gb261]? = some (.cells #[.int .i64 ((rd_T36 t251 x7_5).f0), .int .i64 ((rd_T36 t251 x7_5).f1), .int .i64 ((rd_T36 t251 x7_5).f2)] 36 (0, 0))) ∧ Aside0 (Below w.heap.size w w'))
                      case atStart => exact ⟨(0), (by first | rfl | (simp; done) | (simp [*]; done)), H', ⟨Nat.le_refl _⟩, ⟨kra_ HO_5.out⟩, ⟨blkx_ BK247.out⟩, ⟨blkx_ BK261.out⟩, ⟨by repeat (first | (with_reducible first | exact HB.out | apply below_alloc | apply pw_below_drewN | apply below_drew1 | refine below_set ?_ GE247.out | refine below_set ?_ GE261.out) | exact HB.out)⟩⟩
                      case round =>
                       clear H'
                       try clear c1
                       try clear p2
                       try clear q2
                       try clear hx2
                       try clear qi2
                       try clear c3
                       try clear c4
                       try clear c5
                       try clear c6
                       try clear c7
                       try clear c8
                       try clear c14
                       try clear p25
                       try clear q25
                       try clear hx25
                       try clear qi25
                       try clear p26
                       try clear q26
                       try clear hx26
                       try clear c31
                       try clear c31b0
                       try clear c31b1
                       try clear c31b2
                       try clear c32
                       try clear c38
                       try clear c40
                       try clear c40b0
                       try clear c40b1
                       try clear c41
                       try clear c41b0
                       try clear c41b1
                       try clear c44
                       try clear c45
                       try clear c45b0
                       try clear c46
                       try clear c46b0
                       try clear c49
                       try clear c52
                       try clear c54
                       try clear c56
                       try clear c63
                       try clear c68
                       try clear c71
                       try clear c73
                       try clear c73b0
                       try clear c73b1
                       try clear c74
                       try clear c77
                       try clear c79
                       try clear c84
                       try clear c87
                       try clear hcz23_5
                       try clear hcz24_0
                       try clear hcz24_1
                       try clear hcz24_2
                       try clear hcz24_3
                       try clear hcz24_4
                       try clear hcz24_5
                       try clear hcz50_0
                       try clear hcz50_1
                       try clear hcz50_2
                       try clear hcz57_0
                       try clear hcz57_1
                       try clear hcz57_2
                       try clear hcz59_0
                       try clear hcz59_1
                       try clear hcz59_2
                       try clear hcz61_0
                       try clear hcz61_1
                       try clear hcz61_2
                       try clear hcz64_0
                       try clear hcz64_1
                       try clear hcz64_2
                       try clear hcz66_0
                       try clear hcz66_1
                       try clear hcz66_2
                       try clear hcz69_0
                       try clear hcz69_1
                       try clear hcz69_2
                       try clear hcz75_0
                       try clear hcz75_1
                       try clear hcz75_2
                       try clear hcz80_0
                       try clear hcz80_1
                       try clear hcz80_2
                       try clear hcz82_0
                       try clear hcz82_1
                       try clear hcz82_2
                       try clear hcz85_0
                       try clear hcz85_1
                       try clear hcz85_2
                       try clear hcz9_0
                       try clear hcz9_1
                       try clear hcz9_2
                       try clear hcz9_3
                       try clear hcz9_4
                       try clear hcz9_5
                       try clear hfz17_0
                       try clear hfz17_1
                       try clear hfz17_2
                       try clear hfz17_3
                       try clear hfz17_4
                       try clear hfz17_5
                       try clear hfz21_0
                       try clear hfz21_1
                       try clear hfz21_2
                       try clear hfz21_3
                       try clear hfz21_4
                       try clear hfz21_5
                       try clear hfz23_0
                       try clear hfz23_1
                       try clear hfz23_2
                       try clear hfz23_3
                       try clear hfz23_4
                       try clear hfz23_5
                       try clear hfz24_0
                       try clear hfz24_1
                       try clear hfz24_2
                       try clear hfz24_3
                       try clear hfz24_4
                       try clear hfz24_5
                       try clear hfz50_0
                       try clear hfz50_1
                       try clear hfz50_2
                       try clear hfz57_0
                       try clear hfz57_1
                       try clear hfz57_2
                       try clear hfz59_0
                       try clear hfz59_1
                       try clear hfz59_2
                       try clear hfz61_0
                       try clear hfz61_1
                       try clear hfz61_2
                       try clear hfz64_0
                       try clear hfz64_1
                       try clear hfz64_2
                       try clear hfz66_0
                       try clear hfz66_1
                       try clear hfz66_2
                       try clear hfz69_0
                       try clear hfz69_1
                       try clear hfz69_2
                       try clear hfz75_0
                       try clear hfz75_1
                       try clear hfz75_2
                       try clear hfz80_0
                       try clear hfz80_1
                       try clear hfz80_2
                       try clear hfz82_0
                       try clear hfz82_1
                       try clear hfz82_2
                       try clear hfz85_0
                       try clear hfz85_1
                       try clear hfz85_2
                       try clear hfz9_0
                       try clear hfz9_1
                       try clear hfz9_2
                       try clear hfz9_3
                       try clear hfz9_4
                       try clear hfz9_5
                       try clear hx257_0
                       try clear hx257_1
                       try clear hx257_2
                       try clear hx258_0
                       try clear hx258_1
                       try clear hx258_2
                       try clear hx260_0
                       try clear hx260_1
                       try clear hx260_2
                       try clear p2
                       try clear p25
                       try clear p257
                       try clear p258
                       try clear p26
                       try clear p260
                       try clear q2
                       try clear q25
                       try clear q257
                       try clear q258
                       try clear q26
                       try clear q260
                       obtain ⟨x9_8, rfl, HA, HK8, HO_5, BK247, BK261, HB⟩ := hrel
                       cases gk with
                       | zero => exact absurd HA.out (by simp [limelightlaw07_AimHides.l1])
                       | succ k8 =>
                        have H := HA.out
                        clear HA
                        simp only [limelightlaw07_AimHides.l1] at H
                        by_cases c88 : x9_8 < x7_5
                        ·rw [if_pos c88] at H
                         have c88b0 : decide (x9_8 < x7_5) = true := decide_eq_true c88
                         clear c88
                         by_cases c89 : 0 ≤ x9_8
                         ·rw [if_pos c89] at H
                          have c89b0 : decide (0 ≤ x9_8) = true := decide_eq_true c89
                          clear c89
                          by_cases c90 : x9_8 < (t251.length : Int)
                          ·rw [if_pos c90] at H
                           have c90b0 : decide (x9_8 < (t251.length : Int)) = true := decide_eq_true c90
                           clear c90
                           by_cases c91 : ((rd_T36 t251 x9_8).f0) = ((rd_T36 t251 x7_5).f0)
                           ·rw [if_pos c91] at H
                            exact absurd H (by simp)
                           ·rw [if_neg c91] at H
                            have c91b0 : (((rd_T36 t251 x9_8).f0) == ((rd_T36 t251 x7_5).f0)) = false := beq_eq_false_iff_ne.mpr c91
                            have c91b1 : (((rd_T36 t251 x9_8).f0) != ((rd_T36 t251 x7_5).f0)) = true := bne_iff_ne.mpr c91
                            have H' := Aside0.mk H
                            clear H
                            try go_wp2
                            have n0_ := Aside0.mk (Kd.R_drew HO_5.out)
                            have n1_ := Aside0.mk (blk_drew BK247.out)
                            have n2_ := Aside0.mk (blk_drew BK261.out)
                            have n3_ := Aside0.mk (below_drew1 HB.out)
                            clear HO_5
                            clear BK247
                            clear BK261
                            clear HB
                            have HO_5 := n0_
                            have BK247 := n1_
                            have BK261 := n2_
                            have HB := n3_
                            clear n0_ n1_ n2_ n3_
                            have p267 : 0 ≤ (x9_8 : Int) := of_decide_eq_true asm_
                            have q267 : x9_8 < (t251.length : Int) := of_decide_eq_true asm_
                            obtain ⟨ad267, e267, hx267_0, hx267_1, hx267_2⟩ := at_T36 (Kd.R_reads' HO_5.out).2.2 x9_8 p267 q267
                            obtain rfl : ad260 = ad267 := (by injection e267)
                            replace p267 := eq_true p267
                            replace q267 := eq_true q267
                            refine start_ (n := 8) (S := fun w' => w'.cell? ⟨gb261, 0, none⟩ = some (.int .i64 ((rd_T36 t251 x7_5).f0)) ∧ w'.cell? ⟨gb261, 1, none⟩ = some (.int .i64 ((rd_T36 t251 x7_5).f1)) ∧ w'.cell? ⟨gb261, 2, none⟩ = some (.int .i64 ((rd_T36 t251 x7_5).f2)) ∧ w'.cell? (ad260.add ((x9_8).toNat * 3)) = some (.int .i64 ((rd_T36 t251 x9_8).f0)) ∧ w'.cell? ⟨(ad260.add ((x9_8).toNat * 3)).block, (ad260.add ((x9_8).toNat * 3)).off + 1, none⟩ = some (.int .i64 ((rd_T36 t251 x9_8).f1)) ∧ w'.cell? ⟨(ad260.add ((x9_8).toNat * 3)).block, (ad260.add ((x9_8).toNat * 3)).off + 2, none⟩ = some (.int .i64 ((rd_T36 t251 x9_8).f2))) (ds := []) #[false, false, false, false, false, false, false, false] (by kernel_rfl) rfl rfl ⟨(blk_cell BK261.out 0).trans rfl, (blk_cell BK261.out 1).trans rfl, (blk_cell BK261.out 2).trans rfl, hx267_0, hx267_1, hx267_2⟩ (fun hHeld => ?_); refine with_tabW limelightlaw07_AimHides.tab22 limelightlaw07_AimHides.bits22 (fun HT_ HW_ => ?_)
                            generalize wr.drew = w92 at HO_5 BK247 BK261 HB hx267_0 hx267_1 hx267_2 hHeld ⊢
                            refine pure_ (i := 0) (N := some 126) (v := ?_) (a' := ?_) #[true, false, false, false, false, false, false, false] rfl rfl (any_of HT_.out (by kernel_rfl)) (fun _ _ _ h => h) (Or.inl ⟨by rfl, ?_⟩) ?_ ?_
                            rotate_left
                            ·intro w'
                             go_simp
                             with_reducible rfl
                            rotate_left
                            ·simp only [Act.put, List.setIfInBounds_toArray, List.set_cons_zero, List.set_cons_succ, i64_w, i32_w]
                             rfl
                            refine pure_ (i := 1) (N := some 127) (v := ?_) (a' := ?_) #[true, true, false, false, false, false, false, false] rfl rfl (any_of HT_.out (by kernel_rfl)) (fun _ _ _ h => h) (Or.inl ⟨by rfl, ?_⟩) ?_ ?_
                            rotate_left
                            ·intro w'
                             go_simp
                             with_reducible rfl
                            rotate_left
                            ·simp only [Act.put, List.setIfInBounds_toArray, List.set_cons_zero, List.set_cons_succ, i64_w, i32_w]
                             rfl
                            refine pure_ (i := 2) (N := some 128) (v := ?_) (a' := ?_) #[true, true, true, false, false, false, false, false] rfl rfl (any_of HT_.out (by kernel_rfl)) (fun _ _ _ h => h) (Or.inl ⟨by rfl, ?_⟩) ?_ ?_
                            rotate_left
                            ·intro w'
                             go_simp
                             with_reducible rfl
                            rotate_left
                            ·simp only [Act.put, List.setIfInBounds_toArray, List.set_cons_zero, List.set_cons_succ, i64_w, i32_w]
                             rfl
                            refine pure_ (i := 3) (N := some 129) (v := ?_) (a' := ?_) #[true, true, true, true, false, false, false, false] rfl rfl (any_of HT_.out (by kernel_rfl)) (fun _ _ _ h => h) (Or.inl ⟨by rfl, ?_⟩) ?_ ?_
                            rotate_left
                            ·intro w'
                             go_simp
                             with_reducible rfl
                            rotate_left
                            ·simp only [Act.put, List.setIfInBounds_toArray, List.set_cons_zero, List.set_cons_succ, i64_w, i32_w]
                             rfl
                            refine pure_ (i := 5) (N := some 131) (v := ?_) (a' := ?_) #[true, true, true, true, false, true, false, false] rfl rfl (any_of HT_.out (by kernel_rfl)) (fun _ _ _ h => h) (Or.inl ⟨by rfl, ?_⟩) ?_ ?_
                            rotate_left
                            ·intro w'
                             go_simp
                             with_reducible rfl
                            rotate_left
                            ·simp only [Act.put, List.setIfInBounds_toArray, List.set_cons_zero, List.set_cons_succ, i64_w, i32_w]
                             rfl
                            refine take_ (i := 4) (N := some 130) (v := ?_) (a' := ?_) #[true, true, true, true, true, true, false, false] rfl rfl (take_ofW HT_.out HW_.out (by kernel_rfl)) (fun _ _ _ h => h) (Or.inl ⟨by rfl, ?_⟩) hHeld ?_ ?_
                            rotate_left
                            ·rintro w' ⟨s0, s1, s2, s3, s4, s5⟩
                             go_simp
                             with_reducible rfl
                            rotate_left
                            ·simp only [Act.put, List.setIfInBounds_toArray, List.set_cons_zero, List.set_cons_succ, i64_w, i32_w]
                             rfl
                            refine take_ (i := 6) (N := some 132) (v := ?_) (a' := ?_) #[true, true, true, true, true, true, true, false] rfl rfl (take_ofW HT_.out HW_.out (by kernel_rfl)) (fun _ _ _ h => h) (Or.inl ⟨by rfl, ?_⟩) hHeld ?_ ?_
                            rotate_left
                            ·rintro w' ⟨s0, s1, s2, s3, s4, s5⟩
                             go_simp
                             with_reducible rfl
                            rotate_left
                            ·simp only [Act.put, List.setIfInBounds_toArray, List.set_cons_zero, List.set_cons_succ, i64_w, i32_w]
                             rfl
                            refine pure_ (i := 7) (N := some 133) (v := ?_) (a' := ?_) #[true, true, true, true, true, true, true, true] rfl rfl (any_of HT_.out (by kernel_rfl)) (fun _ _ _ h => h) (Or.inl ⟨by rfl, ?_⟩) ?_ ?_
                            rotate_left
                            ·intro w'
                             go_simp
                             with_reducible rfl
                            rotate_left
                            ·simp only [Act.put, List.setIfInBounds_toArray, List.set_cons_zero, List.set_cons_succ, i64_w, i32_w]
                             rfl
                            refine done_ (done_of HT_.out (by kernel_rfl)) ?_
                            try go_wp2
                            go_roundg k8
                            case measure => have := HJ2.out; have := HJ15.out; have := HJ25.out; have := HJ35.out; have := HK5.out; have := HJ46.out; have := HJ71.out; have := HK8.out; omega
                            case rel => exact ⟨(wrap64 (x9_8 + 1)), (by first | rfl | (simp; done) | (simp [*]; done)), H', ⟨by have := HJ2.out; have := HJ15.out; have := HJ25.out; have := HJ35.out; have := HK5.out; have := HJ46.out; have := HJ71.out; have := HK8.out; omega⟩, ⟨kra_ HO_5.out⟩, ⟨blkx_ BK247.out⟩, ⟨blkx_ BK261.out⟩, ⟨by repeat (first | (with_reducible first | exact HB.out | apply below_alloc | apply pw_below_drewN | apply below_drew1 | refine below_set ?_ GE247.out | refine below_set ?_ GE261.out) | exact HB.out)⟩⟩
                          ·rw [if_neg c90] at H
                           exact absurd H (by simp)
                         ·rw [if_neg c89] at H
                          exact absurd H (by simp)
                        ·rw [if_neg c88] at H
                         have c88b0 : decide (x9_8 < x7_5) = false := decide_eq_false c88
                         clear c88
                         have H' := Aside0.mk H
                         clear H
                         go_wp2
                         go_roundg k8
                         case measure => have := HJ2.out; have := HJ15.out; have := HJ25.out; have := HJ35.out; have := HK5.out; have := HJ46.out; have := HJ71.out; have := HK8.out; omega
                         case rel => exact ⟨(wrap64 (x7_5 + 1)), (by first | rfl | (simp; done) | (simp [*]; done)), H', ⟨by have := HJ2.out; have := HJ15.out; have := HJ25.out; have := HJ35.out; have := HK5.out; have := HJ46.out; have := HJ71.out; have := HK8.out; omega⟩, ⟨by (with_reducible repeat (first | apply Kd.R_alloc | apply Kd.R_drewN | apply Kd.R_drew)); exact Kd.R_mono HO_5.out (fun _ hk => trivial)⟩, ⟨blkx_ BK247.out⟩, ⟨by repeat (first | (with_reducible first | exact HB.out | apply below_alloc | apply pw_below_drewN | apply below_drew1 | refine below_set ?_ GE247.out | refine below_set ?_ GE261.out) | exact HB.out)⟩⟩
               ·rw [if_neg c46] at H
                exact absurd H (by simp)
              ·rw [if_neg c45] at H
               have c45b0 : decide (x7_5 < (t251.length : Int)) = false := decide_eq_false c45
               clear c45
               replace H := Option.bind_eq_some_iff.mp H
               obtain ⟨t259, A930, H⟩ := H
               replace H : (some t259) = some r := H
               have A93 := Aside0.mk A930
               clear A930
               obtain rfl := Option.some.inj H
               go_wp2_with (first | ((with_reducible refine gate_callee (f := 9) rfl ?_); refine goesL_ (some 134) rfl rfl Try.func9 (by kernel_rfl) rfl #[] rfl margs_ ?_; (with_reducible refine (limelightlaw07_live.calls  t259 _ A93.out).mono ?_); rintro e w94 ⟨rfl, hb⟩; refine ⟨_, rfl, ?_⟩; have n0_ := Aside0.mk (Kd.R_below (kra_ HO_5.out) hb); have n1_ := Aside0.mk (blk_below (g := gb247) (o := .cells #[.int .i64 a1_0, .int .i64 a1_1, .int .i64 a1_2, .bool a1_3, .bool a1_4, .bool a1_5] 25 (0, 0)) (blkx_ BK247.out) hb); have n2_ := Aside0.mk (below_step (belg_ GE247.out) hb); clear HO_5; clear BK247; clear HB; have HO_5 := n0_; have BK247 := n1_; have HB := n2_; clear n0_ n1_ n2_; (try clear hb); (try clear hb2); (try clear hk); (try clear hi)))
               go_ret
               exact ⟨by first | rfl | (simp [errW_none, errW_some] <;> rfl) | (simp [*, errW_none, errW_some] <;> rfl), belg_ GE247.out⟩

end Go.Proofs.Ytbdokcdnajdmaaa.P
