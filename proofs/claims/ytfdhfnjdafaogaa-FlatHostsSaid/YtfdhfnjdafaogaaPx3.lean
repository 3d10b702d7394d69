-- printed by wip/tools/pp.sh (a patched copy of the print's program), for this claim.
import Derived.Test.YtfdhfnjdafaogaaPx0
import Derived.Test.YtfdhfnjdafaogaaPx1
import Derived.Test.YtfdhfnjdafaogaaPx2
namespace Go.Proofs.Ytfdhfnjdafaogaa.P
open Go.RowKit Go.Proofs.YtfdhfnjdafaogaaW.PrintWords Go.Proofs.YtfdhfnjdafaogaaW.PrintLast Go.Proofs.YtfdhfnjdafaogaaW.PrintMore
attribute [local go_sem] max2_int min2_int max_two min_two max_three min_three max_four min_four   -- for this text's walks alone
set_option linter.unusedVariables false
set_option linter.unusedSimpArgs false

/-! ### limelightref05_Of: function 30 -/
def limelightref05_Of.l0 : Nat → List (S36) → Int → List Int → Int → Option (Int)
 | 0, _, _, _, _ => none
 | k + 1, x0, x1, x7, x10 => if x10 < (x7.length : Int) then (if 0 ≤ x10 then ((limelightref05_name.f k x0 (rd x7 x10)).bind fun t161 => ((limelightref05_name.f k x0 x1).bind fun t162 => (if t161 = t162 then (some (rd x7 x10)) else (limelightref05_Of.l0 k x0 x1 x7 (wrap64 (x10 + 1)))))) else (none)) else (some (-1))
def limelightref05_Of.f (k : Nat) (l0 : List (S36)) (a1 : Int) : Option (Int) := if 0 ≤ a1 then (if a1 < (l0.length : Int) then (if ((rd_T36 l0 a1).f2) = (-1) then (some (-1)) else (if 0 ≤ ((rd_T36 l0 a1).f2) then (if ((rd_T36 l0 a1).f2) < (l0.length : Int) then (if ((rd_T36 l0 ((rd_T36 l0 a1).f2)).f5) = (-1) then (some (-1)) else ((limelightref05_All.f k l0 ((rd_T36 l0 ((rd_T36 l0 a1).f2)).f5)).bind fun t153 => ((limelightref02_Has.f k l0 ((rd_T36 l0 ((rd_T36 l0 a1).f2)).f5) 8).bind fun t156 => (if t156 = true then ((limelightref02_Get.f k l0 a1 9).bind fun bt157 => (if bt157.2 = true then ((limelightref03_In.f k t153 bt157.1).bind fun t159 => (if t159 = true then (some bt157.1) else (some (-1)))) else (some (-1)))) else (limelightref05_Of.l0 k l0 a1 t153 0))))) else (none)) else (none))) else (none)) else (none)
theorem limelightref05_Of.mono_l : ∀ k, (∀ y0 y1 y2 y3, LeO (limelightref05_Of.l0 k y0 y1 y2 y3) (limelightref05_Of.l0 (k + 1) y0 y1 y2 y3))
 | 0 => fun _ _ _ _ r h => by simp [limelightref05_Of.l0] at h
 | k + 1 => by
  have ih0 := limelightref05_Of.mono_l k
  ·intro y0 y1 y2 y3
   unfold limelightref05_Of.l0
   repeat' first
   | (with_reducible exact ih0 _ _ _ _)
   | (with_reducible exact limelightref02_Get.mono _ _ _ _)
   | (with_reducible exact limelightref02_Has.mono _ _ _ _)
   | (with_reducible exact limelightref03_In.mono _ _ _)
   | (with_reducible exact limelightref05_All.mono _ _ _)
   | (with_reducible exact limelightref05_name.mono _ _ _)
   | (with_reducible exact LeO.refl _)
   | (with_reducible exact LeO.none _)
   | (with_reducible refine LeO.ite ?_ ?_)
   | (with_reducible refine LeO.bind ?_ (fun _ => ?_))
   | exact ih0 _ _ _ _
   | exact limelightref02_Get.mono _ _ _ _
   | exact limelightref02_Has.mono _ _ _ _
   | exact limelightref03_In.mono _ _ _
   | exact limelightref05_All.mono _ _ _
   | exact limelightref05_name.mono _ _ _
   | exact LeO.none _
   | refine LeO.ite ?_ ?_
   | refine LeO.bind ?_ (fun _ => ?_)
theorem limelightref05_Of.mono : ∀ a0 a1 k, LeO (limelightref05_Of.f k a0 a1) (limelightref05_Of.f (k + 1) a0 a1) := by
 intro a0 a1 k
 have ih0 := limelightref05_Of.mono_l k
 unfold limelightref05_Of.f
 repeat' first
   | (with_reducible exact ih0 _ _ _ _)
   | (with_reducible exact limelightref02_Get.mono _ _ _ _)
   | (with_reducible exact limelightref02_Has.mono _ _ _ _)
   | (with_reducible exact limelightref03_In.mono _ _ _)
   | (with_reducible exact limelightref05_All.mono _ _ _)
   | (with_reducible exact limelightref05_name.mono _ _ _)
   | (with_reducible exact LeO.refl _)
   | (with_reducible exact LeO.none _)
   | (with_reducible refine LeO.ite ?_ ?_)
   | (with_reducible refine LeO.bind ?_ (fun _ => ?_))
   | exact ih0 _ _ _ _
   | exact limelightref02_Get.mono _ _ _ _
   | exact limelightref02_Has.mono _ _ _ _
   | exact limelightref03_In.mono _ _ _
   | exact limelightref05_All.mono _ _ _
   | exact limelightref05_name.mono _ _ _
   | exact LeO.none _
   | refine LeO.ite ?_ ?_
   | refine LeO.bind ?_ (fun _ => ?_)
set_option maxHeartbeats 8000000 in
set_option maxRecDepth 100000 in
theorem limelightref05_Of.calls (k : Nat) (A0 : Option Addr) (c0 : Nat) (l0 : List (S36)) (a1 : Int) (r : Int) (w : World) (hr0 : Kd.C k36 w A0 l0.length l0) (hc0 : l0.length ≤ c0) (h : limelightref05_Of.f k l0 a1 = some r) :
  Calls Try.prog 30 #[.slice A0 l0.length c0, .int .i64 a1] w fun e w' => e = .returned (.int .i64 r) ∧ Below w.heap.size w w' := by
 have HR0 := Aside0.mk hr0
 have HC0 := Aside0.mk hc0
 clear hr0 hc0
 have HB := Aside0.mk (Below.refl w.heap.size w)
 have H : (if 0 ≤ a1 then (if a1 < (l0.length : Int) then (if ((rd_T36 l0 a1).f2) = (-1) then (some (-1)) else (if 0 ≤ ((rd_T36 l0 a1).f2) then (if ((rd_T36 l0 a1).f2) < (l0.length : Int) then (if ((rd_T36 l0 ((rd_T36 l0 a1).f2)).f5) = (-1) then (some (-1)) else ((limelightref05_All.f k l0 ((rd_T36 l0 ((rd_T36 l0 a1).f2)).f5)).bind fun t153 => ((limelightref02_Has.f k l0 ((rd_T36 l0 ((rd_T36 l0 a1).f2)).f5) 8).bind fun t156 => (if t156 = true then ((limelightref02_Get.f k l0 a1 9).bind fun bt157 => (if bt157.2 = true then ((limelightref03_In.f k t153 bt157.1).bind fun t159 => (if t159 = true then (some bt157.1) else (some (-1)))) else (some (-1)))) else (limelightref05_Of.l0 k l0 a1 t153 0))))) else (none)) else (none))) else (none)) else (none)) = some r := h
 clear h
 by_cases c3 : 0 ≤ a1
 ·rw [if_pos c3] at H
  have c3b0 : decide (0 ≤ a1) = true := decide_eq_true c3
  clear c3
  by_cases c4 : a1 < (l0.length : Int)
  ·rw [if_pos c4] at H
   have c4b0 : decide (a1 < (l0.length : Int)) = true := decide_eq_true c4
   clear c4
   by_cases c5 : ((rd_T36 l0 a1).f2) = (-1)
   ·rw [if_pos c5] at H
    have c5b0 : (((rd_T36 l0 a1).f2) == (-1)) = true := beq_iff_eq.mpr c5
    have c5b1 : (((rd_T36 l0 a1).f2) != (-1)) = false := bne_eq_false_iff_eq.mpr c5
    clear c5
    obtain rfl := Option.some.inj H
    have p151 : 0 ≤ (a1 : Int) := of_decide_eq_true asm_
    have q151 : a1 < (l0.length : Int) := of_decide_eq_true asm_
    obtain ⟨ad151, A151_3, c151_3, A151_6, c151_6, e151, hx151_0, hx151_1, hx151_2, hx151_3, hx151_4, hx151_5, hx151_6, hl151_3, hi151_3, hl151_6, hi151_6⟩ := at_T36 HR0.out a1 p151 q151
    cases e151
    have HR151_3 := Aside0.mk hi151_3
    have HC151_3 := Aside0.mk hl151_3
    clear hi151_3 hl151_3
    have HR151_6 := Aside0.mk hi151_6
    have HC151_6 := Aside0.mk hl151_6
    clear hi151_6 hl151_6
    replace p151 := eq_true p151
    replace q151 := eq_true q151
    go_enter Try.func30, Try.ntmps30
    go_wp2
    go_ret
    exact ⟨by first | rfl | (simp [errW_none, errW_some] <;> rfl) | (simp [*, errW_none, errW_some] <;> rfl), bel_⟩
   ·rw [if_neg c5] at H
    have c5b0 : (((rd_T36 l0 a1).f2) == (-1)) = false := beq_eq_false_iff_ne.mpr c5
    have c5b1 : (((rd_T36 l0 a1).f2) != (-1)) = true := bne_iff_ne.mpr c5
    by_cases c6 : 0 ≤ ((rd_T36 l0 a1).f2)
    ·rw [if_pos c6] at H
     have c6b0 : decide (0 ≤ ((rd_T36 l0 a1).f2)) = true := decide_eq_true c6
     clear c6
     by_cases c7 : ((rd_T36 l0 a1).f2) < (l0.length : Int)
     ·rw [if_pos c7] at H
      have c7b0 : decide (((rd_T36 l0 a1).f2) < (l0.length : Int)) = true := decide_eq_true c7
      clear c7
      by_cases c8 : ((rd_T36 l0 ((rd_T36 l0 a1).f2)).f5) = (-1)
      ·rw [if_pos c8] at H
       have c8b0 : (((rd_T36 l0 ((rd_T36 l0 a1).f2)).f5) == (-1)) = true := beq_iff_eq.mpr c8
       have c8b1 : (((rd_T36 l0 ((rd_T36 l0 a1).f2)).f5) != (-1)) = false := bne_eq_false_iff_eq.mpr c8
       clear c8
       obtain rfl := Option.some.inj H
       have p151 : 0 ≤ (a1 : Int) := of_decide_eq_true asm_
       have q151 : a1 < (l0.length : Int) := of_decide_eq_true asm_
       obtain ⟨ad151, A151_3, c151_3, A151_6, c151_6, e151, hx151_0, hx151_1, hx151_2, hx151_3, hx151_4, hx151_5, hx151_6, hl151_3, hi151_3, hl151_6, hi151_6⟩ := at_T36 HR0.out a1 p151 q151
       cases e151
       have HR151_3 := Aside0.mk hi151_3
       have HC151_3 := Aside0.mk hl151_3
       clear hi151_3 hl151_3
       have HR151_6 := Aside0.mk hi151_6
       have HC151_6 := Aside0.mk hl151_6
       clear hi151_6 hl151_6
       replace p151 := eq_true p151
       replace q151 := eq_true q151
       have p152 : 0 ≤ (((rd_T36 l0 a1).f2) : Int) := of_decide_eq_true asm_
       have q152 : ((rd_T36 l0 a1).f2) < (l0.length : Int) := of_decide_eq_true asm_
       obtain ⟨ad152, A152_3, c152_3, A152_6, c152_6, e152, hx152_0, hx152_1, hx152_2, hx152_3, hx152_4, hx152_5, hx152_6, hl152_3, hi152_3, hl152_6, hi152_6⟩ := at_T36 HR0.out ((rd_T36 l0 a1).f2) p152 q152
       obtain rfl : ad151 = ad152 := (by injection e152)
       have HR152_3 := Aside0.mk hi152_3
       have HC152_3 := Aside0.mk hl152_3
       clear hi152_3 hl152_3
       have HR152_6 := Aside0.mk hi152_6
       have HC152_6 := Aside0.mk hl152_6
       clear hi152_6 hl152_6
       replace p152 := eq_true p152
       replace q152 := eq_true q152
       go_enter Try.func30, Try.ntmps30
       go_wp2
       go_ret
       exact ⟨by first | rfl | (simp [errW_none, errW_some] <;> rfl) | (simp [*, errW_none, errW_some] <;> rfl), bel_⟩
      ·rw [if_neg c8] at H
       have c8b0 : (((rd_T36 l0 ((rd_T36 l0 a1).f2)).f5) == (-1)) = false := beq_eq_false_iff_ne.mpr c8
       have c8b1 : (((rd_T36 l0 ((rd_T36 l0 a1).f2)).f5) != (-1)) = true := bne_iff_ne.mpr c8
       replace H := Option.bind_eq_some_iff.mp H
       obtain ⟨t153, A90, H⟩ := H
       replace H : ((limelightref02_Has.f k l0 ((rd_T36 l0 ((rd_T36 l0 a1).f2)).f5) 8).bind fun t156 => (if t156 = true then ((limelightref02_Get.f k l0 a1 9).bind fun bt157 => (if bt157.2 = true then ((limelightref03_In.f k t153 bt157.1).bind fun t159 => (if t159 = true then (some bt157.1) else (some (-1)))) else (some (-1)))) else (limelightref05_Of.l0 k l0 a1 t153 0))) = some r := H
       have A9 := Aside0.mk A90
       clear A90
       replace H := Option.bind_eq_some_iff.mp H
       obtain ⟨t156, A100, H⟩ := H
       replace H : (if t156 = true then ((limelightref02_Get.f k l0 a1 9).bind fun bt157 => (if bt157.2 = true then ((limelightref03_In.f k t153 bt157.1).bind fun t159 => (if t159 = true then (some bt157.1) else (some (-1)))) else (some (-1)))) else (limelightref05_Of.l0 k l0 a1 t153 0)) = some r := H
       have A10 := Aside0.mk A100
       clear A100
       by_cases c11 : t156 = true
       ·subst c11
        have H1 : ((limelightref02_Get.f k l0 a1 9).bind fun bt157 => (if bt157.2 = true then ((limelightref03_In.f k t153 bt157.1).bind fun t159 => (if t159 = true then (some bt157.1) else (some (-1)))) else (some (-1)))) = some r := by rw [if_pos rfl] at H; exact H
        clear H
        have H := H1
        clear H1
        replace H := Option.bind_eq_some_iff.mp H
        obtain ⟨⟨t157, t158⟩, A120, H⟩ := H
        replace H : (if t158 = true then ((limelightref03_In.f k t153 t157).bind fun t159 => (if t159 = true then (some t157) else (some (-1)))) else (some (-1))) = some r := H
        have A12 := Aside0.mk A120
        clear A120
        by_cases c13 : t158 = true
        ·subst c13
         have H1 : ((limelightref03_In.f k t153 t157).bind fun t159 => (if t159 = true then (some t157) else (some (-1)))) = some r := by rw [if_pos rfl] at H; exact H
         clear H
         have H := H1
         clear H1
         replace H := Option.bind_eq_some_iff.mp H
         obtain ⟨t159, A140, H⟩ := H
         replace H : (if t159 = true then (some t157) else (some (-1))) = some r := H
         have A14 := Aside0.mk A140
         clear A140
         by_cases c15 : t159 = true
         ·subst c15
          have H1 : (some t157) = some r := by rw [if_pos rfl] at H; exact H
          clear H
          have H := H1
          clear H1
          obtain rfl := Option.some.inj H
          have p151 : 0 ≤ (a1 : Int) := of_decide_eq_true asm_
          have q151 : a1 < (l0.length : Int) := of_decide_eq_true asm_
          obtain ⟨ad151, A151_3, c151_3, A151_6, c151_6, e151, hx151_0, hx151_1, hx151_2, hx151_3, hx151_4, hx151_5, hx151_6, hl151_3, hi151_3, hl151_6, hi151_6⟩ := at_T36 HR0.out a1 p151 q151
          cases e151
          have HR151_3 := Aside0.mk hi151_3
          have HC151_3 := Aside0.mk hl151_3
          clear hi151_3 hl151_3
          have HR151_6 := Aside0.mk hi151_6
          have HC151_6 := Aside0.mk hl151_6
          clear hi151_6 hl151_6
          replace p151 := eq_true p151
          replace q151 := eq_true q151
          have p152 : 0 ≤ (((rd_T36 l0 a1).f2) : Int) := of_decide_eq_true asm_
          have q152 : ((rd_T36 l0 a1).f2) < (l0.length : Int) := of_decide_eq_true asm_
          obtain ⟨ad152, A152_3, c152_3, A152_6, c152_6, e152, hx152_0, hx152_1, hx152_2, hx152_3, hx152_4, hx152_5, hx152_6, hl152_3, hi152_3, hl152_6, hi152_6⟩ := at_T36 HR0.out ((rd_T36 l0 a1).f2) p152 q152
          obtain rfl : ad151 = ad152 := (by injection e152)
          have HR152_3 := Aside0.mk hi152_3
          have HC152_3 := Aside0.mk hl152_3
          clear hi152_3 hl152_3
          have HR152_6 := Aside0.mk hi152_6
          have HC152_6 := Aside0.mk hl152_6
          clear hi152_6 hl152_6
          replace p152 := eq_true p152
          replace q152 := eq_true q152
          go_enter Try.func30, Try.ntmps30
          go_wp2_with (first | ((with_reducible refine gate_callee (f := 48) rfl ?_); refine goesL_ (some 27) rfl rfl Try.func48 (by kernel_rfl) rfl #[.slice (some ad151) l0.length c0, .int .i64 ((rd_T36 l0 ((rd_T36 l0 a1).f2)).f5)] rfl margs_ ?_; (with_reducible refine (limelightref05_All.calls k _ _ l0 ((rd_T36 l0 ((rd_T36 l0 a1).f2)).f5) t153 _ ?side1 ?side2 A9.out).mono ?_); (case side1 => exact kcb_ (HR0.out)); (case side2 => exact HC0.out); rintro e w16 ⟨v154, rfl, ho0, hb⟩; refine ⟨_, rfl, ?_⟩; have n0_ := Aside0.mk (Kd.R_lower ho0 (below_size bel_)); have n1_ := Aside0.mk (below_step bel_ hb); clear HB; have HO155 := n0_; have HB := n1_; clear n0_ n1_; (try clear hb); (try clear hb2); (try clear hk); (try clear hi); (try clear ho0)) | ((with_reducible refine gate_callee (f := 49) rfl ?_); refine goesL_ (some 30) rfl rfl Try.func49 (by kernel_rfl) rfl #[.slice (some ad151) l0.length c0, .int .i64 ((rd_T36 l0 ((rd_T36 l0 a1).f2)).f5), .int .i64 8] rfl margs_ ?_; (with_reducible refine (limelightref02_Has.calls k _ _ l0 ((rd_T36 l0 ((rd_T36 l0 a1).f2)).f5) 8 true _ ?side1 ?side2 A10.out).mono ?_); (case side1 => exact kcb_ ((Kd.C_below HR0.out HB.out))); (case side2 => exact HC0.out); rintro e w17 ⟨rfl, hb⟩; refine ⟨_, rfl, ?_⟩; have n0_ := Aside0.mk (Kd.R_below (kra_ HO155.out) hb); have n1_ := Aside0.mk (below_step bel_ hb); clear HO155; clear HB; have HO155 := n0_; have HB := n1_; clear n0_ n1_; (try clear hb); (try clear hb2); (try clear hk); (try clear hi)) | ((with_reducible refine gate_callee (f := 50) rfl ?_); refine goesL_ (some 34) rfl rfl Try.func50 (by kernel_rfl) rfl #[.slice (some ad151) l0.length c0, .int .i64 a1, .int .i64 9] rfl margs_ ?_; (with_reducible refine (limelightref02_Get.calls k _ _ l0 a1 9 t157 true _ ?side1 ?side2 A12.out).mono ?_); (case side1 => exact kcb_ ((Kd.C_below HR0.out HB.out))); (case side2 => exact HC0.out); rintro e w18 ⟨rfl, hb⟩; refine ⟨_, rfl, ?_⟩; have n0_ := Aside0.mk (Kd.R_below (kra_ HO155.out) hb); have n1_ := Aside0.mk (below_step bel_ hb); clear HO155; clear HB; have HO155 := n0_; have HB := n1_; clear n0_ n1_; (try clear hb); (try clear hb2); (try clear hk); (try clear hi); obtain ⟨Ao19, co19, eo19⟩ := Kd.R_slice HO155.out; subst eo19) | (go_at_call 26; (with_reducible refine (limelightref03_In.calls k _ _ t153 t157 true _ ?side1 ?side2 A14.out).mono ?_); (case side1 => exact kcb_ ((Kd.R_reads' HO155.out).2.2)); (case side2 => exact (Kd.R_reads' HO155.out).2.1); rintro e w' ⟨rfl, ⟨nd, rfl⟩⟩))
          go_ret
          exact ⟨by first | rfl | (simp [errW_none, errW_some] <;> rfl) | (simp [*, errW_none, errW_some] <;> rfl), bel_⟩
         ·replace c15 := Bool.eq_false_iff.mpr c15
          subst c15
          have H1 : (some (-1)) = some r := by rw [if_neg (show ¬ (false = true) by decide)] at H; exact H
          clear H
          have H := H1
          clear H1
          obtain rfl := Option.some.inj H
          have p151 : 0 ≤ (a1 : Int) := of_decide_eq_true asm_
          have q151 : a1 < (l0.length : Int) := of_decide_eq_true asm_
          obtain ⟨ad151, A151_3, c151_3, A151_6, c151_6, e151, hx151_0, hx151_1, hx151_2, hx151_3, hx151_4, hx151_5, hx151_6, hl151_3, hi151_3, hl151_6, hi151_6⟩ := at_T36 HR0.out a1 p151 q151
          cases e151
          have HR151_3 := Aside0.mk hi151_3
          have HC151_3 := Aside0.mk hl151_3
          clear hi151_3 hl151_3
          have HR151_6 := Aside0.mk hi151_6
          have HC151_6 := Aside0.mk hl151_6
          clear hi151_6 hl151_6
          replace p151 := eq_true p151
          replace q151 := eq_true q151
          have p152 : 0 ≤ (((rd_T36 l0 a1).f2) : Int) := of_decide_eq_true asm_
          have q152 : ((rd_T36 l0 a1).f2) < (l0.length : Int) := of_decide_eq_true asm_
          obtain ⟨ad152, A152_3, c152_3, A152_6, c152_6, e152, hx152_0, hx152_1, hx152_2, hx152_3, hx152_4, hx152_5, hx152_6, hl152_3, hi152_3, hl152_6, hi152_6⟩ := at_T36 HR0.out ((rd_T36 l0 a1).f2) p152 q152
          obtain rfl : ad151 = ad152 := (by injection e152)
          have HR152_3 := Aside0.mk hi152_3
          have HC152_3 := Aside0.mk hl152_3
          clear hi152_3 hl152_3
          have HR152_6 := Aside0.mk hi152_6
          have HC152_6 := Aside0.mk hl152_6
          clear hi152_6 hl152_6
          replace p152 := eq_true p152
          replace q152 := eq_true q152
          go_enter Try.func30, Try.ntmps30
          go_wp2_with (first | ((with_reducible refine gate_callee (f := 48) rfl ?_); refine goesL_ (some 27) rfl rfl Try.func48 (by kernel_rfl) rfl #[.slice (some ad151) l0.length c0, .int .i64 ((rd_T36 l0 ((rd_T36 l0 a1).f2)).f5)] rfl margs_ ?_; (with_reducible refine (limelightref05_All.calls k _ _ l0 ((rd_T36 l0 ((rd_T36 l0 a1).f2)).f5) t153 _ ?side1 ?side2 A9.out).mono ?_); (case side1 => exact kcb_ (HR0.out)); (case side2 => exact HC0.out); rintro e w20 ⟨v154, rfl, ho0, hb⟩; refine ⟨_, rfl, ?_⟩; have n0_ := Aside0.mk (Kd.R_lower ho0 (below_size bel_)); have n1_ := Aside0.mk (below_step bel_ hb); clear HB; have HO155 := n0_; have HB := n1_; clear n0_ n1_; (try clear hb); (try clear hb2); (try clear hk); (try clear hi); (try clear ho0)) | ((with_reducible refine gate_callee (f := 49) rfl ?_); refine goesL_ (some 30) rfl rfl Try.func49 (by kernel_rfl) rfl #[.slice (some ad151) l0.length c0, .int .i64 ((rd_T36 l0 ((rd_T36 l0 a1).f2)).f5), .int .i64 8] rfl margs_ ?_; (with_reducible refine (limelightref02_Has.calls k _ _ l0 ((rd_T36 l0 ((rd_T36 l0 a1).f2)).f5) 8 true _ ?side1 ?side2 A10.out).mono ?_); (case side1 => exact kcb_ ((Kd.C_below HR0.out HB.out))); (case side2 => exact HC0.out); rintro e w21 ⟨rfl, hb⟩; refine ⟨_, rfl, ?_⟩; have n0_ := Aside0.mk (Kd.R_below (kra_ HO155.out) hb); have n1_ := Aside0.mk (below_step bel_ hb); clear HO155; clear HB; have HO155 := n0_; have HB := n1_; clear n0_ n1_; (try clear hb); (try clear hb2); (try clear hk); (try clear hi)) | ((with_reducible refine gate_callee (f := 50) rfl ?_); refine goesL_ (some 34) rfl rfl Try.func50 (by kernel_rfl) rfl #[.slice (some ad151) l0.length c0, .int .i64 a1, .int .i64 9] rfl margs_ ?_; (with_reducible refine (limelightref02_Get.calls k _ _ l0 a1 9 t157 true _ ?side1 ?side2 A12.out).mono ?_); (case side1 => exact kcb_ ((Kd.C_below HR0.out HB.out))); (case side2 => exact HC0.out); rintro e w22 ⟨rfl, hb⟩; refine ⟨_, rfl, ?_⟩; have n0_ := Aside0.mk (Kd.R_below (kra_ HO155.out) hb); have n1_ := Aside0.mk (below_step bel_ hb); clear HO155; clear HB; have HO155 := n0_; have HB := n1_; clear n0_ n1_; (try clear hb); (try clear hb2); (try clear hk); (try clear hi); obtain ⟨Ao23, co23, eo23⟩ := Kd.R_slice HO155.out; subst eo23) | (go_at_call 26; (with_reducible refine (limelightref03_In.calls k _ _ t153 t157 false _ ?side1 ?side2 A14.out).mono ?_); (case side1 => exact kcb_ ((Kd.R_reads' HO155.out).2.2)); (case side2 => exact (Kd.R_reads' HO155.out).2.1); rintro e w' ⟨rfl, ⟨nd, rfl⟩⟩))
          go_ret
          exact ⟨by first | rfl | (simp [errW_none, errW_some] <;> rfl) | (simp [*, errW_none, errW_some] <;> rfl), bel_⟩
        ·replace c13 := Bool.eq_false_iff.mpr c13
         subst c13
         have H1 : (some (-1)) = some r := by rw [if_neg (show ¬ (false = true) by decide)] at H; exact H
         clear H
         have H := H1
         clear H1
         obtain rfl := Option.some.inj H
         have p151 : 0 ≤ (a1 : Int) := of_decide_eq_true asm_
         have q151 : a1 < (l0.length : Int) := of_decide_eq_true asm_
         obtain ⟨ad151, A151_3, c151_3, A151_6, c151_6, e151, hx151_0, hx151_1, hx151_2, hx151_3, hx151_4, hx151_5, hx151_6, hl151_3, hi151_3, hl151_6, hi151_6⟩ := at_T36 HR0.out a1 p151 q151
         cases e151
         have HR151_3 := Aside0.mk hi151_3
         have HC151_3 := Aside0.mk hl151_3
         clear hi151_3 hl151_3
         have HR151_6 := Aside0.mk hi151_6
         have HC151_6 := Aside0.mk hl151_6
         clear hi151_6 hl151_6
         replace p151 := eq_true p151
         replace q151 := eq_true q151
         have p152 : 0 ≤ (((rd_T36 l0 a1).f2) : Int) := of_decide_eq_true asm_
         have q152 : ((rd_T36 l0 a1).f2) < (l0.length : Int) := of_decide_eq_true asm_
         obtain ⟨ad152, A152_3, c152_3, A152_6, c152_6, e152, hx152_0, hx152_1, hx152_2, hx152_3, hx152_4, hx152_5, hx152_6, hl152_3, hi152_3, hl152_6, hi152_6⟩ := at_T36 HR0.out ((rd_T36 l0 a1).f2) p152 q152
         obtain rfl : ad151 = ad152 := (by injection e152)
         have HR152_3 := Aside0.mk hi152_3
         have HC152_3 := Aside0.mk hl152_3
         clear hi152_3 hl152_3
         have HR152_6 := Aside0.mk hi152_6
         have HC152_6 := Aside0.mk hl152_6
         clear hi152_6 hl152_6
         replace p152 := eq_true p152
         replace q152 := eq_true q152
         go_enter Try.func30, Try.ntmps30
         go_wp2_with (first | ((with_reducible refine gate_callee (f := 48) rfl ?_); refine goesL_ (some 27) rfl rfl Try.func48 (by kernel_rfl) rfl #[.slice (some ad151) l0.length c0, .int .i64 ((rd_T36 l0 ((rd_T36 l0 a1).f2)).f5)] rfl margs_ ?_; (with_reducible refine (limelightref05_All.calls k _ _ l0 ((rd_T36 l0 ((rd_T36 l0 a1).f2)).f5) t153 _ ?side1 ?side2 A9.out).mono ?_); (case side1 => exact kcb_ (HR0.out)); (case side2 => exact HC0.out); rintro e w24 ⟨v154, rfl, ho0, hb⟩; refine ⟨_, rfl, ?_⟩; have n0_ := Aside0.mk (Kd.R_lower ho0 (below_size bel_)); have n1_ := Aside0.mk (below_step bel_ hb); clear HB; have HO155 := n0_; have HB := n1_; clear n0_ n1_; (try clear hb); (try clear hb2); (try clear hk); (try clear hi); (try clear ho0)) | ((with_reducible refine gate_callee (f := 49) rfl ?_); refine goesL_ (some 30) rfl rfl Try.func49 (by kernel_rfl) rfl #[.slice (some ad151) l0.length c0, .int .i64 ((rd_T36 l0 ((rd_T36 l0 a1).f2)).f5), .int .i64 8] rfl margs_ ?_; (with_reducible refine (limelightref02_Has.calls k _ _ l0 ((rd_T36 l0 ((rd_T36 l0 a1).f2)).f5) 8 true _ ?side1 ?side2 A10.out).mono ?_); (case side1 => exact kcb_ ((Kd.C_below HR0.out HB.out))); (case side2 => exact HC0.out); rintro e w25 ⟨rfl, hb⟩; refine ⟨_, rfl, ?_⟩; have n0_ := Aside0.mk (Kd.R_below (kra_ HO155.out) hb); have n1_ := Aside0.mk (below_step bel_ hb); clear HO155; clear HB; have HO155 := n0_; have HB := n1_; clear n0_ n1_; (try clear hb); (try clear hb2); (try clear hk); (try clear hi)) | ((with_reducible refine gate_callee (f := 50) rfl ?_); refine goesL_ (some 34) rfl rfl Try.func50 (by kernel_rfl) rfl #[.slice (some ad151) l0.length c0, .int .i64 a1, .int .i64 9] rfl margs_ ?_; (with_reducible refine (limelightref02_Get.calls k _ _ l0 a1 9 t157 false _ ?side1 ?side2 A12.out).mono ?_); (case side1 => exact kcb_ ((Kd.C_below HR0.out HB.out))); (case side2 => exact HC0.out); rintro e w26 ⟨rfl, hb⟩; refine ⟨_, rfl, ?_⟩; have n0_ := Aside0.mk (Kd.R_below (kra_ HO155.out) hb); have n1_ := Aside0.mk (below_step bel_ hb); clear HO155; clear HB; have HO155 := n0_; have HB := n1_; clear n0_ n1_; (try clear hb); (try clear hb2); (try clear hk); (try clear hi)))
         go_ret
         exact ⟨by first | rfl | (simp [errW_none, errW_some] <;> rfl) | (simp [*, errW_none, errW_some] <;> rfl), bel_⟩
       ·replace c11 := Bool.eq_false_iff.mpr c11
        subst c11
        have H1 : (limelightref05_Of.l0 k l0 a1 t153 0) = some r := by rw [if_neg (show ¬ (false = true) by decide)] at H; exact H
        clear H
        have H := H1
        clear H1
        have H' := Aside0.mk H
        clear H
        have p151 : 0 ≤ (a1 : Int) := of_decide_eq_true asm_
        have q151 : a1 < (l0.length : Int) := of_decide_eq_true asm_
        obtain ⟨ad151, A151_3, c151_3, A151_6, c151_6, e151, hx151_0, hx151_1, hx151_2, hx151_3, hx151_4, hx151_5, hx151_6, hl151_3, hi151_3, hl151_6, hi151_6⟩ := at_T36 HR0.out a1 p151 q151
        cases e151
        have HR151_3 := Aside0.mk hi151_3
        have HC151_3 := Aside0.mk hl151_3
        clear hi151_3 hl151_3
        have HR151_6 := Aside0.mk hi151_6
        have HC151_6 := Aside0.mk hl151_6
        clear hi151_6 hl151_6
        replace p151 := eq_true p151
        replace q151 := eq_true q151
        have p152 : 0 ≤ (((rd_T36 l0 a1).f2) : Int) := of_decide_eq_true asm_
        have q152 : ((rd_T36 l0 a1).f2) < (l0.length : Int) := of_decide_eq_true asm_
        obtain ⟨ad152, A152_3, c152_3, A152_6, c152_6, e152, hx152_0, hx152_1, hx152_2, hx152_3, hx152_4, hx152_5, hx152_6, hl152_3, hi152_3, hl152_6, hi152_6⟩ := at_T36 HR0.out ((rd_T36 l0 a1).f2) p152 q152
        obtain rfl : ad151 = ad152 := (by injection e152)
        have HR152_3 := Aside0.mk hi152_3
        have HC152_3 := Aside0.mk hl152_3
        clear hi152_3 hl152_3
        have HR152_6 := Aside0.mk hi152_6
        have HC152_6 := Aside0.mk hl152_6
        clear hi152_6 hl152_6
        replace p152 := eq_true p152
        replace q152 := eq_true q152
        go_enter Try.func30, Try.ntmps30
        go_wp2_with (first | ((with_reducible refine gate_callee (f := 48) rfl ?_); refine goesL_ (some 27) rfl rfl Try.func48 (by kernel_rfl) rfl #[.slice (some ad151) l0.length c0, .int .i64 ((rd_T36 l0 ((rd_T36 l0 a1).f2)).f5)] rfl margs_ ?_; (with_reducible refine (limelightref05_All.calls k _ _ l0 ((rd_T36 l0 ((rd_T36 l0 a1).f2)).f5) t153 _ ?side1 ?side2 A9.out).mono ?_); (case side1 => exact kcb_ (HR0.out)); (case side2 => exact HC0.out); rintro e w27 ⟨v154, rfl, ho0, hb⟩; refine ⟨_, rfl, ?_⟩; have n0_ := Aside0.mk (Kd.R_lower ho0 (below_size bel_)); have n1_ := Aside0.mk (below_step bel_ hb); clear HB; have HO155 := n0_; have HB := n1_; clear n0_ n1_; (try clear hb); (try clear hb2); (try clear hk); (try clear hi); (try clear ho0)) | ((with_reducible refine gate_callee (f := 49) rfl ?_); refine goesL_ (some 30) rfl rfl Try.func49 (by kernel_rfl) rfl #[.slice (some ad151) l0.length c0, .int .i64 ((rd_T36 l0 ((rd_T36 l0 a1).f2)).f5), .int .i64 8] rfl margs_ ?_; (with_reducible refine (limelightref02_Has.calls k _ _ l0 ((rd_T36 l0 ((rd_T36 l0 a1).f2)).f5) 8 false _ ?side1 ?side2 A10.out).mono ?_); (case side1 => exact kcb_ ((Kd.C_below HR0.out HB.out))); (case side2 => exact HC0.out); rintro e w28 ⟨rfl, hb⟩; refine ⟨_, rfl, ?_⟩; have n0_ := Aside0.mk (Kd.R_below (kra_ HO155.out) hb); have n1_ := Aside0.mk (below_step bel_ hb); clear HO155; clear HB; have HO155 := n0_; have HB := n1_; clear n0_ n1_; (try clear hb); (try clear hb2); (try clear hk); (try clear hi)))
        go_loopg [10] k (fun kq v10 w' => ∃ (x10_1 : Int), v10 = .int .i64 x10_1 ∧ Aside0 (limelightref05_Of.l0 kq l0 a1 t153 x10_1 = some r) ∧ Aside0 (kq ≤ k) ∧ Aside0 (Kd.R (Kd.int .i64) 3 w' w.heap.size (fun _ => True) v154 t153) ∧ Aside0 (Below w.heap.size w w'))
        case atStart => exact ⟨(0), (by first | rfl | (simp; done) | (simp [*]; done)), H', ⟨Nat.le_refl _⟩, ⟨kra_ HO155.out⟩, ⟨bel_⟩⟩
        case round =>
         clear H'
         try clear c1
         try clear p1
         try clear q1
         try clear hx1
         try clear p2
         try clear c3
         try clear c3b0
         try clear c4
         try clear c4b0
         try clear c5
         try clear c5b0
         try clear c5b1
         try clear c6
         try clear c6b0
         try clear c7
         try clear c7b0
         try clear c8
         try clear c8b0
         try clear c8b1
         try clear c11
         try clear c13
         try clear c15
         try clear p15
         try clear q15
         try clear hx15
         try clear hx151_0
         try clear hx151_1
         try clear hx151_2
         try clear hx151_3
         try clear hx151_4
         try clear hx151_5
         try clear hx151_6
         try clear hx152_0
         try clear hx152_1
         try clear hx152_2
         try clear hx152_3
         try clear hx152_4
         try clear hx152_5
         try clear hx152_6
         try clear p151
         try clear p152
         try clear q151
         try clear q152
         obtain ⟨x10_1, rfl, HA, HK1, HO_7, HB⟩ := hrel
         cases gk with
         | zero => exact absurd HA.out (by simp [limelightref05_Of.l0])
         | succ k1 =>
          have H := HA.out
          clear HA
          simp only [limelightref05_Of.l0] at H
          by_cases c29 : x10_1 < (t153.length : Int)
          ·rw [if_pos c29] at H
           have c29b0 : decide (x10_1 < (t153.length : Int)) = true := decide_eq_true c29
           clear c29
           by_cases c30 : 0 ≤ x10_1
           ·rw [if_pos c30] at H
            have c30b0 : decide (0 ≤ x10_1) = true := decide_eq_true c30
            clear c30
            replace H := Option.bind_eq_some_iff.mp H
            obtain ⟨t161, A310, H⟩ := H
            replace H : ((limelightref05_name.f k1 l0 a1).bind fun t162 => (if t161 = t162 then (some (rd t153 x10_1)) else (limelightref05_Of.l0 k1 l0 a1 t153 (wrap64 (x10_1 + 1))))) = some r := H
            have A31 := Aside0.mk A310
            clear A310
            replace H := Option.bind_eq_some_iff.mp H
            obtain ⟨t162, A320, H⟩ := H
            replace H : (if t161 = t162 then (some (rd t153 x10_1)) else (limelightref05_Of.l0 k1 l0 a1 t153 (wrap64 (x10_1 + 1)))) = some r := H
            have A32 := Aside0.mk A320
            clear A320
            by_cases c33 : t161 = t162
            ·rw [if_pos c33] at H
             have c33b0 : (t161 == t162) = true := beq_iff_eq.mpr c33
             have c33b1 : (t161 != t162) = false := bne_eq_false_iff_eq.mpr c33
             clear c33
             obtain rfl := Option.some.inj H
             obtain ⟨Ao34, co34, eo34⟩ := Kd.R_slice HO_7.out
             subst eo34
             have p160 : 0 ≤ (x10_1 : Int) := of_decide_eq_true asm_
             have q160 : x10_1 < (t153.length : Int) := of_decide_eq_true asm_
             obtain ⟨ad160, e160, hx160_0⟩ := Kd.at_int (Kd.R_reads' HO_7.out).2.2 x10_1 p160 q160
             cases e160
             replace p160 := eq_true p160
             replace q160 := eq_true q160
             go_wp2_with (first | ((with_reducible refine gate_callee (f := 51) rfl ?_); refine goesL_ (some 55) rfl rfl Try.func51 (by kernel_rfl) rfl #[.slice (some ad151) l0.length c0, .int .i64 (rd t153 x10_1)] rfl margs_ ?_; (with_reducible refine (limelightref05_name.calls k1 _ _ l0 (rd t153 x10_1) t161 _ ?side1 ?side2 A31.out).mono ?_); (case side1 => exact kcb_ ((Kd.C_below HR0.out HB.out))); (case side2 => exact HC0.out); rintro e w35 ⟨rfl, hb⟩; refine ⟨_, rfl, ?_⟩; have n0_ := Aside0.mk (Kd.R_below (kra_ HO_7.out) hb); have n1_ := Aside0.mk (below_step bel_ hb); clear HO_7; clear HB; have HO_7 := n0_; have HB := n1_; clear n0_ n1_; (try clear hb); (try clear hb2); (try clear hk); (try clear hi)) | ((with_reducible refine gate_callee (f := 51) rfl ?_); refine goesL_ (some 58) rfl rfl Try.func51 (by kernel_rfl) rfl #[.slice (some ad151) l0.length c0, .int .i64 a1] rfl margs_ ?_; (with_reducible refine (limelightref05_name.calls k1 _ _ l0 a1 t162 _ ?side1 ?side2 A32.out).mono ?_); (case side1 => exact kcb_ ((Kd.C_below HR0.out HB.out))); (case side2 => exact HC0.out); rintro e w36 ⟨rfl, hb⟩; refine ⟨_, rfl, ?_⟩; have n0_ := Aside0.mk (Kd.R_below (kra_ HO_7.out) hb); have n1_ := Aside0.mk (below_step bel_ hb); clear HO_7; clear HB; have HO_7 := n0_; have HB := n1_; clear n0_ n1_; (try clear hb); (try clear hb2); (try clear hk); (try clear hi); have p163 : 0 ≤ (x10_1 : Int) := of_decide_eq_true asm_; have q163 : x10_1 < (t153.length : Int) := of_decide_eq_true asm_; obtain ⟨ad163, e163, hx163_0⟩ := Kd.at_int (Kd.R_reads' HO_7.out).2.2 x10_1 p163 q163; obtain rfl : ad160 = ad163 := (by injection e163); replace p163 := eq_true p163; replace q163 := eq_true q163))
             go_ret
             exact ⟨by first | rfl | (simp [errW_none, errW_some] <;> rfl) | (simp [*, errW_none, errW_some] <;> rfl), bel_⟩
            ·rw [if_neg c33] at H
             have c33b0 : (t161 == t162) = false := beq_eq_false_iff_ne.mpr c33
             have c33b1 : (t161 != t162) = true := bne_iff_ne.mpr c33
             have H' := Aside0.mk H
             clear H
             obtain ⟨Ao37, co37, eo37⟩ := Kd.R_slice HO_7.out
             subst eo37
             have p160 : 0 ≤ (x10_1 : Int) := of_decide_eq_true asm_
             have q160 : x10_1 < (t153.length : Int) := of_decide_eq_true asm_
             obtain ⟨ad160, e160, hx160_0⟩ := Kd.at_int (Kd.R_reads' HO_7.out).2.2 x10_1 p160 q160
             cases e160
             replace p160 := eq_true p160
             replace q160 := eq_true q160
             go_wp2_with (first | ((with_reducible refine gate_callee (f := 51) rfl ?_); refine goesL_ (some 55) rfl rfl Try.func51 (by kernel_rfl) rfl #[.slice (some ad151) l0.length c0, .int .i64 (rd t153 x10_1)] rfl margs_ ?_; (with_reducible refine (limelightref05_name.calls k1 _ _ l0 (rd t153 x10_1) t161 _ ?side1 ?side2 A31.out).mono ?_); (case side1 => exact kcb_ ((Kd.C_below HR0.out HB.out))); (case side2 => exact HC0.out); rintro e w38 ⟨rfl, hb⟩; refine ⟨_, rfl, ?_⟩; have n0_ := Aside0.mk (Kd.R_below (kra_ HO_7.out) hb); have n1_ := Aside0.mk (below_step bel_ hb); clear HO_7; clear HB; have HO_7 := n0_; have HB := n1_; clear n0_ n1_; (try clear hb); (try clear hb2); (try clear hk); (try clear hi)) | ((with_reducible refine gate_callee (f := 51) rfl ?_); refine goesL_ (some 58) rfl rfl Try.func51 (by kernel_rfl) rfl #[.slice (some ad151) l0.length c0, .int .i64 a1] rfl margs_ ?_; (with_reducible refine (limelightref05_name.calls k1 _ _ l0 a1 t162 _ ?side1 ?side2 A32.out).mono ?_); (case side1 => exact kcb_ ((Kd.C_below HR0.out HB.out))); (case side2 => exact HC0.out); rintro e w39 ⟨rfl, hb⟩; refine ⟨_, rfl, ?_⟩; have n0_ := Aside0.mk (Kd.R_below (kra_ HO_7.out) hb); have n1_ := Aside0.mk (below_step bel_ hb); clear HO_7; clear HB; have HO_7 := n0_; have HB := n1_; clear n0_ n1_; (try clear hb); (try clear hb2); (try clear hk); (try clear hi)))
             go_roundg k1
             case measure => have := HK1.out; omega
             case rel => exact ⟨(wrap64 (x10_1 + 1)), (by first | rfl | (simp; done) | (simp [*]; done)), H', ⟨by have := HK1.out; omega⟩, ⟨kra_ HO_7.out⟩, ⟨bel_⟩⟩
           ·rw [if_neg c30] at H
            exact absurd H (by simp)
          ·rw [if_neg c29] at H
           have c29b0 : decide (x10_1 < (t153.length : Int)) = false := decide_eq_false c29
           clear c29
           obtain rfl := Option.some.inj H
           obtain ⟨Ao40, co40, eo40⟩ := Kd.R_slice HO_7.out
           subst eo40
           go_wp2
           go_ret
           exact ⟨by first | rfl | (simp [errW_none, errW_some] <;> rfl) | (simp [*, errW_none, errW_some] <;> rfl), bel_⟩
     ·rw [if_neg c7] at H
      exact absurd H (by simp)
    ·rw [if_neg c6] at H
     exact absurd H (by simp)
  ·rw [if_neg c4] at H
   exact absurd H (by simp)
 ·rw [if_neg c3] at H
  exact absurd H (by simp)

/-! ### limelightref05_Assigned: function 40 -/
def limelightref05_Assigned.l0 : Nat → List (S36) → Int → List Int → Int → Int → Option (List Int)
 | 0, _, _, _, _, _ => none
 | k + 1, x0, x1, x5, x6, x7 => if 0 ≤ x6 then (if x6 < (x0.length : Int) then (if x7 < (((rd_T36 x0 x6).f3).length : Int) then (if 0 ≤ x7 then ((limelightref05_Of.f k x0 (rd ((rd_T36 x0 x6).f3) x7)).bind fun t170 => (if t170 = x1 then (if x5.length < 17592186044416 then (limelightref05_Assigned.l0 k x0 x1 (x5 ++ [rd ((rd_T36 x0 x6).f3) x7]) x6 (wrap64 (x7 + 1))) else (none)) else (limelightref05_Assigned.l0 k x0 x1 x5 x6 (wrap64 (x7 + 1))))) else (none)) else (some x5)) else (none)) else (none)
def limelightref05_Assigned.f (k : Nat) (l0 : List (S36)) (a1 : Int) : Option (List Int) := (limelightref05_Is.f k l0 a1).bind fun t164 => (if t164 = true then ((limelightref03_Top.f k l0 a1).bind fun t165 => (if 0 ≤ t165 then (if t165 < (l0.length : Int) then (limelightref05_Assigned.l0 k l0 a1 ([] : List Int) ((rd_T36 l0 t165).f4) 0) else (none)) else (none))) else (some ([] : List Int)))
theorem limelightref05_Assigned.mono_l : ∀ k, (∀ y0 y1 y2 y3 y4, LeO (limelightref05_Assigned.l0 k y0 y1 y2 y3 y4) (limelightref05_Assigned.l0 (k + 1) y0 y1 y2 y3 y4))
 | 0 => fun _ _ _ _ _ r h => by simp [limelightref05_Assigned.l0] at h
 | k + 1 => by
  have ih0 := limelightref05_Assigned.mono_l k
  ·intro y0 y1 y2 y3 y4
   unfold limelightref05_Assigned.l0
   repeat' first
   | (with_reducible exact ih0 _ _ _ _ _)
   | (with_reducible exact limelightref03_Top.mono _ _ _)
   | (with_reducible exact limelightref05_Is.mono _ _ _)
   | (with_reducible exact limelightref05_Of.mono _ _ _)
   | (with_reducible exact LeO.refl _)
   | (with_reducible exact LeO.none _)
   | (with_reducible refine LeO.ite ?_ ?_)
   | (with_reducible refine LeO.bind ?_ (fun _ => ?_))
   | exact ih0 _ _ _ _ _
   | exact limelightref03_Top.mono _ _ _
   | exact limelightref05_Is.mono _ _ _
   | exact limelightref05_Of.mono _ _ _
   | exact LeO.none _
   | refine LeO.ite ?_ ?_
   | refine LeO.bind ?_ (fun _ => ?_)
theorem limelightref05_Assigned.mono : ∀ a0 a1 k, LeO (limelightref05_Assigned.f k a0 a1) (limelightref05_Assigned.f (k + 1) a0 a1) := by
 intro a0 a1 k
 have ih0 := limelightref05_Assigned.mono_l k
 unfold limelightref05_Assigned.f
 repeat' first
   | (with_reducible exact ih0 _ _ _ _ _)
   | (with_reducible exact limelightref03_Top.mono _ _ _)
   | (with_reducible exact limelightref05_Is.mono _ _ _)
   | (with_reducible exact limelightref05_Of.mono _ _ _)
   | (with_reducible exact LeO.refl _)
   | (with_reducible exact LeO.none _)
   | (with_reducible refine LeO.ite ?_ ?_)
   | (with_reducible refine LeO.bind ?_ (fun _ => ?_))
   | exact ih0 _ _ _ _ _
   | exact limelightref03_Top.mono _ _ _
   | exact limelightref05_Is.mono _ _ _
   | exact limelightref05_Of.mono _ _ _
   | exact LeO.none _
   | refine LeO.ite ?_ ?_
   | refine LeO.bind ?_ (fun _ => ?_)
set_option maxHeartbeats 8000000 in
set_option maxRecDepth 100000 in
theorem limelightref05_Assigned.calls (k : Nat) (A0 : Option Addr) (c0 : Nat) (l0 : List (S36)) (a1 : Int) (r : List Int) (w : World) (hr0 : Kd.C k36 w A0 l0.length l0) (hc0 : l0.length ≤ c0) (h : limelightref05_Assigned.f k l0 a1 = some r) :
  Calls Try.prog 40 #[.slice A0 l0.length c0, .int .i64 a1] w fun e w' => ∃ v0_ : Value, e = .returned (v0_) ∧ Kd.R (Kd.int .i64) 3 w' w.heap.size (fun _ => True) v0_ r ∧ Below w.heap.size w w' := by
 have HR0 := Aside0.mk hr0
 have HC0 := Aside0.mk hc0
 clear hr0 hc0
 have HB := Aside0.mk (Below.refl w.heap.size w)
 have H : ((limelightref05_Is.f k l0 a1).bind fun t164 => (if t164 = true then ((limelightref03_Top.f k l0 a1).bind fun t165 => (if 0 ≤ t165 then (if t165 < (l0.length : Int) then (limelightref05_Assigned.l0 k l0 a1 ([] : List Int) ((rd_T36 l0 t165).f4) 0) else (none)) else (none))) else (some ([] : List Int)))) = some r := h
 clear h
 replace H := Option.bind_eq_some_iff.mp H
 obtain ⟨t164, A30, H⟩ := H
 replace H : (if t164 = true then ((limelightref03_Top.f k l0 a1).bind fun t165 => (if 0 ≤ t165 then (if t165 < (l0.length : Int) then (limelightref05_Assigned.l0 k l0 a1 ([] : List Int) ((rd_T36 l0 t165).f4) 0) else (none)) else (none))) else (some ([] : List Int))) = some r := H
 have A3 := Aside0.mk A30
 clear A30
 by_cases c4 : t164 = true
 ·subst c4
  have H1 : ((limelightref03_Top.f k l0 a1).bind fun t165 => (if 0 ≤ t165 then (if t165 < (l0.length : Int) then (limelightref05_Assigned.l0 k l0 a1 ([] : List Int) ((rd_T36 l0 t165).f4) 0) else (none)) else (none))) = some r := by rw [if_pos rfl] at H; exact H
  clear H
  have H := H1
  clear H1
  replace H := Option.bind_eq_some_iff.mp H
  obtain ⟨t165, A50, H⟩ := H
  replace H : (if 0 ≤ t165 then (if t165 < (l0.length : Int) then (limelightref05_Assigned.l0 k l0 a1 ([] : List Int) ((rd_T36 l0 t165).f4) 0) else (none)) else (none)) = some r := H
  have A5 := Aside0.mk A50
  clear A50
  by_cases c6 : 0 ≤ t165
  ·rw [if_pos c6] at H
   have c6b0 : decide (0 ≤ t165) = true := decide_eq_true c6
   clear c6
   by_cases c7 : t165 < (l0.length : Int)
   ·rw [if_pos c7] at H
    have c7b0 : decide (t165 < (l0.length : Int)) = true := decide_eq_true c7
    clear c7
    have H' := Aside0.mk H
    clear H
    go_enter Try.func40, Try.ntmps40
    go_wp2_with (first | ((with_reducible refine gate_callee (f := 59) rfl ?_); refine goesL_ (some 10) rfl rfl Try.func59 (by kernel_rfl) rfl #[.slice A0 l0.length c0, .int .i64 a1] rfl margs_ ?_; (with_reducible refine (limelightref05_Is.calls k _ _ l0 a1 true _ ?side1 ?side2 A3.out).mono ?_); (case side1 => exact kcb_ (HR0.out)); (case side2 => exact HC0.out); rintro e w8 ⟨rfl, hb⟩; refine ⟨_, rfl, ?_⟩; have n0_ := Aside0.mk (below_step bel_ hb); clear HB; have HB := n0_; clear n0_; (try clear hb); (try clear hb2); (try clear hk); (try clear hi)) | ((with_reducible refine gate_callee (f := 60) rfl ?_); refine goesL_ (some 16) rfl rfl Try.func60 (by kernel_rfl) rfl #[.slice A0 l0.length c0, .int .i64 a1] rfl margs_ ?_; (with_reducible refine (limelightref03_Top.calls k _ _ l0 a1 t165 _ ?side1 ?side2 A5.out).mono ?_); (case side1 => exact kcb_ ((Kd.C_below HR0.out HB.out))); (case side2 => exact HC0.out); rintro e w9 ⟨rfl, hb⟩; refine ⟨_, rfl, ?_⟩; have n0_ := Aside0.mk (below_step bel_ hb); clear HB; have HB := n0_; clear n0_; (try clear hb); (try clear hb2); (try clear hk); (try clear hi); have p166 : 0 ≤ (t165 : Int) := of_decide_eq_true asm_; have q166 : t165 < (l0.length : Int) := of_decide_eq_true asm_; obtain ⟨ad166, A166_3, c166_3, A166_6, c166_6, e166, hx166_0, hx166_1, hx166_2, hx166_3, hx166_4, hx166_5, hx166_6, hl166_3, hi166_3, hl166_6, hi166_6⟩ := at_T36 HR0.out t165 p166 q166; cases e166; replace hx166_0 := (HB.out.cell (World.block_lt_of_cell? w _ hx166_0)).trans hx166_0; replace hx166_1 := (HB.out.cell (World.block_lt_of_cell? w _ hx166_1)).trans hx166_1; replace hx166_2 := (HB.out.cell (World.block_lt_of_cell? w _ hx166_2)).trans hx166_2; replace hx166_3 := (HB.out.cell (World.block_lt_of_cell? w _ hx166_3)).trans hx166_3; replace hx166_4 := (HB.out.cell (World.block_lt_of_cell? w _ hx166_4)).trans hx166_4; replace hx166_5 := (HB.out.cell (World.block_lt_of_cell? w _ hx166_5)).trans hx166_5; replace hx166_6 := (HB.out.cell (World.block_lt_of_cell? w _ hx166_6)).trans hx166_6; have HR166_3 := Aside0.mk hi166_3; have HC166_3 := Aside0.mk hl166_3; clear hi166_3 hl166_3; have HR166_6 := Aside0.mk hi166_6; have HC166_6 := Aside0.mk hl166_6; clear hi166_6 hl166_6; replace p166 := eq_true p166; replace q166 := eq_true q166))
    go_loopg [5, 7] k (fun kq v5 v7 w' => ∃ (x5_1 : List Int) (x7_1 : Int), v7 = .int .i64 x7_1 ∧ Aside0 (limelightref05_Assigned.l0 kq l0 a1 x5_1 ((rd_T36 l0 t165).f4) x7_1 = some r) ∧ Aside0 (kq ≤ k) ∧ Aside0 (Kd.R (Kd.int .i64) 3 w' w.heap.size (fun _ => True) v5 x5_1) ∧ Aside0 (Below w.heap.size w w'))
    case atStart => exact ⟨(([] : List Int)), (0), (by first | rfl | (simp; done) | (simp [*]; done)), H', ⟨Nat.le_refl _⟩, ⟨by first | exact Kd.R_nil _ _ _ _ _ | exact Kd.N_nil _ _ _ _ _ | exact Kd.V_nil _ _ _ _ _ | exact Kd.Q_nil _ _ _ _ _ | exact Kd.S_nil _ _ _ _ _⟩, ⟨bel_⟩⟩
    case round =>
     clear H'
     try clear c1
     try clear p1
     try clear q1
     try clear hx1
     try clear p2
     try clear c4
     try clear c5
     try clear c6
     try clear c6b0
     try clear c7
     try clear c7b0
     try clear hx166_0
     try clear hx166_1
     try clear hx166_2
     try clear hx166_3
     try clear hx166_4
     try clear hx166_5
     try clear hx166_6
     try clear p166
     try clear q166
     obtain ⟨x5_1, x7_1, rfl, HA, HK1, HO_5, HB⟩ := hrel
     cases gk with
     | zero => exact absurd HA.out (by simp [limelightref05_Assigned.l0])
     | succ k1 =>
      have H := HA.out
      clear HA
      simp only [limelightref05_Assigned.l0] at H
      by_cases c10 : 0 ≤ ((rd_T36 l0 t165).f4)
      ·rw [if_pos c10] at H
       have c10b0 : decide (0 ≤ ((rd_T36 l0 t165).f4)) = true := decide_eq_true c10
       clear c10
       by_cases c11 : ((rd_T36 l0 t165).f4) < (l0.length : Int)
       ·rw [if_pos c11] at H
        have c11b0 : decide (((rd_T36 l0 t165).f4) < (l0.length : Int)) = true := decide_eq_true c11
        clear c11
        by_cases c12 : x7_1 < (((rd_T36 l0 ((rd_T36 l0 t165).f4)).f3).length : Int)
        ·rw [if_pos c12] at H
         have c12b0 : decide (x7_1 < (((rd_T36 l0 ((rd_T36 l0 t165).f4)).f3).length : Int)) = true := decide_eq_true c12
         clear c12
         by_cases c13 : 0 ≤ x7_1
         ·rw [if_pos c13] at H
          have c13b0 : decide (0 ≤ x7_1) = true := decide_eq_true c13
          clear c13
          replace H := Option.bind_eq_some_iff.mp H
          obtain ⟨t170, A140, H⟩ := H
          replace H : (if t170 = a1 then (if x5_1.length < 17592186044416 then (limelightref05_Assigned.l0 k1 l0 a1 (x5_1 ++ [rd ((rd_T36 l0 ((rd_T36 l0 t165).f4)).f3) x7_1]) ((rd_T36 l0 t165).f4) (wrap64 (x7_1 + 1))) else (none)) else (limelightref05_Assigned.l0 k1 l0 a1 x5_1 ((rd_T36 l0 t165).f4) (wrap64 (x7_1 + 1)))) = some r := H
          have A14 := Aside0.mk A140
          clear A140
          by_cases c15 : t170 = a1
          ·rw [if_pos c15] at H
           have c15b0 : (t170 == a1) = true := beq_iff_eq.mpr c15
           have c15b1 : (t170 != a1) = false := bne_eq_false_iff_eq.mpr c15
           clear c15
           by_cases c16 : x5_1.length < 17592186044416
           ·rw [if_pos c16] at H
            have LMc16 := Aside0.mk c16
            clear c16
            obtain ⟨y173, hy173⟩ : ∃ y_ : List Int, y_ = (x5_1 ++ [rd ((rd_T36 l0 ((rd_T36 l0 t165).f4)).f3) x7_1]) := ⟨_, rfl⟩
            replace H : (limelightref05_Assigned.l0 k1 l0 a1 y173 ((rd_T36 l0 t165).f4) (wrap64 (x7_1 + 1))) = some r := by first | (rw [hy173]; with_reducible exact H) | (have H2_ := (Option.bind_some _ _).symm.trans H; rw [hy173]; with_reducible exact H2_) | (have H2_ := (Option.bind_some _ _).symm.trans H; with_reducible exact H2_) | with_reducible exact H | (rw [hy173]; exact H) | exact H
            have Ny173 := Aside0.mk hy173
            clear hy173
            have H' := Aside0.mk H
            clear H
            have p167 : 0 ≤ (((rd_T36 l0 t165).f4) : Int) := of_decide_eq_true asm_
            have q167 : ((rd_T36 l0 t165).f4) < (l0.length : Int) := of_decide_eq_true asm_
            obtain ⟨ad167, A167_3, c167_3, A167_6, c167_6, e167, hx167_0, hx167_1, hx167_2, hx167_3, hx167_4, hx167_5, hx167_6, hl167_3, hi167_3, hl167_6, hi167_6⟩ := at_T36 HR0.out ((rd_T36 l0 t165).f4) p167 q167
            obtain rfl : ad166 = ad167 := (by injection e167)
            replace hx167_0 := (HB.out.cell (World.block_lt_of_cell? w _ hx167_0)).trans hx167_0
            replace hx167_1 := (HB.out.cell (World.block_lt_of_cell? w _ hx167_1)).trans hx167_1
            replace hx167_2 := (HB.out.cell (World.block_lt_of_cell? w _ hx167_2)).trans hx167_2
            replace hx167_3 := (HB.out.cell (World.block_lt_of_cell? w _ hx167_3)).trans hx167_3
            replace hx167_4 := (HB.out.cell (World.block_lt_of_cell? w _ hx167_4)).trans hx167_4
            replace hx167_5 := (HB.out.cell (World.block_lt_of_cell? w _ hx167_5)).trans hx167_5
            replace hx167_6 := (HB.out.cell (World.block_lt_of_cell? w _ hx167_6)).trans hx167_6
            have HR167_3 := Aside0.mk hi167_3
            have HC167_3 := Aside0.mk hl167_3
            clear hi167_3 hl167_3
            have HR167_6 := Aside0.mk hi167_6
            have HC167_6 := Aside0.mk hl167_6
            clear hi167_6 hl167_6
            replace p167 := eq_true p167
            replace q167 := eq_true q167
            have p168 : 0 ≤ (((rd_T36 l0 t165).f4) : Int) := of_decide_eq_true asm_
            have q168 : ((rd_T36 l0 t165).f4) < (l0.length : Int) := of_decide_eq_true asm_
            obtain ⟨ad168, A168_3, c168_3, A168_6, c168_6, e168, hx168_0, hx168_1, hx168_2, hx168_3, hx168_4, hx168_5, hx168_6, hl168_3, hi168_3, hl168_6, hi168_6⟩ := at_T36 HR0.out ((rd_T36 l0 t165).f4) p168 q168
            obtain rfl : ad166 = ad168 := (by injection e168)
            replace hx168_0 := (HB.out.cell (World.block_lt_of_cell? w _ hx168_0)).trans hx168_0
            replace hx168_1 := (HB.out.cell (World.block_lt_of_cell? w _ hx168_1)).trans hx168_1
            replace hx168_2 := (HB.out.cell (World.block_lt_of_cell? w _ hx168_2)).trans hx168_2
            replace hx168_3 := (HB.out.cell (World.block_lt_of_cell? w _ hx168_3)).trans hx168_3
            replace hx168_4 := (HB.out.cell (World.block_lt_of_cell? w _ hx168_4)).trans hx168_4
            replace hx168_5 := (HB.out.cell (World.block_lt_of_cell? w _ hx168_5)).trans hx168_5
            replace hx168_6 := (HB.out.cell (World.block_lt_of_cell? w _ hx168_6)).trans hx168_6
            have HR168_3 := Aside0.mk hi168_3
            have HC168_3 := Aside0.mk hl168_3
            clear hi168_3 hl168_3
            have HR168_6 := Aside0.mk hi168_6
            have HC168_6 := Aside0.mk hl168_6
            clear hi168_6 hl168_6
            replace p168 := eq_true p168
            replace q168 := eq_true q168
            have ea_ := Option.some.inj (hx167_3.symm.trans hx168_3)
            injection ea_ with ea_ en_ ec_
            subst ea_
            subst ec_
            clear en_
            have ea_ := Option.some.inj (hx167_6.symm.trans hx168_6)
            injection ea_ with ea_ en_ ec_
            subst ea_
            subst ec_
            clear en_
            have p169 : 0 ≤ (x7_1 : Int) := of_decide_eq_true asm_
            have q169 : x7_1 < (((rd_T36 l0 ((rd_T36 l0 t165).f4)).f3).length : Int) := of_decide_eq_true asm_
            obtain ⟨ad169, e169, hx169_0⟩ := Kd.at_int HR168_3.out x7_1 p169 q169
            cases e169
            replace hx169_0 := (HB.out.cell (World.block_lt_of_cell? w _ hx169_0)).trans hx169_0
            replace p169 := eq_true p169
            replace q169 := eq_true q169
            go_wp2_with (first | ((with_reducible refine gate_callee (f := 30) rfl ?_); refine goesL_ (some 39) rfl rfl Try.func30 (by kernel_rfl) rfl #[.slice (some ad166) l0.length c0, .int .i64 (rd ((rd_T36 l0 ((rd_T36 l0 t165).f4)).f3) x7_1)] rfl margs_ ?_; (with_reducible refine (limelightref05_Of.calls k1 _ _ l0 (rd ((rd_T36 l0 ((rd_T36 l0 t165).f4)).f3) x7_1) t170 _ ?side1 ?side2 A14.out).mono ?_); (case side1 => exact kcb_ ((Kd.C_below HR0.out HB.out))); (case side2 => exact HC0.out); rintro e w17 ⟨rfl, hb⟩; refine ⟨_, rfl, ?_⟩; have n0_ := Aside0.mk (Kd.R_below (kra_ HO_5.out) hb); have n1_ := Aside0.mk (below_step bel_ hb); clear HO_5; clear HB; have HO_5 := n0_; have HB := n1_; clear n0_ n1_; (try clear hb); (try clear hb2); (try clear hk); (try clear hi); have p171 : 0 ≤ (((rd_T36 l0 t165).f4) : Int) := of_decide_eq_true asm_; have q171 : ((rd_T36 l0 t165).f4) < (l0.length : Int) := of_decide_eq_true asm_; obtain ⟨ad171, A171_3, c171_3, A171_6, c171_6, e171, hx171_0, hx171_1, hx171_2, hx171_3, hx171_4, hx171_5, hx171_6, hl171_3, hi171_3, hl171_6, hi171_6⟩ := at_T36 HR0.out ((rd_T36 l0 t165).f4) p171 q171; obtain rfl : ad166 = ad171 := (by injection e171); replace hx171_0 := (HB.out.cell (World.block_lt_of_cell? w _ hx171_0)).trans hx171_0; replace hx171_1 := (HB.out.cell (World.block_lt_of_cell? w _ hx171_1)).trans hx171_1; replace hx171_2 := (HB.out.cell (World.block_lt_of_cell? w _ hx171_2)).trans hx171_2; replace hx171_3 := (HB.out.cell (World.block_lt_of_cell? w _ hx171_3)).trans hx171_3; replace hx171_4 := (HB.out.cell (World.block_lt_of_cell? w _ hx171_4)).trans hx171_4; replace hx171_5 := (HB.out.cell (World.block_lt_of_cell? w _ hx171_5)).trans hx171_5; replace hx171_6 := (HB.out.cell (World.block_lt_of_cell? w _ hx171_6)).trans hx171_6; have HR171_3 := Aside0.mk hi171_3; have HC171_3 := Aside0.mk hl171_3; clear hi171_3 hl171_3; have HR171_6 := Aside0.mk hi171_6; have HC171_6 := Aside0.mk hl171_6; clear hi171_6 hl171_6; replace p171 := eq_true p171; replace q171 := eq_true q171; have p172 : 0 ≤ (x7_1 : Int) := of_decide_eq_true asm_; have q172 : x7_1 < (((rd_T36 l0 ((rd_T36 l0 t165).f4)).f3).length : Int) := of_decide_eq_true asm_; obtain ⟨ad172, e172, hx172_0⟩ := Kd.at_int HR171_3.out x7_1 p172 q172; cases e172; replace hx172_0 := (HB.out.cell (World.block_lt_of_cell? w _ hx172_0)).trans hx172_0; replace p172 := eq_true p172; replace q172 := eq_true q172) | ((with_reducible refine gate_builtin (b := .append) (xs := #[.tmp 42, .tmp 51]) rfl ?_); at_builtin; refine Kd.R_append (Kd.int .i64) (w0 := w) w.heap.size rfl (.tmp 42) (.tmp 51) 27 3 (.int .i64 0) 8 rfl Try.underlying27 info3 rfl (by decide) (by omega) u5 x5_1 (rd ((rd_T36 l0 ((rd_T36 l0 t165).f4)).f3) x7_1) [.int .i64 (rd ((rd_T36 l0 ((rd_T36 l0 t165).f4)).f3) x7_1)] (fun _ => True) (fun _ => False) rfl rfl ?aP (fun _ hk => hk.elim) ?aF ?aO ?aB ?aS ?aL ?_; (case aP => exact rfl); (case aB => exact bel_); (case aF => exact (fun _ _ => trivial)); (case aO => exact (kra_ HO_5.out)); (case aS => exact (below_size bel_)); (case aL => have := LMc16.out; omega); intro v174 w18 ho hb hg hat; rw [← Ny173.out] at ho; have n0_ := Aside0.mk (hb); have n1_ := Aside0.mk (ho); clear HB; clear HO_5; have HB := n0_; have HO175 := n1_; clear n0_ n1_; clear ho hb hg hat))
            go_roundg k1
            case measure => have := HK1.out; omega
            case rel => exact ⟨(y173), (wrap64 (x7_1 + 1)), (by first | rfl | (simp; done) | (simp [*]; done)), H', ⟨by have := HK1.out; omega⟩, ⟨kra_ HO175.out⟩, ⟨bel_⟩⟩
           ·rw [if_neg c16] at H
            exact absurd H (by simp)
          ·rw [if_neg c15] at H
           have c15b0 : (t170 == a1) = false := beq_eq_false_iff_ne.mpr c15
           have c15b1 : (t170 != a1) = true := bne_iff_ne.mpr c15
           have H' := Aside0.mk H
           clear H
           have p167 : 0 ≤ (((rd_T36 l0 t165).f4) : Int) := of_decide_eq_true asm_
           have q167 : ((rd_T36 l0 t165).f4) < (l0.length : Int) := of_decide_eq_true asm_
           obtain ⟨ad167, A167_3, c167_3, A167_6, c167_6, e167, hx167_0, hx167_1, hx167_2, hx167_3, hx167_4, hx167_5, hx167_6, hl167_3, hi167_3, hl167_6, hi167_6⟩ := at_T36 HR0.out ((rd_T36 l0 t165).f4) p167 q167
           obtain rfl : ad166 = ad167 := (by injection e167)
           replace hx167_0 := (HB.out.cell (World.block_lt_of_cell? w _ hx167_0)).trans hx167_0
           replace hx167_1 := (HB.out.cell (World.block_lt_of_cell? w _ hx167_1)).trans hx167_1
           replace hx167_2 := (HB.out.cell (World.block_lt_of_cell? w _ hx167_2)).trans hx167_2
           replace hx167_3 := (HB.out.cell (World.block_lt_of_cell? w _ hx167_3)).trans hx167_3
           replace hx167_4 := (HB.out.cell (World.block_lt_of_cell? w _ hx167_4)).trans hx167_4
           replace hx167_5 := (HB.out.cell (World.block_lt_of_cell? w _ hx167_5)).trans hx167_5
           replace hx167_6 := (HB.out.cell (World.block_lt_of_cell? w _ hx167_6)).trans hx167_6
           have HR167_3 := Aside0.mk hi167_3
           have HC167_3 := Aside0.mk hl167_3
           clear hi167_3 hl167_3
           have HR167_6 := Aside0.mk hi167_6
           have HC167_6 := Aside0.mk hl167_6
           clear hi167_6 hl167_6
           replace p167 := eq_true p167
           replace q167 := eq_true q167
           have p168 : 0 ≤ (((rd_T36 l0 t165).f4) : Int) := of_decide_eq_true asm_
           have q168 : ((rd_T36 l0 t165).f4) < (l0.length : Int) := of_decide_eq_true asm_
           obtain ⟨ad168, A168_3, c168_3, A168_6, c168_6, e168, hx168_0, hx168_1, hx168_2, hx168_3, hx168_4, hx168_5, hx168_6, hl168_3, hi168_3, hl168_6, hi168_6⟩ := at_T36 HR0.out ((rd_T36 l0 t165).f4) p168 q168
           obtain rfl : ad166 = ad168 := (by injection e168)
           replace hx168_0 := (HB.out.cell (World.block_lt_of_cell? w _ hx168_0)).trans hx168_0
           replace hx168_1 := (HB.out.cell (World.block_lt_of_cell? w _ hx168_1)).trans hx168_1
           replace hx168_2 := (HB.out.cell (World.block_lt_of_cell? w _ hx168_2)).trans hx168_2
           replace hx168_3 := (HB.out.cell (World.block_lt_of_cell? w _ hx168_3)).trans hx168_3
           replace hx168_4 := (HB.out.cell (World.block_lt_of_cell? w _ hx168_4)).trans hx168_4
           replace hx168_5 := (HB.out.cell (World.block_lt_of_cell? w _ hx168_5)).trans hx168_5
           replace hx168_6 := (HB.out.cell (World.block_lt_of_cell? w _ hx168_6)).trans hx168_6
           have HR168_3 := Aside0.mk hi168_3
           have HC168_3 := Aside0.mk hl168_3
           clear hi168_3 hl168_3
           have HR168_6 := Aside0.mk hi168_6
           have HC168_6 := Aside0.mk hl168_6
           clear hi168_6 hl168_6
           replace p168 := eq_true p168
           replace q168 := eq_true q168
           have ea_ := Option.some.inj (hx167_3.symm.trans hx168_3)
           injection ea_ with ea_ en_ ec_
           subst ea_
           subst ec_
           clear en_
           have ea_ := Option.some.inj (hx167_6.symm.trans hx168_6)
           injection ea_ with ea_ en_ ec_
           subst ea_
           subst ec_
           clear en_
           have p169 : 0 ≤ (x7_1 : Int) := of_decide_eq_true asm_
           have q169 : x7_1 < (((rd_T36 l0 ((rd_T36 l0 t165).f4)).f3).length : Int) := of_decide_eq_true asm_
           obtain ⟨ad169, e169, hx169_0⟩ := Kd.at_int HR168_3.out x7_1 p169 q169
           cases e169
           replace hx169_0 := (HB.out.cell (World.block_lt_of_cell? w _ hx169_0)).trans hx169_0
           replace p169 := eq_true p169
           replace q169 := eq_true q169
           go_wp2_with (first | ((with_reducible refine gate_callee (f := 30) rfl ?_); refine goesL_ (some 39) rfl rfl Try.func30 (by kernel_rfl) rfl #[.slice (some ad166) l0.length c0, .int .i64 (rd ((rd_T36 l0 ((rd_T36 l0 t165).f4)).f3) x7_1)] rfl margs_ ?_; (with_reducible refine (limelightref05_Of.calls k1 _ _ l0 (rd ((rd_T36 l0 ((rd_T36 l0 t165).f4)).f3) x7_1) t170 _ ?side1 ?side2 A14.out).mono ?_); (case side1 => exact kcb_ ((Kd.C_below HR0.out HB.out))); (case side2 => exact HC0.out); rintro e w19 ⟨rfl, hb⟩; refine ⟨_, rfl, ?_⟩; have n0_ := Aside0.mk (Kd.R_below (kra_ HO_5.out) hb); have n1_ := Aside0.mk (below_step bel_ hb); clear HO_5; clear HB; have HO_5 := n0_; have HB := n1_; clear n0_ n1_; (try clear hb); (try clear hb2); (try clear hk); (try clear hi)))
           go_roundg k1
           case measure => have := HK1.out; omega
           case rel => exact ⟨(x5_1), (wrap64 (x7_1 + 1)), (by first | rfl | (simp; done) | (simp [*]; done)), H', ⟨by have := HK1.out; omega⟩, ⟨kra_ HO_5.out⟩, ⟨bel_⟩⟩
         ·rw [if_neg c13] at H
          exact absurd H (by simp)
        ·rw [if_neg c12] at H
         have c12b0 : decide (x7_1 < (((rd_T36 l0 ((rd_T36 l0 t165).f4)).f3).length : Int)) = false := decide_eq_false c12
         clear c12
         obtain rfl := Option.some.inj H
         have p167 : 0 ≤ (((rd_T36 l0 t165).f4) : Int) := of_decide_eq_true asm_
         have q167 : ((rd_T36 l0 t165).f4) < (l0.length : Int) := of_decide_eq_true asm_
         obtain ⟨ad167, A167_3, c167_3, A167_6, c167_6, e167, hx167_0, hx167_1, hx167_2, hx167_3, hx167_4, hx167_5, hx167_6, hl167_3, hi167_3, hl167_6, hi167_6⟩ := at_T36 HR0.out ((rd_T36 l0 t165).f4) p167 q167
         obtain rfl : ad166 = ad167 := (by injection e167)
         replace hx167_0 := (HB.out.cell (World.block_lt_of_cell? w _ hx167_0)).trans hx167_0
         replace hx167_1 := (HB.out.cell (World.block_lt_of_cell? w _ hx167_1)).trans hx167_1
         replace hx167_2 := (HB.out.cell (World.block_lt_of_cell? w _ hx167_2)).trans hx167_2
         replace hx167_3 := (HB.out.cell (World.block_lt_of_cell? w _ hx167_3)).trans hx167_3
         replace hx167_4 := (HB.out.cell (World.block_lt_of_cell? w _ hx167_4)).trans hx167_4
         replace hx167_5 := (HB.out.cell (World.block_lt_of_cell? w _ hx167_5)).trans hx167_5
         replace hx167_6 := (HB.out.cell (World.block_lt_of_cell? w _ hx167_6)).trans hx167_6
         have HR167_3 := Aside0.mk hi167_3
         have HC167_3 := Aside0.mk hl167_3
         clear hi167_3 hl167_3
         have HR167_6 := Aside0.mk hi167_6
         have HC167_6 := Aside0.mk hl167_6
         clear hi167_6 hl167_6
         replace p167 := eq_true p167
         replace q167 := eq_true q167
         go_wp2
         go_ret
         exact ⟨_, by first | rfl | (simp [errW_none, errW_some] <;> rfl) | (simp [*, errW_none, errW_some] <;> rfl), kra_ HO_5.out, bel_⟩
       ·rw [if_neg c11] at H
        exact absurd H (by simp)
      ·rw [if_neg c10] at H
       exact absurd H (by simp)
   ·rw [if_neg c7] at H
    exact absurd H (by simp)
  ·rw [if_neg c6] at H
   exact absurd H (by simp)
 ·replace c4 := Bool.eq_false_iff.mpr c4
  subst c4
  have H1 : (some ([] : List Int)) = some r := by rw [if_neg (show ¬ (false = true) by decide)] at H; exact H
  clear H
  have H := H1
  clear H1
  obtain rfl := Option.some.inj H
  go_enter Try.func40, Try.ntmps40
  go_wp2_with (first | ((with_reducible refine gate_callee (f := 59) rfl ?_); refine goesL_ (some 10) rfl rfl Try.func59 (by kernel_rfl) rfl #[.slice A0 l0.length c0, .int .i64 a1] rfl margs_ ?_; (with_reducible refine (limelightref05_Is.calls k _ _ l0 a1 false _ ?side1 ?side2 A3.out).mono ?_); (case side1 => exact kcb_ (HR0.out)); (case side2 => exact HC0.out); rintro e w20 ⟨rfl, hb⟩; refine ⟨_, rfl, ?_⟩; have n0_ := Aside0.mk (below_step bel_ hb); clear HB; have HB := n0_; clear n0_; (try clear hb); (try clear hb2); (try clear hk); (try clear hi)))
  go_ret
  exact ⟨_, by first | rfl | (simp [errW_none, errW_some] <;> rfl) | (simp [*, errW_none, errW_some] <;> rfl), by first | exact Kd.R_nil _ _ _ _ _ | exact Kd.N_nil _ _ _ _ _ | exact Kd.V_nil _ _ _ _ _ | exact Kd.Q_nil _ _ _ _ _ | exact Kd.S_nil _ _ _ _ _, bel_⟩

end Go.Proofs.Ytfdhfnjdafaogaa.P
