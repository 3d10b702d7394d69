import Derived.Test.YtbdokcdnajdmaaaPx0
import Derived.Test.YtbdokcdnajdmaaaPx1
import Derived.Test.YtbdokcdnajdmaaaPx2
import Derived.Test.YtbdokcdnajdmaaaPx3
import Derived.Test.YtbdokcdnajdmaaaPx4
import Derived.Test.YtbdokcdnajdmaaaME
-- printed by wip/tools/pp.sh (a patched copy of the print's program), for this claim.
namespace Go.Proofs.Ytbdokcdnajdmaaa.P
open Go.RowKit Go.Proofs.YtbdokcdnajdmaaaW.PrintWords Go.Proofs.YtbdokcdnajdmaaaW.PrintLast Go.Proofs.YtbdokcdnajdmaaaW.PrintMore
attribute [local go_sem] max2_int min2_int max_two min_two max_three min_three max_four min_four   -- for this text's walks alone
set_option linter.unusedVariables false
set_option linter.unusedSimpArgs false

/-! ### limelightref05_Of: function 29 -/
def limelightref05_Of.l0 : Nat → List (S53) → Int → List Int → Int → Option (Int)
 | 0, _, _, _, _ => none
 | k + 1, x0, x1, x7, x10 => if x10 < (x7.length : Int) then (if 0 ≤ x10 then ((limelightref05_name.f k x0 (rd x7 x10)).bind fun t161 => ((limelightref05_name.f k x0 x1).bind fun t162 => (if t161 = t162 then (some (rd x7 x10)) else (limelightref05_Of.l0 k x0 x1 x7 (wrap64 (x10 + 1)))))) else (none)) else (some (-1))
def limelightref05_Of.f (k : Nat) (l0 : List (S53)) (a1 : Int) : Option (Int) := if 0 ≤ a1 then (if a1 < (l0.length : Int) then (if ((rd_T53 l0 a1).f2) = (-1) then (some (-1)) else (if 0 ≤ ((rd_T53 l0 a1).f2) then (if ((rd_T53 l0 a1).f2) < (l0.length : Int) then (if ((rd_T53 l0 ((rd_T53 l0 a1).f2)).f5) = (-1) then (some (-1)) else ((limelightref05_All.f k l0 ((rd_T53 l0 ((rd_T53 l0 a1).f2)).f5)).bind fun t153 => ((limelightref02_Has.f k l0 ((rd_T53 l0 ((rd_T53 l0 a1).f2)).f5) 8).bind fun t156 => (if t156 = true then ((limelightref02_Get.f k l0 a1 9).bind fun bt157 => (if bt157.2 = true then ((limelightref03_In.f k t153 bt157.1).bind fun t159 => (if t159 = true then (some bt157.1) else (some (-1)))) else (some (-1)))) else (limelightref05_Of.l0 k l0 a1 t153 0))))) else (none)) else (none))) else (none)) else (none)
theorem limelightref05_Of.mono_l : ∀ k, (∀ y0 y1 y2 y3, LeO (limelightref05_Of.l0 k y0 y1 y2 y3) (limelightref05_Of.l0 (k + 1) y0 y1 y2 y3))
 | 0 => fun _ _ _ _ r h => by simp [limelightref05_Of.l0] at h
 | k + 1 => by
  have ih0 := limelightref05_Of.mono_l k
  ·intro y0 y1 y2 y3
   unfold limelightref05_Of.l0
   repeat' first
   | (with_reducible exact ih0 _ _ _ _)
   | (with_reducible exact limelightref02_Get.mono _ _ _ _)
   | (with_reducible exact limelightref02_Has.mono _ _ _ _)
   | (with_reducible exact limelightref03_In.mono _ _ _)
   | (with_reducible exact limelightref05_All.mono _ _ _)
   | (with_reducible exact limelightref05_name.mono _ _ _)
   | (with_reducible exact LeO.refl _)
   | (with_reducible exact LeO.none _)
   | (with_reducible refine LeO.ite ?_ ?_)
   | (with_reducible refine LeO.bind ?_ (fun _ => ?_))
   | exact ih0 _ _ _ _
   | exact limelightref02_Get.mono _ _ _ _
   | exact limelightref02_Has.mono _ _ _ _
   | exact limelightref03_In.mono _ _ _
   | exact limelightref05_All.mono _ _ _
   | exact limelightref05_name.mono _ _ _
   | exact LeO.none _
   | refine LeO.ite ?_ ?_
   | refine LeO.bind ?_ (fun _ => ?_)
theorem limelightref05_Of.mono : ∀ a0 a1 k, LeO (limelightref05_Of.f k a0 a1) (limelightref05_Of.f (k + 1) a0 a1) := by
 intro a0 a1 k
 have ih0 := limelightref05_Of.mono_l k
 unfold limelightref05_Of.f
 repeat' first
   | (with_reducible exact ih0 _ _ _ _)
   | (with_reducible exact limelightref02_Get.mono _ _ _ _)
   | (with_reducible exact limelightref02_Has.mono _ _ _ _)
   | (with_reducible exact limelightref03_In.mono _ _ _)
   | (with_reducible exact limelightref05_All.mono _ _ _)
   | (with_reducible exact limelightref05_name.mono _ _ _)
   | (with_reducible exact LeO.refl _)
   | (with_reducible exact LeO.none _)
   | (with_reducible refine LeO.ite ?_ ?_)
   | (with_reducible refine LeO.bind ?_ (fun _ => ?_))
   | exact ih0 _ _ _ _
   | exact limelightref02_Get.mono _ _ _ _
   | exact limelightref02_Has.mono _ _ _ _
   | exact limelightref03_In.mono _ _ _
   | exact limelightref05_All.mono _ _ _
   | exact limelightref05_name.mono _ _ _
   | exact LeO.none _
   | refine LeO.ite ?_ ?_
   | refine LeO.bind ?_ (fun _ => ?_)
set_option maxHeartbeats 8000000 in
set_option maxRecDepth 100000 in
theorem limelightref05_Of.calls (k : Nat) (A0 : Option Addr) (c0 : Nat) (l0 : List (S53)) (a1 : Int) (r : Int) (w : World) (hr0 : Kd.C k53 w A0 l0.length l0) (hc0 : l0.length ≤ c0) (h : limelightref05_Of.f k l0 a1 = some r) :
  Calls Try.prog 29 #[.slice A0 l0.length c0, .int .i64 a1] w fun e w' => e = .returned (.int .i64 r) ∧ Below w.heap.size w w' := by
 have HR0 := Aside0.mk hr0
 have HC0 := Aside0.mk hc0
 clear hr0 hc0
 have HB := Aside0.mk (Below.refl w.heap.size w)
 have H : (if 0 ≤ a1 then (if a1 < (l0.length : Int) then (if ((rd_T53 l0 a1).f2) = (-1) then (some (-1)) else (if 0 ≤ ((rd_T53 l0 a1).f2) then (if ((rd_T53 l0 a1).f2) < (l0.length : Int) then (if ((rd_T53 l0 ((rd_T53 l0 a1).f2)).f5) = (-1) then (some (-1)) else ((limelightref05_All.f k l0 ((rd_T53 l0 ((rd_T53 l0 a1).f2)).f5)).bind fun t153 => ((limelightref02_Has.f k l0 ((rd_T53 l0 ((rd_T53 l0 a1).f2)).f5) 8).bind fun t156 => (if t156 = true then ((limelightref02_Get.f k l0 a1 9).bind fun bt157 => (if bt157.2 = true then ((limelightref03_In.f k t153 bt157.1).bind fun t159 => (if t159 = true then (some bt157.1) else (some (-1)))) else (some (-1)))) else (limelightref05_Of.l0 k l0 a1 t153 0))))) else (none)) else (none))) else (none)) else (none)) = some r := h
 clear h
 by_cases c3 : 0 ≤ a1
 ·rw [if_pos c3] at H
  have c3b0 : decide (0 ≤ a1) = true := decide_eq_true c3
  clear c3
  by_cases c4 : a1 < (l0.length : Int)
  ·rw [if_pos c4] at H
   have c4b0 : decide (a1 < (l0.length : Int)) = true := decide_eq_true c4
   clear c4
   by_cases c5 : ((rd_T53 l0 a1).f2) = (-1)
   ·rw [if_pos c5] at H
    have c5b0 : (((rd_T53 l0 a1).f2) == (-1)) = true := beq_iff_eq.mpr c5
    have c5b1 : (((rd_T53 l0 a1).f2) != (-1)) = false := bne_eq_false_iff_eq.mpr c5
    clear c5
    obtain rfl := Option.some.inj H
    have p151 : 0 ≤ (a1 : Int) := of_decide_eq_true asm_
    have q151 : a1 < (l0.length : Int) := of_decide_eq_true asm_
    obtain ⟨ad151, A151_3, c151_3, A151_6, c151_6, e151, hx151_0, hx151_1, hx151_2, hx151_3, hx151_4, hx151_5, hx151_6, hl151_3, hi151_3, hl151_6, hi151_6⟩ := at_T53 HR0.out a1 p151 q151
    cases e151
    have HR151_3 := Aside0.mk hi151_3
    have HC151_3 := Aside0.mk hl151_3
    clear hi151_3 hl151_3
    have HR151_6 := Aside0.mk hi151_6
    have HC151_6 := Aside0.mk hl151_6
    clear hi151_6 hl151_6
    replace p151 := eq_true p151
    replace q151 := eq_true q151
    go_enter Try.func29, Try.ntmps29
    go_wp2
    go_ret
    exact ⟨by first | rfl | (simp [errW_none, errW_some] <;> rfl) | (simp [*, errW_none, errW_some] <;> rfl), bel_⟩
   ·rw [if_neg c5] at H
    have c5b0 : (((rd_T53 l0 a1).f2) == (-1)) = false := beq_eq_false_iff_ne.mpr c5
    have c5b1 : (((rd_T53 l0 a1).f2) != (-1)) = true := bne_iff_ne.mpr c5
    by_cases c6 : 0 ≤ ((rd_T53 l0 a1).f2)
    ·rw [if_pos c6] at H
     have c6b0 : decide (0 ≤ ((rd_T53 l0 a1).f2)) = true := decide_eq_true c6
     clear c6
     by_cases c7 : ((rd_T53 l0 a1).f2) < (l0.length : Int)
     ·rw [if_pos c7] at H
      have c7b0 : decide (((rd_T53 l0 a1).f2) < (l0.length : Int)) = true := decide_eq_true c7
      clear c7
      by_cases c8 : ((rd_T53 l0 ((rd_T53 l0 a1).f2)).f5) = (-1)
      ·rw [if_pos c8] at H
       have c8b0 : (((rd_T53 l0 ((rd_T53 l0 a1).f2)).f5) == (-1)) = true := beq_iff_eq.mpr c8
       have c8b1 : (((rd_T53 l0 ((rd_T53 l0 a1).f2)).f5) != (-1)) = false := bne_eq_false_iff_eq.mpr c8
       clear c8
       obtain rfl := Option.some.inj H
       have p151 : 0 ≤ (a1 : Int) := of_decide_eq_true asm_
       have q151 : a1 < (l0.length : Int) := of_decide_eq_true asm_
       obtain ⟨ad151, A151_3, c151_3, A151_6, c151_6, e151, hx151_0, hx151_1, hx151_2, hx151_3, hx151_4, hx151_5, hx151_6, hl151_3, hi151_3, hl151_6, hi151_6⟩ := at_T53 HR0.out a1 p151 q151
       cases e151
       have HR151_3 := Aside0.mk hi151_3
       have HC151_3 := Aside0.mk hl151_3
       clear hi151_3 hl151_3
       have HR151_6 := Aside0.mk hi151_6
       have HC151_6 := Aside0.mk hl151_6
       clear hi151_6 hl151_6
       replace p151 := eq_true p151
       replace q151 := eq_true q151
       have p152 : 0 ≤ (((rd_T53 l0 a1).f2) : Int) := of_decide_eq_true asm_
       have q152 : ((rd_T53 l0 a1).f2) < (l0.length : Int) := of_decide_eq_true asm_
       obtain ⟨ad152, A152_3, c152_3, A152_6, c152_6, e152, hx152_0, hx152_1, hx152_2, hx152_3, hx152_4, hx152_5, hx152_6, hl152_3, hi152_3, hl152_6, hi152_6⟩ := at_T53 HR0.out ((rd_T53 l0 a1).f2) p152 q152
       obtain rfl : ad151 = ad152 := (by injection e152)
       have HR152_3 := Aside0.mk hi152_3
       have HC152_3 := Aside0.mk hl152_3
       clear hi152_3 hl152_3
       have HR152_6 := Aside0.mk hi152_6
       have HC152_6 := Aside0.mk hl152_6
       clear hi152_6 hl152_6
       replace p152 := eq_true p152
       replace q152 := eq_true q152
       go_enter Try.func29, Try.ntmps29
       go_wp2
       go_ret
       exact ⟨by first | rfl | (simp [errW_none, errW_some] <;> rfl) | (simp [*, errW_none, errW_some] <;> rfl), bel_⟩
      ·rw [if_neg c8] at H
       have c8b0 : (((rd_T53 l0 ((rd_T53 l0 a1).f2)).f5) == (-1)) = false := beq_eq_false_iff_ne.mpr c8
       have c8b1 : (((rd_T53 l0 ((rd_T53 l0 a1).f2)).f5) != (-1)) = true := bne_iff_ne.mpr c8
       replace H := Option.bind_eq_some_iff.mp H
       obtain ⟨t153, A90, H⟩ := H
       replace H : ((limelightref02_Has.f k l0 ((rd_T53 l0 ((rd_T53 l0 a1).f2)).f5) 8).bind fun t156 => (if t156 = true then ((limelightref02_Get.f k l0 a1 9).bind fun bt157 => (if bt157.2 = true then ((limelightref03_In.f k t153 bt157.1).bind fun t159 => (if t159 = true then (some bt157.1) else (some (-1)))) else (some (-1)))) else (limelightref05_Of.l0 k l0 a1 t153 0))) = some r := H
       have A9 := Aside0.mk A90
       clear A90
       replace H := Option.bind_eq_some_iff.mp H
       obtain ⟨t156, A100, H⟩ := H
       replace H : (if t156 = true then ((limelightref02_Get.f k l0 a1 9).bind fun bt157 => (if bt157.2 = true then ((limelightref03_In.f k t153 bt157.1).bind fun t159 => (if t159 = true then (some bt157.1) else (some (-1)))) else (some (-1)))) else (limelightref05_Of.l0 k l0 a1 t153 0)) = some r := H
       have A10 := Aside0.mk A100
       clear A100
       by_cases c11 : t156 = true
       ·subst c11
        have H1 : ((limelightref02_Get.f k l0 a1 9).bind fun bt157 => (if bt157.2 = true then ((limelightref03_In.f k t153 bt157.1).bind fun t159 => (if t159 = true then (some bt157.1) else (some (-1)))) else (some (-1)))) = some r := by rw [if_pos rfl] at H; exact H
        clear H
        have H := H1
        clear H1
        replace H := Option.bind_eq_some_iff.mp H
        obtain ⟨⟨t157, t158⟩, A120, H⟩ := H
        replace H : (if t158 = true then ((limelightref03_In.f k t153 t157).bind fun t159 => (if t159 = true then (some t157) else (some (-1)))) else (some (-1))) = some r := H
        have A12 := Aside0.mk A120
        clear A120
        by_cases c13 : t158 = true
        ·subst c13
         have H1 : ((limelightref03_In.f k t153 t157).bind fun t159 => (if t159 = true then (some t157) else (some (-1)))) = some r := by rw [if_pos rfl] at H; exact H
         clear H
         have H := H1
         clear H1
         replace H := Option.bind_eq_some_iff.mp H
         obtain ⟨t159, A140, H⟩ := H
         replace H : (if t159 = true then (some t157) else (some (-1))) = some r := H
         have A14 := Aside0.mk A140
         clear A140
         by_cases c15 : t159 = true
         ·subst c15
          have H1 : (some t157) = some r := by rw [if_pos rfl] at H; exact H
          clear H
          have H := H1
          clear H1
          obtain rfl := Option.some.inj H
          have p151 : 0 ≤ (a1 : Int) := of_decide_eq_true asm_
          have q151 : a1 < (l0.length : Int) := of_decide_eq_true asm_
          obtain ⟨ad151, A151_3, c151_3, A151_6, c151_6, e151, hx151_0, hx151_1, hx151_2, hx151_3, hx151_4, hx151_5, hx151_6, hl151_3, hi151_3, hl151_6, hi151_6⟩ := at_T53 HR0.out a1 p151 q151
          cases e151
          have HR151_3 := Aside0.mk hi151_3
          have HC151_3 := Aside0.mk hl151_3
          clear hi151_3 hl151_3
          have HR151_6 := Aside0.mk hi151_6
          have HC151_6 := Aside0.mk hl151_6
          clear hi151_6 hl151_6
          replace p151 := eq_true p151
          replace q151 := eq_true q151
          have p152 : 0 ≤ (((rd_T53 l0 a1).f2) : Int) := of_decide_eq_true asm_
          have q152 : ((rd_T53 l0 a1).f2) < (l0.length : Int) := of_decide_eq_true asm_
          obtain ⟨ad152, A152_3, c152_3, A152_6, c152_6, e152, hx152_0, hx152_1, hx152_2, hx152_3, hx152_4, hx152_5, hx152_6, hl152_3, hi152_3, hl152_6, hi152_6⟩ := at_T53 HR0.out ((rd_T53 l0 a1).f2) p152 q152
          obtain rfl : ad151 = ad152 := (by injection e152)
          have HR152_3 := Aside0.mk hi152_3
          have HC152_3 := Aside0.mk hl152_3
          clear hi152_3 hl152_3
          have HR152_6 := Aside0.mk hi152_6
          have HC152_6 := Aside0.mk hl152_6
          clear hi152_6 hl152_6
          replace p152 := eq_true p152
          replace q152 := eq_true q152
          go_enter Try.func29, Try.ntmps29
          go_wp2_with (first | ((with_reducible refine gate_callee (f := 51) rfl ?_); refine goesL_ (some 27) rfl rfl Try.func51 (by kernel_rfl) rfl #[.slice (some ad151) l0.length c0, .int .i64 ((rd_T53 l0 ((rd_T53 l0 a1).f2)).f5)] rfl margs_ ?_; (with_reducible refine (limelightref05_All.calls k _ _ l0 ((rd_T53 l0 ((rd_T53 l0 a1).f2)).f5) t153 _ ?side1 ?side2 A9.out).mono ?_); (case side1 => exact kcb_ (HR0.out)); (case side2 => exact HC0.out); rintro e w16 ⟨v154, rfl, ho0, hb⟩; refine ⟨_, rfl, ?_⟩; have n0_ := Aside0.mk (Kd.R_lower ho0 (below_size bel_)); have n1_ := Aside0.mk (below_step bel_ hb); clear HB; have HO155 := n0_; have HB := n1_; clear n0_ n1_; (try clear hb); (try clear hb2); (try clear hk); (try clear hi); (try clear ho0)) | ((with_reducible refine gate_callee (f := 52) rfl ?_); refine goesL_ (some 30) rfl rfl Try.func52 (by kernel_rfl) rfl #[.slice (some ad151) l0.length c0, .int .i64 ((rd_T53 l0 ((rd_T53 l0 a1).f2)).f5), .int .i64 8] rfl margs_ ?_; (with_reducible refine (limelightref02_Has.calls k _ _ l0 ((rd_T53 l0 ((rd_T53 l0 a1).f2)).f5) 8 true _ ?side1 ?side2 A10.out).mono ?_); (case side1 => exact kcb_ ((Kd.C_below HR0.out HB.out))); (case side2 => exact HC0.out); rintro e w17 ⟨rfl, hb⟩; refine ⟨_, rfl, ?_⟩; have n0_ := Aside0.mk (Kd.R_below (kra_ HO155.out) hb); have n1_ := Aside0.mk (below_step bel_ hb); clear HO155; clear HB; have HO155 := n0_; have HB := n1_; clear n0_ n1_; (try clear hb); (try clear hb2); (try clear hk); (try clear hi)) | ((with_reducible refine gate_callee (f := 53) rfl ?_); refine goesL_ (some 34) rfl rfl Try.func53 (by kernel_rfl) rfl #[.slice (some ad151) l0.length c0, .int .i64 a1, .int .i64 9] rfl margs_ ?_; (with_reducible refine (limelightref02_Get.calls k _ _ l0 a1 9 t157 true _ ?side1 ?side2 A12.out).mono ?_); (case side1 => exact kcb_ ((Kd.C_below HR0.out HB.out))); (case side2 => exact HC0.out); rintro e w18 ⟨rfl, hb⟩; refine ⟨_, rfl, ?_⟩; have n0_ := Aside0.mk (Kd.R_below (kra_ HO155.out) hb); have n1_ := Aside0.mk (below_step bel_ hb); clear HO155; clear HB; have HO155 := n0_; have HB := n1_; clear n0_ n1_; (try clear hb); (try clear hb2); (try clear hk); (try clear hi); obtain ⟨Ao19, co19, eo19⟩ := Kd.R_slice HO155.out; subst eo19) | (go_at_call 33; (with_reducible refine (limelightref03_In.calls k _ _ t153 t157 true _ ?side1 ?side2 A14.out).mono ?_); (case side1 => exact kcb_ ((Kd.R_reads' HO155.out).2.2)); (case side2 => exact (Kd.R_reads' HO155.out).2.1); rintro e w' ⟨rfl, ⟨nd, rfl⟩⟩))
          go_ret
          exact ⟨by first | rfl | (simp [errW_none, errW_some] <;> rfl) | (simp [*, errW_none, errW_some] <;> rfl), bel_⟩
         ·replace c15 := Bool.eq_false_iff.mpr c15
          subst c15
          have H1 : (some (-1)) = some r := by rw [if_neg (show ¬ (false = true) by decide)] at H; exact H
          clear H
          have H := H1
          clear H1
          obtain rfl := Option.some.inj H
          have p151 : 0 ≤ (a1 : Int) := of_decide_eq_true asm_
          have q151 : a1 < (l0.length : Int) := of_decide_eq_true asm_
          obtain ⟨ad151, A151_3, c151_3, A151_6, c151_6, e151, hx151_0, hx151_1, hx151_2, hx151_3, hx151_4, hx151_5, hx151_6, hl151_3, hi151_3, hl151_6, hi151_6⟩ := at_T53 HR0.out a1 p151 q151
          cases e151
          have HR151_3 := Aside0.mk hi151_3
          have HC151_3 := Aside0.mk hl151_3
          clear hi151_3 hl151_3
          have HR151_6 := Aside0.mk hi151_6
          have HC151_6 := Aside0.mk hl151_6
          clear hi151_6 hl151_6
          replace p151 := eq_true p151
          replace q151 := eq_true q151
          have p152 : 0 ≤ (((rd_T53 l0 a1).f2) : Int) := of_decide_eq_true asm_
          have q152 : ((rd_T53 l0 a1).f2) < (l0.length : Int) := of_decide_eq_true asm_
          obtain ⟨ad152, A152_3, c152_3, A152_6, c152_6, e152, hx152_0, hx152_1, hx152_2, hx152_3, hx152_4, hx152_5, hx152_6, hl152_3, hi152_3, hl152_6, hi152_6⟩ := at_T53 HR0.out ((rd_T53 l0 a1).f2) p152 q152
          obtain rfl : ad151 = ad152 := (by injection e152)
          have HR152_3 := Aside0.mk hi152_3
          have HC152_3 := Aside0.mk hl152_3
          clear hi152_3 hl152_3
          have HR152_6 := Aside0.mk hi152_6
          have HC152_6 := Aside0.mk hl152_6
          clear hi152_6 hl152_6
          replace p152 := eq_true p152
          replace q152 := eq_true q152
          go_enter Try.func29, Try.ntmps29
          go_wp2_with (first | ((with_reducible refine gate_callee (f := 51) rfl ?_); refine goesL_ (some 27) rfl rfl Try.func51 (by kernel_rfl) rfl #[.slice (some ad151) l0.length c0, .int .i64 ((rd_T53 l0 ((rd_T53 l0 a1).f2)).f5)] rfl margs_ ?_; (with_reducible refine (limelightref05_All.calls k _ _ l0 ((rd_T53 l0 ((rd_T53 l0 a1).f2)).f5) t153 _ ?side1 ?side2 A9.out).mono ?_); (case side1 => exact kcb_ (HR0.out)); (case side2 => exact HC0.out); rintro e w20 ⟨v154, rfl, ho0, hb⟩; refine ⟨_, rfl, ?_⟩; have n0_ := Aside0.mk (Kd.R_lower ho0 (below_size bel_)); have n1_ := Aside0.mk (below_step bel_ hb); clear HB; have HO155 := n0_; have HB := n1_; clear n0_ n1_; (try clear hb); (try clear hb2); (try clear hk); (try clear hi); (try clear ho0)) | ((with_reducible refine gate_callee (f := 52) rfl ?_); refine goesL_ (some 30) rfl rfl Try.func52 (by kernel_rfl) rfl #[.slice (some ad151) l0.length c0, .int .i64 ((rd_T53 l0 ((rd_T53 l0 a1).f2)).f5), .int .i64 8] rfl margs_ ?_; (with_reducible refine (limelightref02_Has.calls k _ _ l0 ((rd_T53 l0 ((rd_T53 l0 a1).f2)).f5) 8 true _ ?side1 ?side2 A10.out).mono ?_); (case side1 => exact kcb_ ((Kd.C_below HR0.out HB.out))); (case side2 => exact HC0.out); rintro e w21 ⟨rfl, hb⟩; refine ⟨_, rfl, ?_⟩; have n0_ := Aside0.mk (Kd.R_below (kra_ HO155.out) hb); have n1_ := Aside0.mk (below_step bel_ hb); clear HO155; clear HB; have HO155 := n0_; have HB := n1_; clear n0_ n1_; (try clear hb); (try clear hb2); (try clear hk); (try clear hi)) | ((with_reducible refine gate_callee (f := 53) rfl ?_); refine goesL_ (some 34) rfl rfl Try.func53 (by kernel_rfl) rfl #[.slice (some ad151) l0.length c0, .int .i64 a1, .int .i64 9] rfl margs_ ?_; (with_reducible refine (limelightref02_Get.calls k _ _ l0 a1 9 t157 true _ ?side1 ?side2 A12.out).mono ?_); (case side1 => exact kcb_ ((Kd.C_below HR0.out HB.out))); (case side2 => exact HC0.out); rintro e w22 ⟨rfl, hb⟩; refine ⟨_, rfl, ?_⟩; have n0_ := Aside0.mk (Kd.R_below (kra_ HO155.out) hb); have n1_ := Aside0.mk (below_step bel_ hb); clear HO155; clear HB; have HO155 := n0_; have HB := n1_; clear n0_ n1_; (try clear hb); (try clear hb2); (try clear hk); (try clear hi); obtain ⟨Ao23, co23, eo23⟩ := Kd.R_slice HO155.out; subst eo23) | (go_at_call 33; (with_reducible refine (limelightref03_In.calls k _ _ t153 t157 false _ ?side1 ?side2 A14.out).mono ?_); (case side1 => exact kcb_ ((Kd.R_reads' HO155.out).2.2)); (case side2 => exact (Kd.R_reads' HO155.out).2.1); rintro e w' ⟨rfl, ⟨nd, rfl⟩⟩))
          go_ret
          exact ⟨by first | rfl | (simp [errW_none, errW_some] <;> rfl) | (simp [*, errW_none, errW_some] <;> rfl), bel_⟩
        ·replace c13 := Bool.eq_false_iff.mpr c13
         subst c13
         have H1 : (some (-1)) = some r := by rw [if_neg (show ¬ (false = true) by decide)] at H; exact H
         clear H
         have H := H1
         clear H1
         obtain rfl := Option.some.inj H
         have p151 : 0 ≤ (a1 : Int) := of_decide_eq_true asm_
         have q151 : a1 < (l0.length : Int) := of_decide_eq_true asm_
         obtain ⟨ad151, A151_3, c151_3, A151_6, c151_6, e151, hx151_0, hx151_1, hx151_2, hx151_3, hx151_4, hx151_5, hx151_6, hl151_3, hi151_3, hl151_6, hi151_6⟩ := at_T53 HR0.out a1 p151 q151
         cases e151
         have HR151_3 := Aside0.mk hi151_3
         have HC151_3 := Aside0.mk hl151_3
         clear hi151_3 hl151_3
         have HR151_6 := Aside0.mk hi151_6
         have HC151_6 := Aside0.mk hl151_6
         clear hi151_6 hl151_6
         replace p151 := eq_true p151
         replace q151 := eq_true q151
         have p152 : 0 ≤ (((rd_T53 l0 a1).f2) : Int) := of_decide_eq_true asm_
         have q152 : ((rd_T53 l0 a1).f2) < (l0.length : Int) := of_decide_eq_true asm_
         obtain ⟨ad152, A152_3, c152_3, A152_6, c152_6, e152, hx152_0, hx152_1, hx152_2, hx152_3, hx152_4, hx152_5, hx152_6, hl152_3, hi152_3, hl152_6, hi152_6⟩ := at_T53 HR0.out ((rd_T53 l0 a1).f2) p152 q152
         obtain rfl : ad151 = ad152 := (by injection e152)
         have HR152_3 := Aside0.mk hi152_3
         have HC152_3 := Aside0.mk hl152_3
         clear hi152_3 hl152_3
         have HR152_6 := Aside0.mk hi152_6
         have HC152_6 := Aside0.mk hl152_6
         clear hi152_6 hl152_6
         replace p152 := eq_true p152
         replace q152 := eq_true q152
         go_enter Try.func29, Try.ntmps29
         go_wp2_with (first | ((with_reducible refine gate_callee (f := 51) rfl ?_); refine goesL_ (some 27) rfl rfl Try.func51 (by kernel_rfl) rfl #[.slice (some ad151) l0.length c0, .int .i64 ((rd_T53 l0 ((rd_T53 l0 a1).f2)).f5)] rfl margs_ ?_; (with_reducible refine (limelightref05_All.calls k _ _ l0 ((rd_T53 l0 ((rd_T53 l0 a1).f2)).f5) t153 _ ?side1 ?side2 A9.out).mono ?_); (case side1 => exact kcb_ (HR0.out)); (case side2 => exact HC0.out); rintro e w24 ⟨v154, rfl, ho0, hb⟩; refine ⟨_, rfl, ?_⟩; have n0_ := Aside0.mk (Kd.R_lower ho0 (below_size bel_)); have n1_ := Aside0.mk (below_step bel_ hb); clear HB; have HO155 := n0_; have HB := n1_; clear n0_ n1_; (try clear hb); (try clear hb2); (try clear hk); (try clear hi); (try clear ho0)) | ((with_reducible refine gate_callee (f := 52) rfl ?_); refine goesL_ (some 30) rfl rfl Try.func52 (by kernel_rfl) rfl #[.slice (some ad151) l0.length c0, .int .i64 ((rd_T53 l0 ((rd_T53 l0 a1).f2)).f5), .int .i64 8] rfl margs_ ?_; (with_reducible refine (limelightref02_Has.calls k _ _ l0 ((rd_T53 l0 ((rd_T53 l0 a1).f2)).f5) 8 true _ ?side1 ?side2 A10.out).mono ?_); (case side1 => exact kcb_ ((Kd.C_below HR0.out HB.out))); (case side2 => exact HC0.out); rintro e w25 ⟨rfl, hb⟩; refine ⟨_, rfl, ?_⟩; have n0_ := Aside0.mk (Kd.R_below (kra_ HO155.out) hb); have n1_ := Aside0.mk (below_step bel_ hb); clear HO155; clear HB; have HO155 := n0_; have HB := n1_; clear n0_ n1_; (try clear hb); (try clear hb2); (try clear hk); (try clear hi)) | ((with_reducible refine gate_callee (f := 53) rfl ?_); refine goesL_ (some 34) rfl rfl Try.func53 (by kernel_rfl) rfl #[.slice (some ad151) l0.length c0, .int .i64 a1, .int .i64 9] rfl margs_ ?_; (with_reducible refine (limelightref02_Get.calls k _ _ l0 a1 9 t157 false _ ?side1 ?side2 A12.out).mono ?_); (case side1 => exact kcb_ ((Kd.C_below HR0.out HB.out))); (case side2 => exact HC0.out); rintro e w26 ⟨rfl, hb⟩; refine ⟨_, rfl, ?_⟩; have n0_ := Aside0.mk (Kd.R_below (kra_ HO155.out) hb); have n1_ := Aside0.mk (below_step bel_ hb); clear HO155; clear HB; have HO155 := n0_; have HB := n1_; clear n0_ n1_; (try clear hb); (try clear hb2); (try clear hk); (try clear hi)))
         go_ret
         exact ⟨by first | rfl | (simp [errW_none, errW_some] <;> rfl) | (simp [*, errW_none, errW_some] <;> rfl), bel_⟩
       ·replace c11 := Bool.eq_false_iff.mpr c11
        subst c11
        have H1 : (limelightref05_Of.l0 k l0 a1 t153 0) = some r := by rw [if_neg (show ¬ (false = true) by decide)] at H; exact H
        clear H
        have H := H1
        clear H1
        have H' := Aside0.mk H
        clear H
        have p151 : 0 ≤ (a1 : Int) := of_decide_eq_true asm_
        have q151 : a1 < (l0.length : Int) := of_decide_eq_true asm_
        obtain ⟨ad151, A151_3, c151_3, A151_6, c151_6, e151, hx151_0, hx151_1, hx151_2, hx151_3, hx151_4, hx151_5, hx151_6, hl151_3, hi151_3, hl151_6, hi151_6⟩ := at_T53 HR0.out a1 p151 q151
        cases e151
        have HR151_3 := Aside0.mk hi151_3
        have HC151_3 := Aside0.mk hl151_3
        clear hi151_3 hl151_3
        have HR151_6 := Aside0.mk hi151_6
        have HC151_6 := Aside0.mk hl151_6
        clear hi151_6 hl151_6
        replace p151 := eq_true p151
        replace q151 := eq_true q151
        have p152 : 0 ≤ (((rd_T53 l0 a1).f2) : Int) := of_decide_eq_true asm_
        have q152 : ((rd_T53 l0 a1).f2) < (l0.length : Int) := of_decide_eq_true asm_
        obtain ⟨ad152, A152_3, c152_3, A152_6, c152_6, e152, hx152_0, hx152_1, hx152_2, hx152_3, hx152_4, hx152_5, hx152_6, hl152_3, hi152_3, hl152_6, hi152_6⟩ := at_T53 HR0.out ((rd_T53 l0 a1).f2) p152 q152
        obtain rfl : ad151 = ad152 := (by injection e152)
        have HR152_3 := Aside0.mk hi152_3
        have HC152_3 := Aside0.mk hl152_3
        clear hi152_3 hl152_3
        have HR152_6 := Aside0.mk hi152_6
        have HC152_6 := Aside0.mk hl152_6
        clear hi152_6 hl152_6
        replace p152 := eq_true p152
        replace q152 := eq_true q152
        go_enter Try.func29, Try.ntmps29
        go_wp2_with (first | ((with_reducible refine gate_callee (f := 51) rfl ?_); refine goesL_ (some 27) rfl rfl Try.func51 (by kernel_rfl) rfl #[.slice (some ad151) l0.length c0, .int .i64 ((rd_T53 l0 ((rd_T53 l0 a1).f2)).f5)] rfl margs_ ?_; (with_reducible refine (limelightref05_All.calls k _ _ l0 ((rd_T53 l0 ((rd_T53 l0 a1).f2)).f5) t153 _ ?side1 ?side2 A9.out).mono ?_); (case side1 => exact kcb_ (HR0.out)); (case side2 => exact HC0.out); rintro e w27 ⟨v154, rfl, ho0, hb⟩; refine ⟨_, rfl, ?_⟩; have n0_ := Aside0.mk (Kd.R_lower ho0 (below_size bel_)); have n1_ := Aside0.mk (below_step bel_ hb); clear HB; have HO155 := n0_; have HB := n1_; clear n0_ n1_; (try clear hb); (try clear hb2); (try clear hk); (try clear hi); (try clear ho0)) | ((with_reducible refine gate_callee (f := 52) rfl ?_); refine goesL_ (some 30) rfl rfl Try.func52 (by kernel_rfl) rfl #[.slice (some ad151) l0.length c0, .int .i64 ((rd_T53 l0 ((rd_T53 l0 a1).f2)).f5), .int .i64 8] rfl margs_ ?_; (with_reducible refine (limelightref02_Has.calls k _ _ l0 ((rd_T53 l0 ((rd_T53 l0 a1).f2)).f5) 8 false _ ?side1 ?side2 A10.out).mono ?_); (case side1 => exact kcb_ ((Kd.C_below HR0.out HB.out))); (case side2 => exact HC0.out); rintro e w28 ⟨rfl, hb⟩; refine ⟨_, rfl, ?_⟩; have n0_ := Aside0.mk (Kd.R_below (kra_ HO155.out) hb); have n1_ := Aside0.mk (below_step bel_ hb); clear HO155; clear HB; have HO155 := n0_; have HB := n1_; clear n0_ n1_; (try clear hb); (try clear hb2); (try clear hk); (try clear hi)))
        go_loopg [10] k (fun kq v10 w' => ∃ (x10_1 : Int), v10 = .int .i64 x10_1 ∧ Aside0 (limelightref05_Of.l0 kq l0 a1 t153 x10_1 = some r) ∧ Aside0 (kq ≤ k) ∧ Aside0 (Kd.R (Kd.int .i64) 3 w' w.heap.size (fun _ => True) v154 t153) ∧ Aside0 (Below w.heap.size w w'))
        case atStart => exact ⟨(0), (by first | rfl | (simp; done) | (simp [*]; done)), H', ⟨Nat.le_refl _⟩, ⟨kra_ HO155.out⟩, ⟨bel_⟩⟩
        case round =>
         clear H'
         try clear c1
         try clear p1
         try clear q1
         try clear hx1
         try clear c2
         try clear p2
         try clear c3
         try clear c3b0
         try clear c4
         try clear c4b0
         try clear c5
         try clear c5b0
         try clear c5b1
         try clear c6
         try clear c6b0
         try clear c7
         try clear c7b0
         try clear c8
         try clear c8b0
         try clear c8b1
         try clear c11
         try clear c13
         try clear c15
         try clear p15
         try clear q15
         try clear hx15
         try clear hx151_0
         try clear hx151_1
         try clear hx151_2
         try clear hx151_3
         try clear hx151_4
         try clear hx151_5
         try clear hx151_6
         try clear hx152_0
         try clear hx152_1
         try clear hx152_2
         try clear hx152_3
         try clear hx152_4
         try clear hx152_5
         try clear hx152_6
         try clear p151
         try clear p152
         try clear q151
         try clear q152
         obtain ⟨x10_1, rfl, HA, HK1, HO_7, HB⟩ := hrel
         cases gk with
         | zero => exact absurd HA.out (by simp [limelightref05_Of.l0])
         | succ k1 =>
          have H := HA.out
          clear HA
          simp only [limelightref05_Of.l0] at H
          by_cases c29 : x10_1 < (t153.length : Int)
          ·rw [if_pos c29] at H
           have c29b0 : decide (x10_1 < (t153.length : Int)) = true := decide_eq_true c29
           clear c29
           by_cases c30 : 0 ≤ x10_1
           ·rw [if_pos c30] at H
            have c30b0 : decide (0 ≤ x10_1) = true := decide_eq_true c30
            clear c30
            replace H := Option.bind_eq_some_iff.mp H
            obtain ⟨t161, A310, H⟩ := H
            replace H : ((limelightref05_name.f k1 l0 a1).bind fun t162 => (if t161 = t162 then (some (rd t153 x10_1)) else (limelightref05_Of.l0 k1 l0 a1 t153 (wrap64 (x10_1 + 1))))) = some r := H
            have A31 := Aside0.mk A310
            clear A310
            replace H := Option.bind_eq_some_iff.mp H
            obtain ⟨t162, A320, H⟩ := H
            replace H : (if t161 = t162 then (some (rd t153 x10_1)) else (limelightref05_Of.l0 k1 l0 a1 t153 (wrap64 (x10_1 + 1)))) = some r := H
            have A32 := Aside0.mk A320
            clear A320
            by_cases c33 : t161 = t162
            ·rw [if_pos c33] at H
             have c33b0 : (t161 == t162) = true := beq_iff_eq.mpr c33
             have c33b1 : (t161 != t162) = false := bne_eq_false_iff_eq.mpr c33
             clear c33
             obtain rfl := Option.some.inj H
             obtain ⟨Ao34, co34, eo34⟩ := Kd.R_slice HO_7.out
             subst eo34
             have p160 : 0 ≤ (x10_1 : Int) := of_decide_eq_true asm_
             have q160 : x10_1 < (t153.length : Int) := of_decide_eq_true asm_
             obtain ⟨ad160, e160, hx160_0⟩ := Kd.at_int (Kd.R_reads' HO_7.out).2.2 x10_1 p160 q160
             cases e160
             replace p160 := eq_true p160
             replace q160 := eq_true q160
             go_wp2_with (first | ((with_reducible refine gate_callee (f := 54) rfl ?_); refine goesL_ (some 55) rfl rfl Try.func54 (by kernel_rfl) rfl #[.slice (some ad151) l0.length c0, .int .i64 (rd t153 x10_1)] rfl margs_ ?_; (with_reducible refine (limelightref05_name.calls k1 _ _ l0 (rd t153 x10_1) t161 _ ?side1 ?side2 A31.out).mono ?_); (case side1 => exact kcb_ ((Kd.C_below HR0.out HB.out))); (case side2 => exact HC0.out); rintro e w35 ⟨rfl, hb⟩; refine ⟨_, rfl, ?_⟩; have n0_ := Aside0.mk (Kd.R_below (kra_ HO_7.out) hb); have n1_ := Aside0.mk (below_step bel_ hb); clear HO_7; clear HB; have HO_7 := n0_; have HB := n1_; clear n0_ n1_; (try clear hb); (try clear hb2); (try clear hk); (try clear hi)) | ((with_reducible refine gate_callee (f := 54) rfl ?_); refine goesL_ (some 58) rfl rfl Try.func54 (by kernel_rfl) rfl #[.slice (some ad151) l0.length c0, .int .i64 a1] rfl margs_ ?_; (with_reducible refine (limelightref05_name.calls k1 _ _ l0 a1 t162 _ ?side1 ?side2 A32.out).mono ?_); (case side1 => exact kcb_ ((Kd.C_below HR0.out HB.out))); (case side2 => exact HC0.out); rintro e w36 ⟨rfl, hb⟩; refine ⟨_, rfl, ?_⟩; have n0_ := Aside0.mk (Kd.R_below (kra_ HO_7.out) hb); have n1_ := Aside0.mk (below_step bel_ hb); clear HO_7; clear HB; have HO_7 := n0_; have HB := n1_; clear n0_ n1_; (try clear hb); (try clear hb2); (try clear hk); (try clear hi); have p163 : 0 ≤ (x10_1 : Int) := of_decide_eq_true asm_; have q163 : x10_1 < (t153.length : Int) := of_decide_eq_true asm_; obtain ⟨ad163, e163, hx163_0⟩ := Kd.at_int (Kd.R_reads' HO_7.out).2.2 x10_1 p163 q163; obtain rfl : ad160 = ad163 := (by injection e163); replace p163 := eq_true p163; replace q163 := eq_true q163))
             go_ret
             exact ⟨by first | rfl | (simp [errW_none, errW_some] <;> rfl) | (simp [*, errW_none, errW_some] <;> rfl), bel_⟩
            ·rw [if_neg c33] at H
             have c33b0 : (t161 == t162) = false := beq_eq_false_iff_ne.mpr c33
             have c33b1 : (t161 != t162) = true := bne_iff_ne.mpr c33
             have H' := Aside0.mk H
             clear H
             obtain ⟨Ao37, co37, eo37⟩ := Kd.R_slice HO_7.out
             subst eo37
             have p160 : 0 ≤ (x10_1 : Int) := of_decide_eq_true asm_
             have q160 : x10_1 < (t153.length : Int) := of_decide_eq_true asm_
             obtain ⟨ad160, e160, hx160_0⟩ := Kd.at_int (Kd.R_reads' HO_7.out).2.2 x10_1 p160 q160
             cases e160
             replace p160 := eq_true p160
             replace q160 := eq_true q160
             go_wp2_with (first | ((with_reducible refine gate_callee (f := 54) rfl ?_); refine goesL_ (some 55) rfl rfl Try.func54 (by kernel_rfl) rfl #[.slice (some ad151) l0.length c0, .int .i64 (rd t153 x10_1)] rfl margs_ ?_; (with_reducible refine (limelightref05_name.calls k1 _ _ l0 (rd t153 x10_1) t161 _ ?side1 ?side2 A31.out).mono ?_); (case side1 => exact kcb_ ((Kd.C_below HR0.out HB.out))); (case side2 => exact HC0.out); rintro e w38 ⟨rfl, hb⟩; refine ⟨_, rfl, ?_⟩; have n0_ := Aside0.mk (Kd.R_below (kra_ HO_7.out) hb); have n1_ := Aside0.mk (below_step bel_ hb); clear HO_7; clear HB; have HO_7 := n0_; have HB := n1_; clear n0_ n1_; (try clear hb); (try clear hb2); (try clear hk); (try clear hi)) | ((with_reducible refine gate_callee (f := 54) rfl ?_); refine goesL_ (some 58) rfl rfl Try.func54 (by kernel_rfl) rfl #[.slice (some ad151) l0.length c0, .int .i64 a1] rfl margs_ ?_; (with_reducible refine (limelightref05_name.calls k1 _ _ l0 a1 t162 _ ?side1 ?side2 A32.out).mono ?_); (case side1 => exact kcb_ ((Kd.C_below HR0.out HB.out))); (case side2 => exact HC0.out); rintro e w39 ⟨rfl, hb⟩; refine ⟨_, rfl, ?_⟩; have n0_ := Aside0.mk (Kd.R_below (kra_ HO_7.out) hb); have n1_ := Aside0.mk (below_step bel_ hb); clear HO_7; clear HB; have HO_7 := n0_; have HB := n1_; clear n0_ n1_; (try clear hb); (try clear hb2); (try clear hk); (try clear hi)))
             go_roundg k1
             case measure => have := HK1.out; omega
             case rel => exact ⟨(wrap64 (x10_1 + 1)), (by first | rfl | (simp; done) | (simp [*]; done)), H', ⟨by have := HK1.out; omega⟩, ⟨kra_ HO_7.out⟩, ⟨bel_⟩⟩
           ·rw [if_neg c30] at H
            exact absurd H (by simp)
          ·rw [if_neg c29] at H
           have c29b0 : decide (x10_1 < (t153.length : Int)) = false := decide_eq_false c29
           clear c29
           obtain rfl := Option.some.inj H
           obtain ⟨Ao40, co40, eo40⟩ := Kd.R_slice HO_7.out
           subst eo40
           go_wp2
           go_ret
           exact ⟨by first | rfl | (simp [errW_none, errW_some] <;> rfl) | (simp [*, errW_none, errW_some] <;> rfl), bel_⟩
     ·rw [if_neg c7] at H
      exact absurd H (by simp)
    ·rw [if_neg c6] at H
     exact absurd H (by simp)
  ·rw [if_neg c4] at H
   exact absurd H (by simp)
 ·rw [if_neg c3] at H
  exact absurd H (by simp)

/-! ### limelightref07_Parent: function 15 -/
def limelightref07_Parent.f (k : Nat) (l0 : List (S53)) (a1 : Int) (a2_0 : Int) (a2_1 : Int) (a2_2 : Int) (a2_3 : Bool) (a2_4 : Bool) (a2_5 : Bool) : Option (Int) := (limelightref05_Of.f k l0 a1).bind fun t165 => (if t165 = (-1) then (if 0 ≤ a1 then (if a1 < (l0.length : Int) then (if ((rd_T53 l0 a1).f0) = 3 then (if a2_5 = true then (some ((rd_T53 l0 a1).f4)) else ((limelightref03_Top.f k l0 a2_1).bind fun t168 => (if t168 = a1 then (some (-1)) else (some ((rd_T53 l0 a1).f4))))) else (some ((rd_T53 l0 a1).f2))) else (none)) else (none)) else (some t165))
theorem limelightref07_Parent.mono : ∀ a0 a1 a2 a3 a4 a5 a6 a7 k, LeO (limelightref07_Parent.f k a0 a1 a2 a3 a4 a5 a6 a7) (limelightref07_Parent.f (k + 1) a0 a1 a2 a3 a4 a5 a6 a7) := by
 intro a0 a1 a2 a3 a4 a5 a6 a7 k
 unfold limelightref07_Parent.f
 repeat' first
   | (with_reducible exact limelightref03_Top.mono _ _ _)
   | (with_reducible exact limelightref05_Of.mono _ _ _)
   | (with_reducible exact LeO.refl _)
   | (with_reducible exact LeO.none _)
   | (with_reducible refine LeO.ite ?_ ?_)
   | (with_reducible refine LeO.bind ?_ (fun _ => ?_))
   | exact limelightref03_Top.mono _ _ _
   | exact limelightref05_Of.mono _ _ _
   | exact LeO.none _
   | refine LeO.ite ?_ ?_
   | refine LeO.bind ?_ (fun _ => ?_)
set_option maxHeartbeats 8000000 in
set_option maxRecDepth 100000 in
theorem limelightref07_Parent.calls (k : Nat) (A0 : Option Addr) (c0 : Nat) (l0 : List (S53)) (a1 : Int) (a2_0 : Int) (a2_1 : Int) (a2_2 : Int) (a2_3 : Bool) (a2_4 : Bool) (a2_5 : Bool) (r : Int) (w : World) (hr0 : Kd.C k53 w A0 l0.length l0) (hc0 : l0.length ≤ c0) (h : limelightref07_Parent.f k l0 a1 a2_0 a2_1 a2_2 a2_3 a2_4 a2_5 = some r) :
  Calls Try.prog 15 #[.slice A0 l0.length c0, .int .i64 a1, .agg #[.int .i64 a2_0, .int .i64 a2_1, .int .i64 a2_2, .bool a2_3, .bool a2_4, .bool a2_5]] w fun e w' => e = .returned (.int .i64 r) ∧ Below w.heap.size w w' := by
 have hu25 := Try.underlying25
 have HR0 := Aside0.mk hr0
 have HC0 := Aside0.mk hc0
 clear hr0 hc0
 have HB := Aside0.mk (Below.refl w.heap.size w)
 have H : ((limelightref05_Of.f k l0 a1).bind fun t165 => (if t165 = (-1) then (if 0 ≤ a1 then (if a1 < (l0.length : Int) then (if ((rd_T53 l0 a1).f0) = 3 then (if a2_5 = true then (some ((rd_T53 l0 a1).f4)) else ((limelightref03_Top.f k l0 a2_1).bind fun t168 => (if t168 = a1 then (some (-1)) else (some ((rd_T53 l0 a1).f4))))) else (some ((rd_T53 l0 a1).f2))) else (none)) else (none)) else (some t165))) = some r := h
 clear h
 replace H := Option.bind_eq_some_iff.mp H
 obtain ⟨t165, A40, H⟩ := H
 replace H : (if t165 = (-1) then (if 0 ≤ a1 then (if a1 < (l0.length : Int) then (if ((rd_T53 l0 a1).f0) = 3 then (if a2_5 = true then (some ((rd_T53 l0 a1).f4)) else ((limelightref03_Top.f k l0 a2_1).bind fun t168 => (if t168 = a1 then (some (-1)) else (some ((rd_T53 l0 a1).f4))))) else (some ((rd_T53 l0 a1).f2))) else (none)) else (none)) else (some t165)) = some r := H
 have A4 := Aside0.mk A40
 clear A40
 by_cases c5 : t165 = (-1)
 ·rw [if_pos c5] at H
  have c5b0 : (t165 == (-1)) = true := beq_iff_eq.mpr c5
  have c5b1 : (t165 != (-1)) = false := bne_eq_false_iff_eq.mpr c5
  clear c5
  by_cases c6 : 0 ≤ a1
  ·rw [if_pos c6] at H
   have c6b0 : decide (0 ≤ a1) = true := decide_eq_true c6
   clear c6
   by_cases c7 : a1 < (l0.length : Int)
   ·rw [if_pos c7] at H
    have c7b0 : decide (a1 < (l0.length : Int)) = true := decide_eq_true c7
    clear c7
    by_cases c8 : ((rd_T53 l0 a1).f0) = 3
    ·rw [if_pos c8] at H
     have c8b0 : (((rd_T53 l0 a1).f0) == 3) = true := beq_iff_eq.mpr c8
     have c8b1 : (((rd_T53 l0 a1).f0) != 3) = false := bne_eq_false_iff_eq.mpr c8
     clear c8
     by_cases c9 : a2_5 = true
     ·subst c9
      have H1 : (some ((rd_T53 l0 a1).f4)) = some r := by rw [if_pos rfl] at H; exact H
      clear H
      have H := H1
      clear H1
      obtain rfl := Option.some.inj H
      go_enter Try.func15, Try.ntmps15
      go_wp2_with (first | ((with_reducible refine gate_dst (N := 5) rfl ?_); refine box_event ?hg (N := 5) ?hd (cs := #[.int .i64 a2_0, .int .i64 a2_1, .int .i64 a2_2, .bool a2_3, .bool a2_4, .bool true]) (t := 25) ?hr ?_; (case hd => rfl); (case hg => rfl); (case hr => first | (go_simp; done) | (go_simp; rfl)); intro gb164 hg w10 hbox hb; have n0_ := Aside0.mk (below_step bel_ hb); have n1_ := Aside0.mk (hbox); have n2_ := Aside0.mk ((by rw [hg]; exact (below_size bel_) : w.heap.size ≤ gb164)); have n3_ := Aside0.mk ((by rw [hg]; exact (below_size bel_) : w.heap.size ≤ gb164)); clear HB; have HB := n0_; have BK164 := n1_; have GW164 := n2_; have GE164 := n3_; clear n0_ n1_ n2_ n3_; clear hb hbox hg) | ((with_reducible refine gate_callee (f := 29) rfl ?_); refine goesL_ (some 10) rfl rfl Try.func29 (by kernel_rfl) rfl #[.slice A0 l0.length c0, .int .i64 a1] rfl margs_ ?_; (with_reducible refine (limelightref05_Of.calls k _ _ l0 a1 t165 _ ?side1 ?side2 A4.out).mono ?_); (case side1 => exact kcb_ ((Kd.C_below HR0.out HB.out))); (case side2 => exact HC0.out); rintro e w11 ⟨rfl, hb⟩; refine ⟨_, rfl, ?_⟩; have n0_ := Aside0.mk (blk_below (g := gb164) (o := .cells #[.int .i64 a2_0, .int .i64 a2_1, .int .i64 a2_2, .bool a2_3, .bool a2_4, .bool true] 25 (0, 0)) (blkx_ BK164.out) hb); have n1_ := Aside0.mk (below_step (belg_ GE164.out) hb); clear BK164; clear HB; have BK164 := n0_; have HB := n1_; clear n0_ n1_; (try clear hb); (try clear hb2); (try clear hk); (try clear hi); have p166 : 0 ≤ (a1 : Int) := of_decide_eq_true asm_; have q166 : a1 < (l0.length : Int) := of_decide_eq_true asm_; obtain ⟨ad166, A166_3, c166_3, A166_6, c166_6, e166, hx166_0, hx166_1, hx166_2, hx166_3, hx166_4, hx166_5, hx166_6, hl166_3, hi166_3, hl166_6, hi166_6⟩ := at_T53 HR0.out a1 p166 q166; cases e166; replace hx166_0 := (HB.out.cell (World.block_lt_of_cell? w _ hx166_0)).trans hx166_0; replace hx166_1 := (HB.out.cell (World.block_lt_of_cell? w _ hx166_1)).trans hx166_1; replace hx166_2 := (HB.out.cell (World.block_lt_of_cell? w _ hx166_2)).trans hx166_2; replace hx166_3 := (HB.out.cell (World.block_lt_of_cell? w _ hx166_3)).trans hx166_3; replace hx166_4 := (HB.out.cell (World.block_lt_of_cell? w _ hx166_4)).trans hx166_4; replace hx166_5 := (HB.out.cell (World.block_lt_of_cell? w _ hx166_5)).trans hx166_5; replace hx166_6 := (HB.out.cell (World.block_lt_of_cell? w _ hx166_6)).trans hx166_6; have HR166_3 := Aside0.mk hi166_3; have HC166_3 := Aside0.mk hl166_3; clear hi166_3 hl166_3; have HR166_6 := Aside0.mk hi166_6; have HC166_6 := Aside0.mk hl166_6; clear hi166_6 hl166_6; replace p166 := eq_true p166; replace q166 := eq_true q166; have hcz12_0 : w11.cell? ⟨gb164, 0, none⟩ = some (.int .i64 a2_0) := (blk_cell BK164.out 0).trans rfl; have hcz12_1 : w11.cell? ⟨gb164, 1, none⟩ = some (.int .i64 a2_1) := (blk_cell BK164.out 1).trans rfl; have hcz12_2 : w11.cell? ⟨gb164, 2, none⟩ = some (.int .i64 a2_2) := (blk_cell BK164.out 2).trans rfl; have hcz12_3 : w11.cell? ⟨gb164, 3, none⟩ = some (.bool a2_3) := (blk_cell BK164.out 3).trans rfl; have hcz12_4 : w11.cell? ⟨gb164, 4, none⟩ = some (.bool a2_4) := (blk_cell BK164.out 4).trans rfl; have hcz12_5 : w11.cell? ⟨gb164, 5, none⟩ = some (.bool true) := (blk_cell BK164.out 5).trans rfl; have hfz12_0 := blk_frozen BK164.out 0; have hfz12_1 := blk_frozen BK164.out 1; have hfz12_2 := blk_frozen BK164.out 2; have hfz12_3 := blk_frozen BK164.out 3; have hfz12_4 := blk_frozen BK164.out 4; have hfz12_5 := blk_frozen BK164.out 5; have p167 : 0 ≤ (a1 : Int) := of_decide_eq_true asm_; have q167 : a1 < (l0.length : Int) := of_decide_eq_true asm_; obtain ⟨ad167, A167_3, c167_3, A167_6, c167_6, e167, hx167_0, hx167_1, hx167_2, hx167_3, hx167_4, hx167_5, hx167_6, hl167_3, hi167_3, hl167_6, hi167_6⟩ := at_T53 HR0.out a1 p167 q167; obtain rfl : ad166 = ad167 := (by injection e167); replace hx167_0 := (HB.out.cell (World.block_lt_of_cell? w _ hx167_0)).trans hx167_0; replace hx167_1 := (HB.out.cell (World.block_lt_of_cell? w _ hx167_1)).trans hx167_1; replace hx167_2 := (HB.out.cell (World.block_lt_of_cell? w _ hx167_2)).trans hx167_2; replace hx167_3 := (HB.out.cell (World.block_lt_of_cell? w _ hx167_3)).trans hx167_3; replace hx167_4 := (HB.out.cell (World.block_lt_of_cell? w _ hx167_4)).trans hx167_4; replace hx167_5 := (HB.out.cell (World.block_lt_of_cell? w _ hx167_5)).trans hx167_5; replace hx167_6 := (HB.out.cell (World.block_lt_of_cell? w _ hx167_6)).trans hx167_6; have HR167_3 := Aside0.mk hi167_3; have HC167_3 := Aside0.mk hl167_3; clear hi167_3 hl167_3; have HR167_6 := Aside0.mk hi167_6; have HC167_6 := Aside0.mk hl167_6; clear hi167_6 hl167_6; replace p167 := eq_true p167; replace q167 := eq_true q167; have ea_ := Option.some.inj (hx166_3.symm.trans hx167_3); injection ea_ with ea_ en_ ec_; subst ea_; subst ec_; clear en_; have ea_ := Option.some.inj (hx166_6.symm.trans hx167_6); injection ea_ with ea_ en_ ec_; subst ea_; subst ec_; clear en_))
      go_ret
      exact ⟨by first | rfl | (simp [errW_none, errW_some] <;> rfl) | (simp [*, errW_none, errW_some] <;> rfl), belg_ GE164.out⟩
     ·replace c9 := Bool.eq_false_iff.mpr c9
      subst c9
      have H1 : ((limelightref03_Top.f k l0 a2_1).bind fun t168 => (if t168 = a1 then (some (-1)) else (some ((rd_T53 l0 a1).f4)))) = some r := by rw [if_neg (show ¬ (false = true) by decide)] at H; exact H
      clear H
      have H := H1
      clear H1
      replace H := Option.bind_eq_some_iff.mp H
      obtain ⟨t168, A130, H⟩ := H
      replace H : (if t168 = a1 then (some (-1)) else (some ((rd_T53 l0 a1).f4))) = some r := H
      have A13 := Aside0.mk A130
      clear A130
      by_cases c14 : t168 = a1
      ·rw [if_pos c14] at H
       have c14b0 : (t168 == a1) = true := beq_iff_eq.mpr c14
       have c14b1 : (t168 != a1) = false := bne_eq_false_iff_eq.mpr c14
       clear c14
       obtain rfl := Option.some.inj H
       go_enter Try.func15, Try.ntmps15
       go_wp2_with (first | ((with_reducible refine gate_dst (N := 5) rfl ?_); refine box_event ?hg (N := 5) ?hd (cs := #[.int .i64 a2_0, .int .i64 a2_1, .int .i64 a2_2, .bool a2_3, .bool a2_4, .bool false]) (t := 25) ?hr ?_; (case hd => rfl); (case hg => rfl); (case hr => first | (go_simp; done) | (go_simp; rfl)); intro gb164 hg w15 hbox hb; have n0_ := Aside0.mk (below_step bel_ hb); have n1_ := Aside0.mk (hbox); have n2_ := Aside0.mk ((by rw [hg]; exact (below_size bel_) : w.heap.size ≤ gb164)); have n3_ := Aside0.mk ((by rw [hg]; exact (below_size bel_) : w.heap.size ≤ gb164)); clear HB; have HB := n0_; have BK164 := n1_; have GW164 := n2_; have GE164 := n3_; clear n0_ n1_ n2_ n3_; clear hb hbox hg) | ((with_reducible refine gate_callee (f := 29) rfl ?_); refine goesL_ (some 10) rfl rfl Try.func29 (by kernel_rfl) rfl #[.slice A0 l0.length c0, .int .i64 a1] rfl margs_ ?_; (with_reducible refine (limelightref05_Of.calls k _ _ l0 a1 t165 _ ?side1 ?side2 A4.out).mono ?_); (case side1 => exact kcb_ ((Kd.C_below HR0.out HB.out))); (case side2 => exact HC0.out); rintro e w16 ⟨rfl, hb⟩; refine ⟨_, rfl, ?_⟩; have n0_ := Aside0.mk (blk_below (g := gb164) (o := .cells #[.int .i64 a2_0, .int .i64 a2_1, .int .i64 a2_2, .bool a2_3, .bool a2_4, .bool false] 25 (0, 0)) (blkx_ BK164.out) hb); have n1_ := Aside0.mk (below_step (belg_ GE164.out) hb); clear BK164; clear HB; have BK164 := n0_; have HB := n1_; clear n0_ n1_; (try clear hb); (try clear hb2); (try clear hk); (try clear hi); have p166 : 0 ≤ (a1 : Int) := of_decide_eq_true asm_; have q166 : a1 < (l0.length : Int) := of_decide_eq_true asm_; obtain ⟨ad166, A166_3, c166_3, A166_6, c166_6, e166, hx166_0, hx166_1, hx166_2, hx166_3, hx166_4, hx166_5, hx166_6, hl166_3, hi166_3, hl166_6, hi166_6⟩ := at_T53 HR0.out a1 p166 q166; cases e166; replace hx166_0 := (HB.out.cell (World.block_lt_of_cell? w _ hx166_0)).trans hx166_0; replace hx166_1 := (HB.out.cell (World.block_lt_of_cell? w _ hx166_1)).trans hx166_1; replace hx166_2 := (HB.out.cell (World.block_lt_of_cell? w _ hx166_2)).trans hx166_2; replace hx166_3 := (HB.out.cell (World.block_lt_of_cell? w _ hx166_3)).trans hx166_3; replace hx166_4 := (HB.out.cell (World.block_lt_of_cell? w _ hx166_4)).trans hx166_4; replace hx166_5 := (HB.out.cell (World.block_lt_of_cell? w _ hx166_5)).trans hx166_5; replace hx166_6 := (HB.out.cell (World.block_lt_of_cell? w _ hx166_6)).trans hx166_6; have HR166_3 := Aside0.mk hi166_3; have HC166_3 := Aside0.mk hl166_3; clear hi166_3 hl166_3; have HR166_6 := Aside0.mk hi166_6; have HC166_6 := Aside0.mk hl166_6; clear hi166_6 hl166_6; replace p166 := eq_true p166; replace q166 := eq_true q166; have hcz17_0 : w16.cell? ⟨gb164, 0, none⟩ = some (.int .i64 a2_0) := (blk_cell BK164.out 0).trans rfl; have hcz17_1 : w16.cell? ⟨gb164, 1, none⟩ = some (.int .i64 a2_1) := (blk_cell BK164.out 1).trans rfl; have hcz17_2 : w16.cell? ⟨gb164, 2, none⟩ = some (.int .i64 a2_2) := (blk_cell BK164.out 2).trans rfl; have hcz17_3 : w16.cell? ⟨gb164, 3, none⟩ = some (.bool a2_3) := (blk_cell BK164.out 3).trans rfl; have hcz17_4 : w16.cell? ⟨gb164, 4, none⟩ = some (.bool a2_4) := (blk_cell BK164.out 4).trans rfl; have hcz17_5 : w16.cell? ⟨gb164, 5, none⟩ = some (.bool false) := (blk_cell BK164.out 5).trans rfl; have hfz17_0 := blk_frozen BK164.out 0; have hfz17_1 := blk_frozen BK164.out 1; have hfz17_2 := blk_frozen BK164.out 2; have hfz17_3 := blk_frozen BK164.out 3; have hfz17_4 := blk_frozen BK164.out 4; have hfz17_5 := blk_frozen BK164.out 5) | (go_at_call 20; (with_reducible refine (limelightref03_Top.calls k _ _ l0 a2_1 t168 _ ?side1 ?side2 A13.out).mono ?_); (case side1 => exact kcb_ ((Kd.C_below HR0.out HB.out))); (case side2 => exact HC0.out); rintro e w18 ⟨rfl, hb⟩; have n0_ := Aside0.mk (blk_below (g := gb164) (o := .cells #[.int .i64 a2_0, .int .i64 a2_1, .int .i64 a2_2, .bool a2_3, .bool a2_4, .bool false] 25 (0, 0)) (blkx_ BK164.out) hb); have n1_ := Aside0.mk (below_step (belg_ GE164.out) hb); clear BK164; clear HB; have BK164 := n0_; have HB := n1_; clear n0_ n1_; (try clear hb); (try clear hb2); (try clear hk); (try clear hi)))
       go_ret
       exact ⟨by first | rfl | (simp [errW_none, errW_some] <;> rfl) | (simp [*, errW_none, errW_some] <;> rfl), belg_ GE164.out⟩
      ·rw [if_neg c14] at H
       have c14b0 : (t168 == a1) = false := beq_eq_false_iff_ne.mpr c14
       have c14b1 : (t168 != a1) = true := bne_iff_ne.mpr c14
       obtain rfl := Option.some.inj H
       go_enter Try.func15, Try.ntmps15
       go_wp2_with (first | ((with_reducible refine gate_dst (N := 5) rfl ?_); refine box_event ?hg (N := 5) ?hd (cs := #[.int .i64 a2_0, .int .i64 a2_1, .int .i64 a2_2, .bool a2_3, .bool a2_4, .bool false]) (t := 25) ?hr ?_; (case hd => rfl); (case hg => rfl); (case hr => first | (go_simp; done) | (go_simp; rfl)); intro gb164 hg w19 hbox hb; have n0_ := Aside0.mk (below_step bel_ hb); have n1_ := Aside0.mk (hbox); have n2_ := Aside0.mk ((by rw [hg]; exact (below_size bel_) : w.heap.size ≤ gb164)); have n3_ := Aside0.mk ((by rw [hg]; exact (below_size bel_) : w.heap.size ≤ gb164)); clear HB; have HB := n0_; have BK164 := n1_; have GW164 := n2_; have GE164 := n3_; clear n0_ n1_ n2_ n3_; clear hb hbox hg) | ((with_reducible refine gate_callee (f := 29) rfl ?_); refine goesL_ (some 10) rfl rfl Try.func29 (by kernel_rfl) rfl #[.slice A0 l0.length c0, .int .i64 a1] rfl margs_ ?_; (with_reducible refine (limelightref05_Of.calls k _ _ l0 a1 t165 _ ?side1 ?side2 A4.out).mono ?_); (case side1 => exact kcb_ ((Kd.C_below HR0.out HB.out))); (case side2 => exact HC0.out); rintro e w20 ⟨rfl, hb⟩; refine ⟨_, rfl, ?_⟩; have n0_ := Aside0.mk (blk_below (g := gb164) (o := .cells #[.int .i64 a2_0, .int .i64 a2_1, .int .i64 a2_2, .bool a2_3, .bool a2_4, .bool false] 25 (0, 0)) (blkx_ BK164.out) hb); have n1_ := Aside0.mk (below_step (belg_ GE164.out) hb); clear BK164; clear HB; have BK164 := n0_; have HB := n1_; clear n0_ n1_; (try clear hb); (try clear hb2); (try clear hk); (try clear hi); have p166 : 0 ≤ (a1 : Int) := of_decide_eq_true asm_; have q166 : a1 < (l0.length : Int) := of_decide_eq_true asm_; obtain ⟨ad166, A166_3, c166_3, A166_6, c166_6, e166, hx166_0, hx166_1, hx166_2, hx166_3, hx166_4, hx166_5, hx166_6, hl166_3, hi166_3, hl166_6, hi166_6⟩ := at_T53 HR0.out a1 p166 q166; cases e166; replace hx166_0 := (HB.out.cell (World.block_lt_of_cell? w _ hx166_0)).trans hx166_0; replace hx166_1 := (HB.out.cell (World.block_lt_of_cell? w _ hx166_1)).trans hx166_1; replace hx166_2 := (HB.out.cell (World.block_lt_of_cell? w _ hx166_2)).trans hx166_2; replace hx166_3 := (HB.out.cell (World.block_lt_of_cell? w _ hx166_3)).trans hx166_3; replace hx166_4 := (HB.out.cell (World.block_lt_of_cell? w _ hx166_4)).trans hx166_4; replace hx166_5 := (HB.out.cell (World.block_lt_of_cell? w _ hx166_5)).trans hx166_5; replace hx166_6 := (HB.out.cell (World.block_lt_of_cell? w _ hx166_6)).trans hx166_6; have HR166_3 := Aside0.mk hi166_3; have HC166_3 := Aside0.mk hl166_3; clear hi166_3 hl166_3; have HR166_6 := Aside0.mk hi166_6; have HC166_6 := Aside0.mk hl166_6; clear hi166_6 hl166_6; replace p166 := eq_true p166; replace q166 := eq_true q166; have hcz21_0 : w20.cell? ⟨gb164, 0, none⟩ = some (.int .i64 a2_0) := (blk_cell BK164.out 0).trans rfl; have hcz21_1 : w20.cell? ⟨gb164, 1, none⟩ = some (.int .i64 a2_1) := (blk_cell BK164.out 1).trans rfl; have hcz21_2 : w20.cell? ⟨gb164, 2, none⟩ = some (.int .i64 a2_2) := (blk_cell BK164.out 2).trans rfl; have hcz21_3 : w20.cell? ⟨gb164, 3, none⟩ = some (.bool a2_3) := (blk_cell BK164.out 3).trans rfl; have hcz21_4 : w20.cell? ⟨gb164, 4, none⟩ = some (.bool a2_4) := (blk_cell BK164.out 4).trans rfl; have hcz21_5 : w20.cell? ⟨gb164, 5, none⟩ = some (.bool false) := (blk_cell BK164.out 5).trans rfl; have hfz21_0 := blk_frozen BK164.out 0; have hfz21_1 := blk_frozen BK164.out 1; have hfz21_2 := blk_frozen BK164.out 2; have hfz21_3 := blk_frozen BK164.out 3; have hfz21_4 := blk_frozen BK164.out 4; have hfz21_5 := blk_frozen BK164.out 5) | (go_at_call 20; (with_reducible refine (limelightref03_Top.calls k _ _ l0 a2_1 t168 _ ?side1 ?side2 A13.out).mono ?_); (case side1 => exact kcb_ ((Kd.C_below HR0.out HB.out))); (case side2 => exact HC0.out); rintro e w22 ⟨rfl, hb⟩; have n0_ := Aside0.mk (blk_below (g := gb164) (o := .cells #[.int .i64 a2_0, .int .i64 a2_1, .int .i64 a2_2, .bool a2_3, .bool a2_4, .bool false] 25 (0, 0)) (blkx_ BK164.out) hb); have n1_ := Aside0.mk (below_step (belg_ GE164.out) hb); clear BK164; clear HB; have BK164 := n0_; have HB := n1_; clear n0_ n1_; (try clear hb); (try clear hb2); (try clear hk); (try clear hi); have p169 : 0 ≤ (a1 : Int) := of_decide_eq_true asm_; have q169 : a1 < (l0.length : Int) := of_decide_eq_true asm_; obtain ⟨ad169, A169_3, c169_3, A169_6, c169_6, e169, hx169_0, hx169_1, hx169_2, hx169_3, hx169_4, hx169_5, hx169_6, hl169_3, hi169_3, hl169_6, hi169_6⟩ := at_T53 HR0.out a1 p169 q169; obtain rfl : ad166 = ad169 := (by injection e169); replace hx169_0 := (HB.out.cell (World.block_lt_of_cell? w _ hx169_0)).trans hx169_0; replace hx169_1 := (HB.out.cell (World.block_lt_of_cell? w _ hx169_1)).trans hx169_1; replace hx169_2 := (HB.out.cell (World.block_lt_of_cell? w _ hx169_2)).trans hx169_2; replace hx169_3 := (HB.out.cell (World.block_lt_of_cell? w _ hx169_3)).trans hx169_3; replace hx169_4 := (HB.out.cell (World.block_lt_of_cell? w _ hx169_4)).trans hx169_4; replace hx169_5 := (HB.out.cell (World.block_lt_of_cell? w _ hx169_5)).trans hx169_5; replace hx169_6 := (HB.out.cell (World.block_lt_of_cell? w _ hx169_6)).trans hx169_6; have HR169_3 := Aside0.mk hi169_3; have HC169_3 := Aside0.mk hl169_3; clear hi169_3 hl169_3; have HR169_6 := Aside0.mk hi169_6; have HC169_6 := Aside0.mk hl169_6; clear hi169_6 hl169_6; replace p169 := eq_true p169; replace q169 := eq_true q169))
       go_ret
       exact ⟨by first | rfl | (simp [errW_none, errW_some] <;> rfl) | (simp [*, errW_none, errW_some] <;> rfl), belg_ GE164.out⟩
    ·rw [if_neg c8] at H
     have c8b0 : (((rd_T53 l0 a1).f0) == 3) = false := beq_eq_false_iff_ne.mpr c8
     have c8b1 : (((rd_T53 l0 a1).f0) != 3) = true := bne_iff_ne.mpr c8
     obtain rfl := Option.some.inj H
     go_enter Try.func15, Try.ntmps15
     go_wp2_with (first | ((with_reducible refine gate_dst (N := 5) rfl ?_); refine box_event ?hg (N := 5) ?hd (cs := #[.int .i64 a2_0, .int .i64 a2_1, .int .i64 a2_2, .bool a2_3, .bool a2_4, .bool a2_5]) (t := 25) ?hr ?_; (case hd => rfl); (case hg => rfl); (case hr => first | (go_simp; done) | (go_simp; rfl)); intro gb164 hg w23 hbox hb; have n0_ := Aside0.mk (below_step bel_ hb); have n1_ := Aside0.mk (hbox); have n2_ := Aside0.mk ((by rw [hg]; exact (below_size bel_) : w.heap.size ≤ gb164)); have n3_ := Aside0.mk ((by rw [hg]; exact (below_size bel_) : w.heap.size ≤ gb164)); clear HB; have HB := n0_; have BK164 := n1_; have GW164 := n2_; have GE164 := n3_; clear n0_ n1_ n2_ n3_; clear hb hbox hg) | ((with_reducible refine gate_callee (f := 29) rfl ?_); refine goesL_ (some 10) rfl rfl Try.func29 (by kernel_rfl) rfl #[.slice A0 l0.length c0, .int .i64 a1] rfl margs_ ?_; (with_reducible refine (limelightref05_Of.calls k _ _ l0 a1 t165 _ ?side1 ?side2 A4.out).mono ?_); (case side1 => exact kcb_ ((Kd.C_below HR0.out HB.out))); (case side2 => exact HC0.out); rintro e w24 ⟨rfl, hb⟩; refine ⟨_, rfl, ?_⟩; have n0_ := Aside0.mk (blk_below (g := gb164) (o := .cells #[.int .i64 a2_0, .int .i64 a2_1, .int .i64 a2_2, .bool a2_3, .bool a2_4, .bool a2_5] 25 (0, 0)) (blkx_ BK164.out) hb); have n1_ := Aside0.mk (below_step (belg_ GE164.out) hb); clear BK164; clear HB; have BK164 := n0_; have HB := n1_; clear n0_ n1_; (try clear hb); (try clear hb2); (try clear hk); (try clear hi); have p166 : 0 ≤ (a1 : Int) := of_decide_eq_true asm_; have q166 : a1 < (l0.length : Int) := of_decide_eq_true asm_; obtain ⟨ad166, A166_3, c166_3, A166_6, c166_6, e166, hx166_0, hx166_1, hx166_2, hx166_3, hx166_4, hx166_5, hx166_6, hl166_3, hi166_3, hl166_6, hi166_6⟩ := at_T53 HR0.out a1 p166 q166; cases e166; replace hx166_0 := (HB.out.cell (World.block_lt_of_cell? w _ hx166_0)).trans hx166_0; replace hx166_1 := (HB.out.cell (World.block_lt_of_cell? w _ hx166_1)).trans hx166_1; replace hx166_2 := (HB.out.cell (World.block_lt_of_cell? w _ hx166_2)).trans hx166_2; replace hx166_3 := (HB.out.cell (World.block_lt_of_cell? w _ hx166_3)).trans hx166_3; replace hx166_4 := (HB.out.cell (World.block_lt_of_cell? w _ hx166_4)).trans hx166_4; replace hx166_5 := (HB.out.cell (World.block_lt_of_cell? w _ hx166_5)).trans hx166_5; replace hx166_6 := (HB.out.cell (World.block_lt_of_cell? w _ hx166_6)).trans hx166_6; have HR166_3 := Aside0.mk hi166_3; have HC166_3 := Aside0.mk hl166_3; clear hi166_3 hl166_3; have HR166_6 := Aside0.mk hi166_6; have HC166_6 := Aside0.mk hl166_6; clear hi166_6 hl166_6; replace p166 := eq_true p166; replace q166 := eq_true q166; have p170 : 0 ≤ (a1 : Int) := of_decide_eq_true asm_; have q170 : a1 < (l0.length : Int) := of_decide_eq_true asm_; obtain ⟨ad170, A170_3, c170_3, A170_6, c170_6, e170, hx170_0, hx170_1, hx170_2, hx170_3, hx170_4, hx170_5, hx170_6, hl170_3, hi170_3, hl170_6, hi170_6⟩ := at_T53 HR0.out a1 p170 q170; obtain rfl : ad166 = ad170 := (by injection e170); replace hx170_0 := (HB.out.cell (World.block_lt_of_cell? w _ hx170_0)).trans hx170_0; replace hx170_1 := (HB.out.cell (World.block_lt_of_cell? w _ hx170_1)).trans hx170_1; replace hx170_2 := (HB.out.cell (World.block_lt_of_cell? w _ hx170_2)).trans hx170_2; replace hx170_3 := (HB.out.cell (World.block_lt_of_cell? w _ hx170_3)).trans hx170_3; replace hx170_4 := (HB.out.cell (World.block_lt_of_cell? w _ hx170_4)).trans hx170_4; replace hx170_5 := (HB.out.cell (World.block_lt_of_cell? w _ hx170_5)).trans hx170_5; replace hx170_6 := (HB.out.cell (World.block_lt_of_cell? w _ hx170_6)).trans hx170_6; have HR170_3 := Aside0.mk hi170_3; have HC170_3 := Aside0.mk hl170_3; clear hi170_3 hl170_3; have HR170_6 := Aside0.mk hi170_6; have HC170_6 := Aside0.mk hl170_6; clear hi170_6 hl170_6; replace p170 := eq_true p170; replace q170 := eq_true q170; have ea_ := Option.some.inj (hx166_3.symm.trans hx170_3); injection ea_ with ea_ en_ ec_; subst ea_; subst ec_; clear en_; have ea_ := Option.some.inj (hx166_6.symm.trans hx170_6); injection ea_ with ea_ en_ ec_; subst ea_; subst ec_; clear en_))
     go_ret
     exact ⟨by first | rfl | (simp [errW_none, errW_some] <;> rfl) | (simp [*, errW_none, errW_some] <;> rfl), belg_ GE164.out⟩
   ·rw [if_neg c7] at H
    exact absurd H (by simp)
  ·rw [if_neg c6] at H
   exact absurd H (by simp)
 ·rw [if_neg c5] at H
  have c5b0 : (t165 == (-1)) = false := beq_eq_false_iff_ne.mpr c5
  have c5b1 : (t165 != (-1)) = true := bne_iff_ne.mpr c5
  obtain rfl := Option.some.inj H
  go_enter Try.func15, Try.ntmps15
  go_wp2_with (first | ((with_reducible refine gate_dst (N := 5) rfl ?_); refine box_event ?hg (N := 5) ?hd (cs := #[.int .i64 a2_0, .int .i64 a2_1, .int .i64 a2_2, .bool a2_3, .bool a2_4, .bool a2_5]) (t := 25) ?hr ?_; (case hd => rfl); (case hg => rfl); (case hr => first | (go_simp; done) | (go_simp; rfl)); intro gb164 hg w25 hbox hb; have n0_ := Aside0.mk (below_step bel_ hb); have n1_ := Aside0.mk (hbox); have n2_ := Aside0.mk ((by rw [hg]; exact (below_size bel_) : w.heap.size ≤ gb164)); have n3_ := Aside0.mk ((by rw [hg]; exact (below_size bel_) : w.heap.size ≤ gb164)); clear HB; have HB := n0_; have BK164 := n1_; have GW164 := n2_; have GE164 := n3_; clear n0_ n1_ n2_ n3_; clear hb hbox hg) | ((with_reducible refine gate_callee (f := 29) rfl ?_); refine goesL_ (some 10) rfl rfl Try.func29 (by kernel_rfl) rfl #[.slice A0 l0.length c0, .int .i64 a1] rfl margs_ ?_; (with_reducible refine (limelightref05_Of.calls k _ _ l0 a1 t165 _ ?side1 ?side2 A4.out).mono ?_); (case side1 => exact kcb_ ((Kd.C_below HR0.out HB.out))); (case side2 => exact HC0.out); rintro e w26 ⟨rfl, hb⟩; refine ⟨_, rfl, ?_⟩; have n0_ := Aside0.mk (blk_below (g := gb164) (o := .cells #[.int .i64 a2_0, .int .i64 a2_1, .int .i64 a2_2, .bool a2_3, .bool a2_4, .bool a2_5] 25 (0, 0)) (blkx_ BK164.out) hb); have n1_ := Aside0.mk (below_step (belg_ GE164.out) hb); clear BK164; clear HB; have BK164 := n0_; have HB := n1_; clear n0_ n1_; (try clear hb); (try clear hb2); (try clear hk); (try clear hi)))
  go_ret
  exact ⟨by first | rfl | (simp [errW_none, errW_some] <;> rfl) | (simp [*, errW_none, errW_some] <;> rfl), belg_ GE164.out⟩

/-! ### limelightref07_stop: function 28 -/
def limelightref07_stop.f (k : Nat) (l0 : List (S53)) (a1 : Int) (a2_0 : Int) (a2_1 : Int) (a2_2 : Int) (a2_3 : Bool) (a2_4 : Bool) (a2_5 : Bool) : Option (Int × Int × Int) := (limelightref04_Retarget.f k l0 a2_1 a1).bind fun t189 => ((limelightref01_Is.f l0 a2_2).bind fun t191 => (if t191 = true then ((limelightref04_Retarget.f k l0 a2_2 a1).bind fun t192 => (some (a1, t189, t192))) else (some (a1, t189, (-1)))))
theorem limelightref07_stop.mono : ∀ a0 a1 a2 a3 a4 a5 a6 a7 k, LeO (limelightref07_stop.f k a0 a1 a2 a3 a4 a5 a6 a7) (limelightref07_stop.f (k + 1) a0 a1 a2 a3 a4 a5 a6 a7) := by
 intro a0 a1 a2 a3 a4 a5 a6 a7 k
 unfold limelightref07_stop.f
 repeat' first
   | (with_reducible exact limelightref04_Retarget.mono _ _ _ _)
   | (with_reducible exact LeO.refl _)
   | (with_reducible exact LeO.none _)
   | (with_reducible refine LeO.ite ?_ ?_)
   | (with_reducible refine LeO.bind ?_ (fun _ => ?_))
   | exact limelightref04_Retarget.mono _ _ _ _
   | exact LeO.none _
   | refine LeO.ite ?_ ?_
   | refine LeO.bind ?_ (fun _ => ?_)
set_option maxHeartbeats 8000000 in
set_option maxRecDepth 100000 in
theorem limelightref07_stop.calls (k : Nat) (A0 : Option Addr) (c0 : Nat) (l0 : List (S53)) (a1 : Int) (a2_0 : Int) (a2_1 : Int) (a2_2 : Int) (a2_3 : Bool) (a2_4 : Bool) (a2_5 : Bool) (r1 : Int) (r2 : Int) (r3 : Int) (w : World) (hr0 : Kd.C k53 w A0 l0.length l0) (hc0 : l0.length ≤ c0) (h : limelightref07_stop.f k l0 a1 a2_0 a2_1 a2_2 a2_3 a2_4 a2_5 = some (r1, r2, r3)) :
  Calls Try.prog 28 #[.slice A0 l0.length c0, .int .i64 a1, .agg #[.int .i64 a2_0, .int .i64 a2_1, .int .i64 a2_2, .bool a2_3, .bool a2_4, .bool a2_5]] w fun e w' => e = .returned (.agg #[.int .i64 r1, .int .i64 r2, .int .i64 r3]) ∧ Below w.heap.size w w' := by
 have hu25 := Try.underlying25
 have hu35 := Try.underlying35
 have HR0 := Aside0.mk hr0
 have HC0 := Aside0.mk hc0
 clear hr0 hc0
 have HB := Aside0.mk (Below.refl w.heap.size w)
 have H : ((limelightref04_Retarget.f k l0 a2_1 a1).bind fun t189 => ((limelightref01_Is.f l0 a2_2).bind fun t191 => (if t191 = true then ((limelightref04_Retarget.f k l0 a2_2 a1).bind fun t192 => (some (a1, t189, t192))) else (some (a1, t189, (-1)))))) = some (r1, r2, r3) := h
 clear h
 replace H := Option.bind_eq_some_iff.mp H
 obtain ⟨t189, A40, H⟩ := H
 replace H : ((limelightref01_Is.f l0 a2_2).bind fun t191 => (if t191 = true then ((limelightref04_Retarget.f k l0 a2_2 a1).bind fun t192 => (some (a1, t189, t192))) else (some (a1, t189, (-1))))) = some (r1, r2, r3) := H
 have A4 := Aside0.mk A40
 clear A40
 replace H := Option.bind_eq_some_iff.mp H
 obtain ⟨t191, A50, H⟩ := H
 replace H : (if t191 = true then ((limelightref04_Retarget.f k l0 a2_2 a1).bind fun t192 => (some (a1, t189, t192))) else (some (a1, t189, (-1)))) = some (r1, r2, r3) := H
 have A5 := Aside0.mk A50
 clear A50
 by_cases c6 : t191 = true
 ·subst c6
  have H1 : ((limelightref04_Retarget.f k l0 a2_2 a1).bind fun t192 => (some (a1, t189, t192))) = some (r1, r2, r3) := by rw [if_pos rfl] at H; exact H
  clear H
  have H := H1
  clear H1
  replace H := Option.bind_eq_some_iff.mp H
  obtain ⟨t192, A70, H⟩ := H
  replace H : (some (a1, t189, t192)) = some (r1, r2, r3) := H
  have A7 := Aside0.mk A70
  clear A70
  simp only [Option.some.injEq, Prod.mk.injEq] at H
  obtain ⟨rfl, rfl, rfl⟩ := H
  go_enter Try.func28, Try.ntmps28
  go_wp2_with (first | ((with_reducible refine gate_dst (N := 5) rfl ?_); refine box_event ?hg (N := 5) ?hd (cs := #[.int .i64 a2_0, .int .i64 a2_1, .int .i64 a2_2, .bool a2_3, .bool a2_4, .bool a2_5]) (t := 25) ?hr ?_; (case hd => rfl); (case hg => rfl); (case hr => first | (go_simp; done) | (go_simp; rfl)); intro gb187 hg w8 hbox hb; have n0_ := Aside0.mk (below_step bel_ hb); have n1_ := Aside0.mk (hbox); have n2_ := Aside0.mk ((by rw [hg]; exact (below_size bel_) : w.heap.size ≤ gb187)); have n3_ := Aside0.mk ((by rw [hg]; exact (below_size bel_) : w.heap.size ≤ gb187)); clear HB; have HB := n0_; have BK187 := n1_; have GW187 := n2_; have GE187 := n3_; clear n0_ n1_ n2_ n3_; clear hb hbox hg) | ((with_reducible refine gate_dst (N := 6) rfl ?_); refine box_event ?hg (N := 6) ?hd (cs := #[.int .i64 0, .int .i64 0, .int .i64 0]) (t := 35) ?hr ?_; (case hd => rfl); (case hg => rfl); (case hr => first | (go_simp; done) | (go_simp; rfl)); intro gb188 hg w9 hbox hb; have n0_ := Aside0.mk (blk_below (g := gb187) (o := .cells #[.int .i64 a2_0, .int .i64 a2_1, .int .i64 a2_2, .bool a2_3, .bool a2_4, .bool a2_5] 25 (0, 0)) (blkx_ BK187.out) hb); have n1_ := Aside0.mk (below_step (belg_ GE187.out) hb); have n2_ := Aside0.mk (hbox); have n3_ := Aside0.mk ((by rw [hg]; exact (below_size (belg_ GE187.out)) : w.heap.size ≤ gb188)); have n4_ := Aside0.mk ((by rw [hg]; exact (below_size (belg_ GE187.out)) : w.heap.size ≤ gb188)); have n5_ := Aside0.mk ((by rw [hg]; exact Nat.ne_of_lt (blk_lt (g := gb187) (o := .cells #[.int .i64 a2_0, .int .i64 a2_1, .int .i64 a2_2, .bool a2_3, .bool a2_4, .bool a2_5] 25 (0, 0)) (blkx_ BK187.out)) : gb187 ≠ gb188)); have n6_ := Aside0.mk ((by rw [hg]; exact Nat.ne_of_gt (blk_lt (g := gb187) (o := .cells #[.int .i64 a2_0, .int .i64 a2_1, .int .i64 a2_2, .bool a2_3, .bool a2_4, .bool a2_5] 25 (0, 0)) (blkx_ BK187.out)) : gb188 ≠ gb187)); clear BK187; clear HB; have BK187 := n0_; have HB := n1_; have BK188 := n2_; have GW188 := n3_; have GE188 := n4_; have NB187_188 := n5_; have NB188_187 := n6_; clear n0_ n1_ n2_ n3_ n4_ n5_ n6_; clear hb hbox hg; have hnb10 := NB187_188.out; have hnc10 := NB188_187.out; have hcz11_0 : w9.cell? ⟨gb187, 0, none⟩ = some (.int .i64 a2_0) := (blk_cell BK187.out 0).trans rfl; have hcz11_1 : w9.cell? ⟨gb187, 1, none⟩ = some (.int .i64 a2_1) := (blk_cell BK187.out 1).trans rfl; have hcz11_2 : w9.cell? ⟨gb187, 2, none⟩ = some (.int .i64 a2_2) := (blk_cell BK187.out 2).trans rfl; have hcz11_3 : w9.cell? ⟨gb187, 3, none⟩ = some (.bool a2_3) := (blk_cell BK187.out 3).trans rfl; have hcz11_4 : w9.cell? ⟨gb187, 4, none⟩ = some (.bool a2_4) := (blk_cell BK187.out 4).trans rfl; have hcz11_5 : w9.cell? ⟨gb187, 5, none⟩ = some (.bool a2_5) := (blk_cell BK187.out 5).trans rfl; have hfz11_0 := blk_frozen BK187.out 0; have hfz11_1 := blk_frozen BK187.out 1; have hfz11_2 := blk_frozen BK187.out 2; have hfz11_3 := blk_frozen BK187.out 3; have hfz11_4 := blk_frozen BK187.out 4; have hfz11_5 := blk_frozen BK187.out 5) | ((with_reducible refine gate_callee (f := 18) rfl ?_); refine goesL_ (some 13) rfl rfl Try.func18 (by kernel_rfl) rfl #[.slice A0 l0.length c0, .int .i64 a2_1, .int .i64 a1] rfl margs_ ?_; (with_reducible refine (limelightref04_Retarget.calls k _ _ l0 a2_1 a1 t189 _ ?side1 ?side2 A4.out).mono ?_); (case side1 => exact kcb_ ((Kd.C_below HR0.out HB.out))); (case side2 => exact HC0.out); rintro e w12 ⟨rfl, hb⟩; refine ⟨_, rfl, ?_⟩; have n0_ := Aside0.mk (blk_below (g := gb187) (o := .cells #[.int .i64 a2_0, .int .i64 a2_1, .int .i64 a2_2, .bool a2_3, .bool a2_4, .bool a2_5] 25 (0, 0)) (blkx_ BK187.out) hb); have n1_ := Aside0.mk (blk_below (g := gb188) (o := .cells #[.int .i64 0, .int .i64 0, .int .i64 0] 35 (0, 0)) (blkx_ BK188.out) hb); have n2_ := Aside0.mk (below_step (by repeat (first | (with_reducible first | exact HB.out | apply below_alloc | apply pw_below_drewN | apply below_drew1 | refine below_set ?_ GE187.out | refine below_set ?_ GE188.out) | exact HB.out)) hb); clear BK187; clear BK188; clear HB; have BK187 := n0_; have BK188 := n1_; have HB := n2_; clear n0_ n1_ n2_; (try clear hb); (try clear hb2); (try clear hk); (try clear hi)) | ((with_reducible refine gate_dst (N := 7) rfl ?_); refine box_event ?hg (N := 7) ?hd (cs := #[.int .i64 0, .int .i64 0, .int .i64 0]) (t := 35) ?hr ?_; (case hd => rfl); (case hg => rfl); (case hr => first | (go_simp; done) | (go_simp; rfl)); intro gb190 hg w13 hbox hb; have n0_ := Aside0.mk (blk_below (g := gb187) (o := .cells #[.int .i64 a2_0, .int .i64 a2_1, .int .i64 a2_2, .bool a2_3, .bool a2_4, .bool a2_5] 25 (0, 0)) (blkx_ BK187.out) hb); have n1_ := Aside0.mk (blk_below (g := gb188) (o := .cells #[.int .i64 0, .int .i64 0, .int .i64 0] 35 (0, 0)) (blkx_ BK188.out) hb); have n2_ := Aside0.mk (below_step (by repeat (first | (with_reducible first | exact HB.out | apply below_alloc | apply pw_below_drewN | apply below_drew1 | refine below_set ?_ GE187.out | refine below_set ?_ GE188.out) | exact HB.out)) hb); have n3_ := Aside0.mk (hbox); have n4_ := Aside0.mk ((by rw [hg]; exact (below_size (by repeat (first | (with_reducible first | exact HB.out | apply below_alloc | apply pw_below_drewN | apply below_drew1 | refine below_set ?_ GE187.out | refine below_set ?_ GE188.out) | exact HB.out))) : w.heap.size ≤ gb190)); have n5_ := Aside0.mk ((by rw [hg]; exact (below_size (by repeat (first | (with_reducible first | exact HB.out | apply below_alloc | apply pw_below_drewN | apply below_drew1 | refine below_set ?_ GE187.out | refine below_set ?_ GE188.out) | exact HB.out))) : w.heap.size ≤ gb190)); have n6_ := Aside0.mk ((by rw [hg]; exact Nat.ne_of_lt (blk_lt (g := gb187) (o := .cells #[.int .i64 a2_0, .int .i64 a2_1, .int .i64 a2_2, .bool a2_3, .bool a2_4, .bool a2_5] 25 (0, 0)) (blkx_ BK187.out)) : gb187 ≠ gb190)); have n7_ := Aside0.mk ((by rw [hg]; exact Nat.ne_of_gt (blk_lt (g := gb187) (o := .cells #[.int .i64 a2_0, .int .i64 a2_1, .int .i64 a2_2, .bool a2_3, .bool a2_4, .bool a2_5] 25 (0, 0)) (blkx_ BK187.out)) : gb190 ≠ gb187)); have n8_ := Aside0.mk ((by rw [hg]; exact Nat.ne_of_lt (blk_lt (g := gb188) (o := .cells #[.int .i64 0, .int .i64 0, .int .i64 0] 35 (0, 0)) (blkx_ BK188.out)) : gb188 ≠ gb190)); have n9_ := Aside0.mk ((by rw [hg]; exact Nat.ne_of_gt (blk_lt (g := gb188) (o := .cells #[.int .i64 0, .int .i64 0, .int .i64 0] 35 (0, 0)) (blkx_ BK188.out)) : gb190 ≠ gb188)); clear BK187; clear BK188; clear HB; have BK187 := n0_; have BK188 := n1_; have HB := n2_; have BK190 := n3_; have GW190 := n4_; have GE190 := n5_; have NB187_190 := n6_; have NB190_187 := n7_; have NB188_190 := n8_; have NB190_188 := n9_; clear n0_ n1_ n2_ n3_ n4_ n5_ n6_ n7_ n8_ n9_; clear hb hbox hg; have hnb14 := NB190_187.out; have hnc14 := NB187_190.out; have hnb15 := NB190_188.out; have hnc15 := NB188_190.out; have hcz16_0 : w13.cell? ⟨gb190, 0, none⟩ = some (.int .i64 0) := (blk_cell BK190.out 0).trans rfl; have hcz16_1 : w13.cell? ⟨gb190, 1, none⟩ = some (.int .i64 0) := (blk_cell BK190.out 1).trans rfl; have hcz16_2 : w13.cell? ⟨gb190, 2, none⟩ = some (.int .i64 0) := (blk_cell BK190.out 2).trans rfl; have hfz16_0 := blk_frozen BK190.out 0; have hfz16_1 := blk_frozen BK190.out 1; have hfz16_2 := blk_frozen BK190.out 2; have hcz17_0 : w13.cell? ⟨gb187, 0, none⟩ = some (.int .i64 a2_0) := (blk_cell BK187.out 0).trans rfl; have hcz17_1 : w13.cell? ⟨gb187, 1, none⟩ = some (.int .i64 a2_1) := (blk_cell BK187.out 1).trans rfl; have hcz17_2 : w13.cell? ⟨gb187, 2, none⟩ = some (.int .i64 a2_2) := (blk_cell BK187.out 2).trans rfl; have hcz17_3 : w13.cell? ⟨gb187, 3, none⟩ = some (.bool a2_3) := (blk_cell BK187.out 3).trans rfl; have hcz17_4 : w13.cell? ⟨gb187, 4, none⟩ = some (.bool a2_4) := (blk_cell BK187.out 4).trans rfl; have hcz17_5 : w13.cell? ⟨gb187, 5, none⟩ = some (.bool a2_5) := (blk_cell BK187.out 5).trans rfl; have hfz17_0 := blk_frozen BK187.out 0; have hfz17_1 := blk_frozen BK187.out 1; have hfz17_2 := blk_frozen BK187.out 2; have hfz17_3 := blk_frozen BK187.out 3; have hfz17_4 := blk_frozen BK187.out 4; have hfz17_5 := blk_frozen BK187.out 5) | ((with_reducible refine gate_callee (f := 14) rfl ?_); refine goesL_ (some 18) rfl rfl Try.func14 (by kernel_rfl) rfl #[.slice A0 l0.length c0, .int .i64 a2_2] rfl margs_ ?_; (with_reducible refine (limelightref01_Is.calls _ _ l0 a2_2 true _ ?side1 ?side2 A5.out).mono ?_); (case side1 => exact Kd.C_below HR0.out (by repeat (first | (with_reducible first | exact HB.out | apply below_alloc | apply pw_below_drewN | apply below_drew1 | refine below_set ?_ GE187.out | refine below_set ?_ GE188.out | refine below_set ?_ GE190.out) | exact HB.out))); (case side2 => exact HC0.out); rintro e w18 ⟨rfl, hb⟩; refine ⟨_, rfl, ?_⟩; have n0_ := Aside0.mk (blk_below (g := gb187) (o := .cells #[.int .i64 a2_0, .int .i64 a2_1, .int .i64 a2_2, .bool a2_3, .bool a2_4, .bool a2_5] 25 (0, 0)) (by (with_reducible repeat (first | refine blk_drewN ?_ _ | refine blk_drew ?_ | refine blk_alloc ?_ _)); refine blk_far ?_ NB187_190.out _; (with_reducible repeat (first | refine blk_drewN ?_ _ | refine blk_drew ?_ | refine blk_alloc ?_ _)); refine blk_far ?_ NB187_190.out _; (with_reducible repeat (first | refine blk_drewN ?_ _ | refine blk_drew ?_ | refine blk_alloc ?_ _)); refine blk_far ?_ NB187_190.out _; (with_reducible repeat (first | refine blk_drewN ?_ _ | refine blk_drew ?_ | refine blk_alloc ?_ _)); exact BK187.out) hb); have n1_ := Aside0.mk (blk_below (g := gb188) (o := .cells #[.int .i64 0, .int .i64 0, .int .i64 0] 35 (0, 0)) (by (with_reducible repeat (first | refine blk_drewN ?_ _ | refine blk_drew ?_ | refine blk_alloc ?_ _)); refine blk_far ?_ NB188_190.out _; (with_reducible repeat (first | refine blk_drewN ?_ _ | refine blk_drew ?_ | refine blk_alloc ?_ _)); refine blk_far ?_ NB188_190.out _; (with_reducible repeat (first | refine blk_drewN ?_ _ | refine blk_drew ?_ | refine blk_alloc ?_ _)); refine blk_far ?_ NB188_190.out _; (with_reducible repeat (first | refine blk_drewN ?_ _ | refine blk_drew ?_ | refine blk_alloc ?_ _)); exact BK188.out) hb); have n2_ := Aside0.mk (blk_below (g := gb190) (o := .cells #[.int .i64 a1, .int .i64 t189, .int .i64 (-1)] 35 (0, 0)) (by (with_reducible repeat (first | refine blk_drewN ?_ _ | refine blk_drew ?_ | refine blk_alloc ?_ _)); refine blk_put (cs := #[.int .i64 a1, .int .i64 t189, .int .i64 0]) ?_ 2 _ rfl; (with_reducible repeat (first | refine blk_drewN ?_ _ | refine blk_drew ?_ | refine blk_alloc ?_ _)); refine blk_put (cs := #[.int .i64 a1, .int .i64 0, .int .i64 0]) ?_ 1 _ rfl; (with_reducible repeat (first | refine blk_drewN ?_ _ | refine blk_drew ?_ | refine blk_alloc ?_ _)); refine blk_put (cs := #[.int .i64 0, .int .i64 0, .int .i64 0]) ?_ 0 _ rfl; (with_reducible repeat (first | refine blk_drewN ?_ _ | refine blk_drew ?_ | refine blk_alloc ?_ _)); exact BK190.out) hb); have n3_ := Aside0.mk (below_step (by repeat (first | (with_reducible first | exact HB.out | apply below_alloc | apply pw_below_drewN | apply below_drew1 | refine below_set ?_ GE187.out | refine below_set ?_ GE188.out | refine below_set ?_ GE190.out) | exact HB.out)) hb); clear BK187; clear BK188; clear BK190; clear HB; have BK187 := n0_; have BK188 := n1_; have BK190 := n2_; have HB := n3_; clear n0_ n1_ n2_ n3_; (try clear hb); (try clear hb2); (try clear hk); (try clear hi); have hcz19_0 : w18.cell? ⟨gb187, 0, none⟩ = some (.int .i64 a2_0) := (blk_cell BK187.out 0).trans rfl; have hcz19_1 : w18.cell? ⟨gb187, 1, none⟩ = some (.int .i64 a2_1) := (blk_cell BK187.out 1).trans rfl; have hcz19_2 : w18.cell? ⟨gb187, 2, none⟩ = some (.int .i64 a2_2) := (blk_cell BK187.out 2).trans rfl; have hcz19_3 : w18.cell? ⟨gb187, 3, none⟩ = some (.bool a2_3) := (blk_cell BK187.out 3).trans rfl; have hcz19_4 : w18.cell? ⟨gb187, 4, none⟩ = some (.bool a2_4) := (blk_cell BK187.out 4).trans rfl; have hcz19_5 : w18.cell? ⟨gb187, 5, none⟩ = some (.bool a2_5) := (blk_cell BK187.out 5).trans rfl; have hfz19_0 := blk_frozen BK187.out 0; have hfz19_1 := blk_frozen BK187.out 1; have hfz19_2 := blk_frozen BK187.out 2; have hfz19_3 := blk_frozen BK187.out 3; have hfz19_4 := blk_frozen BK187.out 4; have hfz19_5 := blk_frozen BK187.out 5) | ((with_reducible refine gate_callee (f := 18) rfl ?_); refine goesL_ (some 23) rfl rfl Try.func18 (by kernel_rfl) rfl #[.slice A0 l0.length c0, .int .i64 a2_2, .int .i64 a1] rfl margs_ ?_; (with_reducible refine (limelightref04_Retarget.calls k _ _ l0 a2_2 a1 t192 _ ?side1 ?side2 A7.out).mono ?_); (case side1 => exact kcb_ ((Kd.C_below HR0.out HB.out))); (case side2 => exact HC0.out); rintro e w20 ⟨rfl, hb⟩; refine ⟨_, rfl, ?_⟩; have n0_ := Aside0.mk (blk_below (g := gb187) (o := .cells #[.int .i64 a2_0, .int .i64 a2_1, .int .i64 a2_2, .bool a2_3, .bool a2_4, .bool a2_5] 25 (0, 0)) (blkx_ BK187.out) hb); have n1_ := Aside0.mk (blk_below (g := gb188) (o := .cells #[.int .i64 0, .int .i64 0, .int .i64 0] 35 (0, 0)) (blkx_ BK188.out) hb); have n2_ := Aside0.mk (blk_below (g := gb190) (o := .cells #[.int .i64 a1, .int .i64 t189, .int .i64 (-1)] 35 (0, 0)) (blkx_ BK190.out) hb); have n3_ := Aside0.mk (below_step (by repeat (first | (with_reducible first | exact HB.out | apply below_alloc | apply pw_below_drewN | apply below_drew1 | refine below_set ?_ GE187.out | refine below_set ?_ GE188.out | refine below_set ?_ GE190.out) | exact HB.out)) hb); clear BK187; clear BK188; clear BK190; clear HB; have BK187 := n0_; have BK188 := n1_; have BK190 := n2_; have HB := n3_; clear n0_ n1_ n2_ n3_; (try clear hb); (try clear hb2); (try clear hk); (try clear hi); have hcz21_0 : w20.cell? ⟨gb190, 0, none⟩ = some (.int .i64 a1) := (blk_cell BK190.out 0).trans rfl; have hcz21_1 : w20.cell? ⟨gb190, 1, none⟩ = some (.int .i64 t189) := (blk_cell BK190.out 1).trans rfl; have hcz21_2 : w20.cell? ⟨gb190, 2, none⟩ = some (.int .i64 (-1)) := (blk_cell BK190.out 2).trans rfl; have hfz21_0 := blk_frozen BK190.out 0; have hfz21_1 := blk_frozen BK190.out 1; have hfz21_2 := blk_frozen BK190.out 2; have hcz22_0 : w20.cell? ⟨gb188, 0, none⟩ = some (.int .i64 0) := (blk_cell BK188.out 0).trans rfl; have hcz22_1 : w20.cell? ⟨gb188, 1, none⟩ = some (.int .i64 0) := (blk_cell BK188.out 1).trans rfl; have hcz22_2 : w20.cell? ⟨gb188, 2, none⟩ = some (.int .i64 0) := (blk_cell BK188.out 2).trans rfl; have hfz22_0 := blk_frozen BK188.out 0; have hfz22_1 := blk_frozen BK188.out 1; have hfz22_2 := blk_frozen BK188.out 2))
  refine bodyPost_ret (results_cell_row rfl _ _ gb188 35 #[.int .i64 a1, .int .i64 t189, .int .i64 t192] (0, 0) _ rfl (by (with_reducible repeat (first | refine blk_drewN ?_ _ | refine blk_drew ?_ | refine blk_alloc ?_ _)); refine blk_put (cs := #[.int .i64 a1, .int .i64 t189, .int .i64 0]) ?_ 2 _ rfl; (with_reducible repeat (first | refine blk_drewN ?_ _ | refine blk_drew ?_ | refine blk_alloc ?_ _)); refine blk_put (cs := #[.int .i64 a1, .int .i64 0, .int .i64 0]) ?_ 1 _ rfl; (with_reducible repeat (first | refine blk_drewN ?_ _ | refine blk_drew ?_ | refine blk_alloc ?_ _)); refine blk_put (cs := #[.int .i64 0, .int .i64 0, .int .i64 0]) ?_ 0 _ rfl; (with_reducible repeat (first | refine blk_drewN ?_ _ | refine blk_drew ?_ | refine blk_alloc ?_ _)); refine blk_far ?_ NB188_190.out _; (with_reducible repeat (first | refine blk_drewN ?_ _ | refine blk_drew ?_ | refine blk_alloc ?_ _)); exact BK188.out) Try.underlying35 rfl (by kernel_rfl)) rfl ?_
  exact ⟨by first | rfl | (simp [errW_none, errW_some] <;> rfl) | (simp [*, errW_none, errW_some] <;> rfl), by repeat (first | (with_reducible first | exact HB.out | apply below_alloc | apply pw_below_drewN | apply below_drew1 | refine below_set ?_ GE187.out | refine below_set ?_ GE188.out | refine below_set ?_ GE190.out) | exact HB.out)⟩
 ·replace c6 := Bool.eq_false_iff.mpr c6
  subst c6
  have H1 : (some (a1, t189, (-1))) = some (r1, r2, r3) := by rw [if_neg (show ¬ (false = true) by decide)] at H; exact H
  clear H
  have H := H1
  clear H1
  simp only [Option.some.injEq, Prod.mk.injEq] at H
  obtain ⟨rfl, rfl, rfl⟩ := H
  go_enter Try.func28, Try.ntmps28
  go_wp2_with (first | ((with_reducible refine gate_dst (N := 5) rfl ?_); refine box_event ?hg (N := 5) ?hd (cs := #[.int .i64 a2_0, .int .i64 a2_1, .int .i64 a2_2, .bool a2_3, .bool a2_4, .bool a2_5]) (t := 25) ?hr ?_; (case hd => rfl); (case hg => rfl); (case hr => first | (go_simp; done) | (go_simp; rfl)); intro gb187 hg w23 hbox hb; have n0_ := Aside0.mk (below_step bel_ hb); have n1_ := Aside0.mk (hbox); have n2_ := Aside0.mk ((by rw [hg]; exact (below_size bel_) : w.heap.size ≤ gb187)); have n3_ := Aside0.mk ((by rw [hg]; exact (below_size bel_) : w.heap.size ≤ gb187)); clear HB; have HB := n0_; have BK187 := n1_; have GW187 := n2_; have GE187 := n3_; clear n0_ n1_ n2_ n3_; clear hb hbox hg) | ((with_reducible refine gate_dst (N := 6) rfl ?_); refine box_event ?hg (N := 6) ?hd (cs := #[.int .i64 0, .int .i64 0, .int .i64 0]) (t := 35) ?hr ?_; (case hd => rfl); (case hg => rfl); (case hr => first | (go_simp; done) | (go_simp; rfl)); intro gb188 hg w24 hbox hb; have n0_ := Aside0.mk (blk_below (g := gb187) (o := .cells #[.int .i64 a2_0, .int .i64 a2_1, .int .i64 a2_2, .bool a2_3, .bool a2_4, .bool a2_5] 25 (0, 0)) (blkx_ BK187.out) hb); have n1_ := Aside0.mk (below_step (belg_ GE187.out) hb); have n2_ := Aside0.mk (hbox); have n3_ := Aside0.mk ((by rw [hg]; exact (below_size (belg_ GE187.out)) : w.heap.size ≤ gb188)); have n4_ := Aside0.mk ((by rw [hg]; exact (below_size (belg_ GE187.out)) : w.heap.size ≤ gb188)); have n5_ := Aside0.mk ((by rw [hg]; exact Nat.ne_of_lt (blk_lt (g := gb187) (o := .cells #[.int .i64 a2_0, .int .i64 a2_1, .int .i64 a2_2, .bool a2_3, .bool a2_4, .bool a2_5] 25 (0, 0)) (blkx_ BK187.out)) : gb187 ≠ gb188)); have n6_ := Aside0.mk ((by rw [hg]; exact Nat.ne_of_gt (blk_lt (g := gb187) (o := .cells #[.int .i64 a2_0, .int .i64 a2_1, .int .i64 a2_2, .bool a2_3, .bool a2_4, .bool a2_5] 25 (0, 0)) (blkx_ BK187.out)) : gb188 ≠ gb187)); clear BK187; clear HB; have BK187 := n0_; have HB := n1_; have BK188 := n2_; have GW188 := n3_; have GE188 := n4_; have NB187_188 := n5_; have NB188_187 := n6_; clear n0_ n1_ n2_ n3_ n4_ n5_ n6_; clear hb hbox hg; have hnb25 := NB187_188.out; have hnc25 := NB188_187.out; have hcz26_0 : w24.cell? ⟨gb187, 0, none⟩ = some (.int .i64 a2_0) := (blk_cell BK187.out 0).trans rfl; have hcz26_1 : w24.cell? ⟨gb187, 1, none⟩ = some (.int .i64 a2_1) := (blk_cell BK187.out 1).trans rfl; have hcz26_2 : w24.cell? ⟨gb187, 2, none⟩ = some (.int .i64 a2_2) := (blk_cell BK187.out 2).trans rfl; have hcz26_3 : w24.cell? ⟨gb187, 3, none⟩ = some (.bool a2_3) := (blk_cell BK187.out 3).trans rfl; have hcz26_4 : w24.cell? ⟨gb187, 4, none⟩ = some (.bool a2_4) := (blk_cell BK187.out 4).trans rfl; have hcz26_5 : w24.cell? ⟨gb187, 5, none⟩ = some (.bool a2_5) := (blk_cell BK187.out 5).trans rfl; have hfz26_0 := blk_frozen BK187.out 0; have hfz26_1 := blk_frozen BK187.out 1; have hfz26_2 := blk_frozen BK187.out 2; have hfz26_3 := blk_frozen BK187.out 3; have hfz26_4 := blk_frozen BK187.out 4; have hfz26_5 := blk_frozen BK187.out 5) | ((with_reducible refine gate_callee (f := 18) rfl ?_); refine goesL_ (some 13) rfl rfl Try.func18 (by kernel_rfl) rfl #[.slice A0 l0.length c0, .int .i64 a2_1, .int .i64 a1] rfl margs_ ?_; (with_reducible refine (limelightref04_Retarget.calls k _ _ l0 a2_1 a1 t189 _ ?side1 ?side2 A4.out).mono ?_); (case side1 => exact kcb_ ((Kd.C_below HR0.out HB.out))); (case side2 => exact HC0.out); rintro e w27 ⟨rfl, hb⟩; refine ⟨_, rfl, ?_⟩; have n0_ := Aside0.mk (blk_below (g := gb187) (o := .cells #[.int .i64 a2_0, .int .i64 a2_1, .int .i64 a2_2, .bool a2_3, .bool a2_4, .bool a2_5] 25 (0, 0)) (blkx_ BK187.out) hb); have n1_ := Aside0.mk (blk_below (g := gb188) (o := .cells #[.int .i64 0, .int .i64 0, .int .i64 0] 35 (0, 0)) (blkx_ BK188.out) hb); have n2_ := Aside0.mk (below_step (by repeat (first | (with_reducible first | exact HB.out | apply below_alloc | apply pw_below_drewN | apply below_drew1 | refine below_set ?_ GE187.out | refine below_set ?_ GE188.out) | exact HB.out)) hb); clear BK187; clear BK188; clear HB; have BK187 := n0_; have BK188 := n1_; have HB := n2_; clear n0_ n1_ n2_; (try clear hb); (try clear hb2); (try clear hk); (try clear hi)) | ((with_reducible refine gate_dst (N := 7) rfl ?_); refine box_event ?hg (N := 7) ?hd (cs := #[.int .i64 0, .int .i64 0, .int .i64 0]) (t := 35) ?hr ?_; (case hd => rfl); (case hg => rfl); (case hr => first | (go_simp; done) | (go_simp; rfl)); intro gb190 hg w28 hbox hb; have n0_ := Aside0.mk (blk_below (g := gb187) (o := .cells #[.int .i64 a2_0, .int .i64 a2_1, .int .i64 a2_2, .bool a2_3, .bool a2_4, .bool a2_5] 25 (0, 0)) (blkx_ BK187.out) hb); have n1_ := Aside0.mk (blk_below (g := gb188) (o := .cells #[.int .i64 0, .int .i64 0, .int .i64 0] 35 (0, 0)) (blkx_ BK188.out) hb); have n2_ := Aside0.mk (below_step (by repeat (first | (with_reducible first | exact HB.out | apply below_alloc | apply pw_below_drewN | apply below_drew1 | refine below_set ?_ GE187.out | refine below_set ?_ GE188.out) | exact HB.out)) hb); have n3_ := Aside0.mk (hbox); have n4_ := Aside0.mk ((by rw [hg]; exact (below_size (by repeat (first | (with_reducible first | exact HB.out | apply below_alloc | apply pw_below_drewN | apply below_drew1 | refine below_set ?_ GE187.out | refine below_set ?_ GE188.out) | exact HB.out))) : w.heap.size ≤ gb190)); have n5_ := Aside0.mk ((by rw [hg]; exact (below_size (by repeat (first | (with_reducible first | exact HB.out | apply below_alloc | apply pw_below_drewN | apply below_drew1 | refine below_set ?_ GE187.out | refine below_set ?_ GE188.out) | exact HB.out))) : w.heap.size ≤ gb190)); have n6_ := Aside0.mk ((by rw [hg]; exact Nat.ne_of_lt (blk_lt (g := gb187) (o := .cells #[.int .i64 a2_0, .int .i64 a2_1, .int .i64 a2_2, .bool a2_3, .bool a2_4, .bool a2_5] 25 (0, 0)) (blkx_ BK187.out)) : gb187 ≠ gb190)); have n7_ := Aside0.mk ((by rw [hg]; exact Nat.ne_of_gt (blk_lt (g := gb187) (o := .cells #[.int .i64 a2_0, .int .i64 a2_1, .int .i64 a2_2, .bool a2_3, .bool a2_4, .bool a2_5] 25 (0, 0)) (blkx_ BK187.out)) : gb190 ≠ gb187)); have n8_ := Aside0.mk ((by rw [hg]; exact Nat.ne_of_lt (blk_lt (g := gb188) (o := .cells #[.int .i64 0, .int .i64 0, .int .i64 0] 35 (0, 0)) (blkx_ BK188.out)) : gb188 ≠ gb190)); have n9_ := Aside0.mk ((by rw [hg]; exact Nat.ne_of_gt (blk_lt (g := gb188) (o := .cells #[.int .i64 0, .int .i64 0, .int .i64 0] 35 (0, 0)) (blkx_ BK188.out)) : gb190 ≠ gb188)); clear BK187; clear BK188; clear HB; have BK187 := n0_; have BK188 := n1_; have HB := n2_; have BK190 := n3_; have GW190 := n4_; have GE190 := n5_; have NB187_190 := n6_; have NB190_187 := n7_; have NB188_190 := n8_; have NB190_188 := n9_; clear n0_ n1_ n2_ n3_ n4_ n5_ n6_ n7_ n8_ n9_; clear hb hbox hg; have hnb29 := NB190_187.out; have hnc29 := NB187_190.out; have hnb30 := NB190_188.out; have hnc30 := NB188_190.out; have hcz31_0 : w28.cell? ⟨gb190, 0, none⟩ = some (.int .i64 0) := (blk_cell BK190.out 0).trans rfl; have hcz31_1 : w28.cell? ⟨gb190, 1, none⟩ = some (.int .i64 0) := (blk_cell BK190.out 1).trans rfl; have hcz31_2 : w28.cell? ⟨gb190, 2, none⟩ = some (.int .i64 0) := (blk_cell BK190.out 2).trans rfl; have hfz31_0 := blk_frozen BK190.out 0; have hfz31_1 := blk_frozen BK190.out 1; have hfz31_2 := blk_frozen BK190.out 2; have hcz32_0 : w28.cell? ⟨gb187, 0, none⟩ = some (.int .i64 a2_0) := (blk_cell BK187.out 0).trans rfl; have hcz32_1 : w28.cell? ⟨gb187, 1, none⟩ = some (.int .i64 a2_1) := (blk_cell BK187.out 1).trans rfl; have hcz32_2 : w28.cell? ⟨gb187, 2, none⟩ = some (.int .i64 a2_2) := (blk_cell BK187.out 2).trans rfl; have hcz32_3 : w28.cell? ⟨gb187, 3, none⟩ = some (.bool a2_3) := (blk_cell BK187.out 3).trans rfl; have hcz32_4 : w28.cell? ⟨gb187, 4, none⟩ = some (.bool a2_4) := (blk_cell BK187.out 4).trans rfl; have hcz32_5 : w28.cell? ⟨gb187, 5, none⟩ = some (.bool a2_5) := (blk_cell BK187.out 5).trans rfl; have hfz32_0 := blk_frozen BK187.out 0; have hfz32_1 := blk_frozen BK187.out 1; have hfz32_2 := blk_frozen BK187.out 2; have hfz32_3 := blk_frozen BK187.out 3; have hfz32_4 := blk_frozen BK187.out 4; have hfz32_5 := blk_frozen BK187.out 5) | ((with_reducible refine gate_callee (f := 14) rfl ?_); refine goesL_ (some 18) rfl rfl Try.func14 (by kernel_rfl) rfl #[.slice A0 l0.length c0, .int .i64 a2_2] rfl margs_ ?_; (with_reducible refine (limelightref01_Is.calls _ _ l0 a2_2 false _ ?side1 ?side2 A5.out).mono ?_); (case side1 => exact Kd.C_below HR0.out (by repeat (first | (with_reducible first | exact HB.out | apply below_alloc | apply pw_below_drewN | apply below_drew1 | refine below_set ?_ GE187.out | refine below_set ?_ GE188.out | refine below_set ?_ GE190.out) | exact HB.out))); (case side2 => exact HC0.out); rintro e w33 ⟨rfl, hb⟩; refine ⟨_, rfl, ?_⟩; have n0_ := Aside0.mk (blk_below (g := gb187) (o := .cells #[.int .i64 a2_0, .int .i64 a2_1, .int .i64 a2_2, .bool a2_3, .bool a2_4, .bool a2_5] 25 (0, 0)) (by (with_reducible repeat (first | refine blk_drewN ?_ _ | refine blk_drew ?_ | refine blk_alloc ?_ _)); refine blk_far ?_ NB187_190.out _; (with_reducible repeat (first | refine blk_drewN ?_ _ | refine blk_drew ?_ | refine blk_alloc ?_ _)); refine blk_far ?_ NB187_190.out _; (with_reducible repeat (first | refine blk_drewN ?_ _ | refine blk_drew ?_ | refine blk_alloc ?_ _)); refine blk_far ?_ NB187_190.out _; (with_reducible repeat (first | refine blk_drewN ?_ _ | refine blk_drew ?_ | refine blk_alloc ?_ _)); exact BK187.out) hb); have n1_ := Aside0.mk (blk_below (g := gb188) (o := .cells #[.int .i64 0, .int .i64 0, .int .i64 0] 35 (0, 0)) (by (with_reducible repeat (first | refine blk_drewN ?_ _ | refine blk_drew ?_ | refine blk_alloc ?_ _)); refine blk_far ?_ NB188_190.out _; (with_reducible repeat (first | refine blk_drewN ?_ _ | refine blk_drew ?_ | refine blk_alloc ?_ _)); refine blk_far ?_ NB188_190.out _; (with_reducible repeat (first | refine blk_drewN ?_ _ | refine blk_drew ?_ | refine blk_alloc ?_ _)); refine blk_far ?_ NB188_190.out _; (with_reducible repeat (first | refine blk_drewN ?_ _ | refine blk_drew ?_ | refine blk_alloc ?_ _)); exact BK188.out) hb); have n2_ := Aside0.mk (blk_below (g := gb190) (o := .cells #[.int .i64 a1, .int .i64 t189, .int .i64 (-1)] 35 (0, 0)) (by (with_reducible repeat (first | refine blk_drewN ?_ _ | refine blk_drew ?_ | refine blk_alloc ?_ _)); refine blk_put (cs := #[.int .i64 a1, .int .i64 t189, .int .i64 0]) ?_ 2 _ rfl; (with_reducible repeat (first | refine blk_drewN ?_ _ | refine blk_drew ?_ | refine blk_alloc ?_ _)); refine blk_put (cs := #[.int .i64 a1, .int .i64 0, .int .i64 0]) ?_ 1 _ rfl; (with_reducible repeat (first | refine blk_drewN ?_ _ | refine blk_drew ?_ | refine blk_alloc ?_ _)); refine blk_put (cs := #[.int .i64 0, .int .i64 0, .int .i64 0]) ?_ 0 _ rfl; (with_reducible repeat (first | refine blk_drewN ?_ _ | refine blk_drew ?_ | refine blk_alloc ?_ _)); exact BK190.out) hb); have n3_ := Aside0.mk (below_step (by repeat (first | (with_reducible first | exact HB.out | apply below_alloc | apply pw_below_drewN | apply below_drew1 | refine below_set ?_ GE187.out | refine below_set ?_ GE188.out | refine below_set ?_ GE190.out) | exact HB.out)) hb); clear BK187; clear BK188; clear BK190; clear HB; have BK187 := n0_; have BK188 := n1_; have BK190 := n2_; have HB := n3_; clear n0_ n1_ n2_ n3_; (try clear hb); (try clear hb2); (try clear hk); (try clear hi); have hcz34_0 : w33.cell? ⟨gb190, 0, none⟩ = some (.int .i64 a1) := (blk_cell BK190.out 0).trans rfl; have hcz34_1 : w33.cell? ⟨gb190, 1, none⟩ = some (.int .i64 t189) := (blk_cell BK190.out 1).trans rfl; have hcz34_2 : w33.cell? ⟨gb190, 2, none⟩ = some (.int .i64 (-1)) := (blk_cell BK190.out 2).trans rfl; have hfz34_0 := blk_frozen BK190.out 0; have hfz34_1 := blk_frozen BK190.out 1; have hfz34_2 := blk_frozen BK190.out 2; have hcz35_0 : w33.cell? ⟨gb188, 0, none⟩ = some (.int .i64 0) := (blk_cell BK188.out 0).trans rfl; have hcz35_1 : w33.cell? ⟨gb188, 1, none⟩ = some (.int .i64 0) := (blk_cell BK188.out 1).trans rfl; have hcz35_2 : w33.cell? ⟨gb188, 2, none⟩ = some (.int .i64 0) := (blk_cell BK188.out 2).trans rfl; have hfz35_0 := blk_frozen BK188.out 0; have hfz35_1 := blk_frozen BK188.out 1; have hfz35_2 := blk_frozen BK188.out 2))
  refine bodyPost_ret (results_cell_row rfl _ _ gb188 35 #[.int .i64 a1, .int .i64 t189, .int .i64 (-1)] (0, 0) _ rfl (by (with_reducible repeat (first | refine blk_drewN ?_ _ | refine blk_drew ?_ | refine blk_alloc ?_ _)); refine blk_put (cs := #[.int .i64 a1, .int .i64 t189, .int .i64 0]) ?_ 2 _ rfl; (with_reducible repeat (first | refine blk_drewN ?_ _ | refine blk_drew ?_ | refine blk_alloc ?_ _)); refine blk_put (cs := #[.int .i64 a1, .int .i64 0, .int .i64 0]) ?_ 1 _ rfl; (with_reducible repeat (first | refine blk_drewN ?_ _ | refine blk_drew ?_ | refine blk_alloc ?_ _)); refine blk_put (cs := #[.int .i64 0, .int .i64 0, .int .i64 0]) ?_ 0 _ rfl; (with_reducible repeat (first | refine blk_drewN ?_ _ | refine blk_drew ?_ | refine blk_alloc ?_ _)); exact BK188.out) Try.underlying35 rfl (by kernel_rfl)) rfl ?_
  exact ⟨by first | rfl | (simp [errW_none, errW_some] <;> rfl) | (simp [*, errW_none, errW_some] <;> rfl), by repeat (first | (with_reducible first | exact HB.out | apply below_alloc | apply pw_below_drewN | apply below_drew1 | refine below_set ?_ GE187.out | refine below_set ?_ GE188.out | refine below_set ?_ GE190.out) | exact HB.out)⟩

/-! ### limelightref07_Path: function 13 -/
def limelightref07_Path.l0 : Nat → List (S53) → List (S35) → Int → Int → Int → Int → Bool → Bool → Bool → Option ((List (S35)))
 | 0, _, _, _, _, _, _, _, _, _ => none
 | k + 1, x0, x5, x6, x194000, x194001, x194002, x194003, x194004, x194005 => if x6 = (-1) then (some x5) else ((limelightref07_stop.f k x0 x6 x194000 x194001 x194002 x194003 x194004 x194005).bind fun bt194 => (if bt194.2.1 = bt194.2.2 then (if x194001 = x194002 then (if x5.length < 5864062014805 then ((limelightref07_Parent.f k x0 x6 x194000 x194001 x194002 x194003 x194004 x194005).bind fun t201 => (limelightref07_Path.l0 k x0 (x5 ++ [(⟨bt194.1, bt194.2.1, bt194.2.2⟩ : S35)]) t201 x194000 x194001 x194002 x194003 x194004 x194005)) else (none)) else (some x5)) else (if x5.length < 5864062014805 then ((limelightref07_Parent.f k x0 x6 x194000 x194001 x194002 x194003 x194004 x194005).bind fun t205 => (limelightref07_Path.l0 k x0 (x5 ++ [(⟨bt194.1, bt194.2.1, bt194.2.2⟩ : S35)]) t205 x194000 x194001 x194002 x194003 x194004 x194005)) else (none))))
def limelightref07_Path.f (k : Nat) (l0 : List (S53)) (a1_0 : Int) (a1_1 : Int) (a1_2 : Int) (a1_3 : Bool) (a1_4 : Bool) (a1_5 : Bool) : Option ((List (S35))) := limelightref07_Path.l0 k l0 ([] : List (S35)) a1_1 a1_0 a1_1 a1_2 a1_3 a1_4 a1_5
theorem limelightref07_Path.mono_l : ∀ k, (∀ y0 y1 y2 y3 y4 y5 y6 y7 y8, LeO (limelightref07_Path.l0 k y0 y1 y2 y3 y4 y5 y6 y7 y8) (limelightref07_Path.l0 (k + 1) y0 y1 y2 y3 y4 y5 y6 y7 y8))
 | 0 => fun _ _ _ _ _ _ _ _ _ r h => by simp [limelightref07_Path.l0] at h
 | k + 1 => by
  have ih0 := limelightref07_Path.mono_l k
  ·intro y0 y1 y2 y3 y4 y5 y6 y7 y8
   unfold limelightref07_Path.l0
   repeat' first
   | (with_reducible exact ih0 _ _ _ _ _ _ _ _ _)
   | (with_reducible exact limelightref07_Parent.mono _ _ _ _ _ _ _ _ _)
   | (with_reducible exact limelightref07_stop.mono _ _ _ _ _ _ _ _ _)
   | (with_reducible exact LeO.refl _)
   | (with_reducible exact LeO.none _)
   | (with_reducible refine LeO.ite ?_ ?_)
   | (with_reducible refine LeO.bind ?_ (fun _ => ?_))
   | exact ih0 _ _ _ _ _ _ _ _ _
   | exact limelightref07_Parent.mono _ _ _ _ _ _ _ _ _
   | exact limelightref07_stop.mono _ _ _ _ _ _ _ _ _
   | exact LeO.none _
   | refine LeO.ite ?_ ?_
   | refine LeO.bind ?_ (fun _ => ?_)
theorem limelightref07_Path.mono : ∀ a0 a1 a2 a3 a4 a5 a6 k, LeO (limelightref07_Path.f k a0 a1 a2 a3 a4 a5 a6) (limelightref07_Path.f (k + 1) a0 a1 a2 a3 a4 a5 a6) := by
 intro a0 a1 a2 a3 a4 a5 a6 k
 have ih0 := limelightref07_Path.mono_l k
 unfold limelightref07_Path.f
 repeat' first
   | (with_reducible exact ih0 _ _ _ _ _ _ _ _ _)
   | (with_reducible exact limelightref07_Parent.mono _ _ _ _ _ _ _ _ _)
   | (with_reducible exact limelightref07_stop.mono _ _ _ _ _ _ _ _ _)
   | (with_reducible exact LeO.refl _)
   | (with_reducible exact LeO.none _)
   | (with_reducible refine LeO.ite ?_ ?_)
   | (with_reducible refine LeO.bind ?_ (fun _ => ?_))
   | exact ih0 _ _ _ _ _ _ _ _ _
   | exact limelightref07_Parent.mono _ _ _ _ _ _ _ _ _
   | exact limelightref07_stop.mono _ _ _ _ _ _ _ _ _
   | exact LeO.none _
   | refine LeO.ite ?_ ?_
   | refine LeO.bind ?_ (fun _ => ?_)
set_option maxHeartbeats 8000000 in
set_option maxRecDepth 100000 in
theorem limelightref07_Path.calls (k : Nat) (A0 : Option Addr) (c0 : Nat) (l0 : List (S53)) (a1_0 : Int) (a1_1 : Int) (a1_2 : Int) (a1_3 : Bool) (a1_4 : Bool) (a1_5 : Bool) (r : List (S35)) (w : World) (hr0 : Kd.C k53 w A0 l0.length l0) (hc0 : l0.length ≤ c0) (h : limelightref07_Path.f k l0 a1_0 a1_1 a1_2 a1_3 a1_4 a1_5 = some r) :
  Calls Try.prog 13 #[.slice A0 l0.length c0, .agg #[.int .i64 a1_0, .int .i64 a1_1, .int .i64 a1_2, .bool a1_3, .bool a1_4, .bool a1_5]] w fun e w' => ∃ v0_ : Value, e = .returned (v0_) ∧ Kd.R k35 35 w' w.heap.size (fun _ => True) v0_ r ∧ Below w.heap.size w w' := by
 have hu25 := Try.underlying25
 have hu35 := Try.underlying35
 have HR0 := Aside0.mk hr0
 have HC0 := Aside0.mk hc0
 clear hr0 hc0
 have HB := Aside0.mk (Below.refl w.heap.size w)
 have H : (limelightref07_Path.l0 k l0 ([] : List (S35)) a1_1 a1_0 a1_1 a1_2 a1_3 a1_4 a1_5) = some r := h
 clear h
 have H' := Aside0.mk H
 clear H
 go_enter Try.func13, Try.ntmps13
 go_wp2_with (first | ((with_reducible refine gate_dst (N := 3) rfl ?_); refine box_event ?hg (N := 3) ?hd (cs := #[.int .i64 a1_0, .int .i64 a1_1, .int .i64 a1_2, .bool a1_3, .bool a1_4, .bool a1_5]) (t := 25) ?hr ?_; (case hd => rfl); (case hg => rfl); (case hr => first | (go_simp; done) | (go_simp; rfl)); intro gb193 hg w3 hbox hb; have n0_ := Aside0.mk (below_step bel_ hb); have n1_ := Aside0.mk (hbox); have n2_ := Aside0.mk ((by rw [hg]; exact (below_size bel_) : w.heap.size ≤ gb193)); have n3_ := Aside0.mk ((by rw [hg]; exact (below_size bel_) : w.heap.size ≤ gb193)); clear HB; have HB := n0_; have BK193 := n1_; have GW193 := n2_; have GE193 := n3_; clear n0_ n1_ n2_ n3_; clear hb hbox hg; have hcz4_0 : w3.cell? ⟨gb193, 0, none⟩ = some (.int .i64 a1_0) := (blk_cell BK193.out 0).trans rfl; have hcz4_1 : w3.cell? ⟨gb193, 1, none⟩ = some (.int .i64 a1_1) := (blk_cell BK193.out 1).trans rfl; have hcz4_2 : w3.cell? ⟨gb193, 2, none⟩ = some (.int .i64 a1_2) := (blk_cell BK193.out 2).trans rfl; have hcz4_3 : w3.cell? ⟨gb193, 3, none⟩ = some (.bool a1_3) := (blk_cell BK193.out 3).trans rfl; have hcz4_4 : w3.cell? ⟨gb193, 4, none⟩ = some (.bool a1_4) := (blk_cell BK193.out 4).trans rfl; have hcz4_5 : w3.cell? ⟨gb193, 5, none⟩ = some (.bool a1_5) := (blk_cell BK193.out 5).trans rfl; have hfz4_0 := blk_frozen BK193.out 0; have hfz4_1 := blk_frozen BK193.out 1; have hfz4_2 := blk_frozen BK193.out 2; have hfz4_3 := blk_frozen BK193.out 3; have hfz4_4 := blk_frozen BK193.out 4; have hfz4_5 := blk_frozen BK193.out 5))
 go_loopg [5, 6] k (fun kq v5 v6 w' => ∃ (x5_1 : List (S35)) (x6_1 : Int), v6 = .int .i64 x6_1 ∧ Aside0 (limelightref07_Path.l0 kq l0 x5_1 x6_1 a1_0 a1_1 a1_2 a1_3 a1_4 a1_5 = some r) ∧ Aside0 (kq ≤ k) ∧ Aside0 (Kd.R k35 35 w' w.heap.size (fun _ => True) v5 x5_1) ∧ Aside0 (w'.heap[gb193]? = some (.cells #[.int .i64 a1_0, .int .i64 a1_1, .int .i64 a1_2, .bool a1_3, .bool a1_4, .bool a1_5] 25 (0, 0))) ∧ Aside0 (Below w.heap.size w w'))
 case atStart => exact ⟨(([] : List (S35))), (a1_1), (by first | rfl | (simp; done) | (simp [*]; done)), H', ⟨Nat.le_refl _⟩, ⟨by first | exact Kd.R_nil _ _ _ _ _ | exact Kd.N_nil _ _ _ _ _ | exact Kd.V_nil _ _ _ _ _ | exact Kd.Q_nil _ _ _ _ _ | exact Kd.S_nil _ _ _ _ _⟩, ⟨blkx_ BK193.out⟩, ⟨belg_ GE193.out⟩⟩
 case round =>
  clear H'
  try clear c1
  try clear p2
  try clear hcz4_0
  try clear hcz4_1
  try clear hcz4_2
  try clear hcz4_3
  try clear hcz4_4
  try clear hcz4_5
  try clear hfz4_0
  try clear hfz4_1
  try clear hfz4_2
  try clear hfz4_3
  try clear hfz4_4
  try clear hfz4_5
  obtain ⟨x5_1, x6_1, rfl, HA, HK1, HO_5, BK193, HB⟩ := hrel
  cases gk with
  | zero => exact absurd HA.out (by simp [limelightref07_Path.l0])
  | succ k1 =>
   have H := HA.out
   clear HA
   simp only [limelightref07_Path.l0] at H
   by_cases c5 : x6_1 = (-1)
   ·rw [if_pos c5] at H
    have c5b0 : (x6_1 == (-1)) = true := beq_iff_eq.mpr c5
    have c5b1 : (x6_1 != (-1)) = false := bne_eq_false_iff_eq.mpr c5
    clear c5
    obtain rfl := Option.some.inj H
    go_wp2
    go_ret
    exact ⟨_, by first | rfl | (simp [errW_none, errW_some] <;> rfl) | (simp [*, errW_none, errW_some] <;> rfl), kra_ HO_5.out, belg_ GE193.out⟩
   ·rw [if_neg c5] at H
    have c5b0 : (x6_1 == (-1)) = false := beq_eq_false_iff_ne.mpr c5
    have c5b1 : (x6_1 != (-1)) = true := bne_iff_ne.mpr c5
    replace H := Option.bind_eq_some_iff.mp H
    obtain ⟨⟨t194, t195, t196⟩, A60, H⟩ := H
    replace H : (if t195 = t196 then (if a1_1 = a1_2 then (if x5_1.length < 5864062014805 then ((limelightref07_Parent.f k1 l0 x6_1 a1_0 a1_1 a1_2 a1_3 a1_4 a1_5).bind fun t201 => (limelightref07_Path.l0 k1 l0 (x5_1 ++ [(⟨t194, t195, t196⟩ : S35)]) t201 a1_0 a1_1 a1_2 a1_3 a1_4 a1_5)) else (none)) else (some x5_1)) else (if x5_1.length < 5864062014805 then ((limelightref07_Parent.f k1 l0 x6_1 a1_0 a1_1 a1_2 a1_3 a1_4 a1_5).bind fun t205 => (limelightref07_Path.l0 k1 l0 (x5_1 ++ [(⟨t194, t195, t196⟩ : S35)]) t205 a1_0 a1_1 a1_2 a1_3 a1_4 a1_5)) else (none))) = some r := H
    have A6 := Aside0.mk A60
    clear A60
    by_cases c7 : t195 = t196
    ·rw [if_pos c7] at H
     have c7b0 : (t195 == t196) = true := beq_iff_eq.mpr c7
     have c7b1 : (t195 != t196) = false := bne_eq_false_iff_eq.mpr c7
     clear c7
     by_cases c8 : a1_1 = a1_2
     ·rw [if_pos c8] at H
      have c8b0 : (a1_1 == a1_2) = true := beq_iff_eq.mpr c8
      have c8b1 : (a1_1 != a1_2) = false := bne_eq_false_iff_eq.mpr c8
      clear c8
      by_cases c9 : x5_1.length < 5864062014805
      ·rw [if_pos c9] at H
       have LMc9 := Aside0.mk c9
       clear c9
       obtain ⟨y198, hy198⟩ : ∃ y_ : List (S35), y_ = (x5_1 ++ [(⟨t194, t195, t196⟩ : S35)]) := ⟨_, rfl⟩
       replace H : ((limelightref07_Parent.f k1 l0 x6_1 a1_0 a1_1 a1_2 a1_3 a1_4 a1_5).bind fun t201 => (limelightref07_Path.l0 k1 l0 y198 t201 a1_0 a1_1 a1_2 a1_3 a1_4 a1_5)) = some r := by first | (rw [hy198]; with_reducible exact H) | (have H2_ := (Option.bind_some _ _).symm.trans H; rw [hy198]; with_reducible exact H2_) | (have H2_ := (Option.bind_some _ _).symm.trans H; with_reducible exact H2_) | with_reducible exact H | (rw [hy198]; exact H) | exact H
       have Ny198 := Aside0.mk hy198
       clear hy198
       replace H := Option.bind_eq_some_iff.mp H
       obtain ⟨t201, A100, H⟩ := H
       replace H : (limelightref07_Path.l0 k1 l0 y198 t201 a1_0 a1_1 a1_2 a1_3 a1_4 a1_5) = some r := H
       have A10 := Aside0.mk A100
       clear A100
       have H' := Aside0.mk H
       clear H
       have hcz11_0 : wr.cell? ⟨gb193, 0, none⟩ = some (.int .i64 a1_0) := (blk_cell BK193.out 0).trans rfl
       have hcz11_1 : wr.cell? ⟨gb193, 1, none⟩ = some (.int .i64 a1_1) := (blk_cell BK193.out 1).trans rfl
       have hcz11_2 : wr.cell? ⟨gb193, 2, none⟩ = some (.int .i64 a1_2) := (blk_cell BK193.out 2).trans rfl
       have hcz11_3 : wr.cell? ⟨gb193, 3, none⟩ = some (.bool a1_3) := (blk_cell BK193.out 3).trans rfl
       have hcz11_4 : wr.cell? ⟨gb193, 4, none⟩ = some (.bool a1_4) := (blk_cell BK193.out 4).trans rfl
       have hcz11_5 : wr.cell? ⟨gb193, 5, none⟩ = some (.bool a1_5) := (blk_cell BK193.out 5).trans rfl
       have hfz11_0 := blk_frozen BK193.out 0
       have hfz11_1 := blk_frozen BK193.out 1
       have hfz11_2 := blk_frozen BK193.out 2
       have hfz11_3 := blk_frozen BK193.out 3
       have hfz11_4 := blk_frozen BK193.out 4
       have hfz11_5 := blk_frozen BK193.out 5
       go_wp2_with (first | ((with_reducible refine gate_callee (f := 28) rfl ?_); refine goesL_ (some 19) rfl rfl Try.func28 (by kernel_rfl) rfl #[.slice A0 l0.length c0, .int .i64 x6_1, .agg #[.int .i64 a1_0, .int .i64 a1_1, .int .i64 a1_2, .bool a1_3, .bool a1_4, .bool a1_5]] rfl margs_ ?_; (with_reducible refine (limelightref07_stop.calls k1 _ _ l0 x6_1 a1_0 a1_1 a1_2 a1_3 a1_4 a1_5 t194 t195 t196 _ ?side1 ?side2 A6.out).mono ?_); (case side1 => exact kcb_ ((Kd.C_below HR0.out HB.out))); (case side2 => exact HC0.out); rintro e w12 ⟨rfl, hb⟩; refine ⟨_, rfl, ?_⟩; have n0_ := Aside0.mk (Kd.R_below (kra_ HO_5.out) hb); have n1_ := Aside0.mk (blk_below (g := gb193) (o := .cells #[.int .i64 a1_0, .int .i64 a1_1, .int .i64 a1_2, .bool a1_3, .bool a1_4, .bool a1_5] 25 (0, 0)) (blkx_ BK193.out) hb); have n2_ := Aside0.mk (below_step (belg_ GE193.out) hb); clear HO_5; clear BK193; clear HB; have HO_5 := n0_; have BK193 := n1_; have HB := n2_; clear n0_ n1_ n2_; (try clear hb); (try clear hb2); (try clear hk); (try clear hi)) | ((with_reducible refine gate_dst (N := 7) rfl ?_); refine box_event ?hg (N := 7) ?hd (cs := #[.int .i64 0, .int .i64 0, .int .i64 0]) (t := 35) ?hr ?_; (case hd => rfl); (case hg => rfl); (case hr => first | (go_simp; done) | (go_simp; rfl)); intro gb197 hg w13 hbox hb; have n0_ := Aside0.mk (Kd.R_below (Kd.R_elderB (kra_ HO_5.out) gb197 (Nat.le_of_eq hg.symm)) hb); have n1_ := Aside0.mk (blk_below (g := gb193) (o := .cells #[.int .i64 a1_0, .int .i64 a1_1, .int .i64 a1_2, .bool a1_3, .bool a1_4, .bool a1_5] 25 (0, 0)) (blkx_ BK193.out) hb); have n2_ := Aside0.mk (below_step (belg_ GE193.out) hb); have n3_ := Aside0.mk (hbox); have n4_ := Aside0.mk ((by rw [hg]; exact (below_size (belg_ GE193.out)) : w.heap.size ≤ gb197)); have n5_ := Aside0.mk ((by rw [hg]; exact (below_size (belg_ GE193.out)) : w.heap.size ≤ gb197)); have n6_ := Aside0.mk ((by rw [hg]; exact Nat.ne_of_lt (blk_lt (g := gb193) (o := .cells #[.int .i64 a1_0, .int .i64 a1_1, .int .i64 a1_2, .bool a1_3, .bool a1_4, .bool a1_5] 25 (0, 0)) (blkx_ BK193.out)) : gb193 ≠ gb197)); have n7_ := Aside0.mk ((by rw [hg]; exact Nat.ne_of_gt (blk_lt (g := gb193) (o := .cells #[.int .i64 a1_0, .int .i64 a1_1, .int .i64 a1_2, .bool a1_3, .bool a1_4, .bool a1_5] 25 (0, 0)) (blkx_ BK193.out)) : gb197 ≠ gb193)); clear HO_5; clear BK193; clear HB; have HO_5 := n0_; have BK193 := n1_; have HB := n2_; have BK197 := n3_; have GW197 := n4_; have GE197 := n5_; have NB193_197 := n6_; have NB197_193 := n7_; clear n0_ n1_ n2_ n3_ n4_ n5_ n6_ n7_; clear hb hbox hg; have hnb14 := NB197_193.out; have hnc14 := NB193_197.out; have hcz15_0 : w13.cell? ⟨gb197, 0, none⟩ = some (.int .i64 0) := (blk_cell BK197.out 0).trans rfl; have hcz15_1 : w13.cell? ⟨gb197, 1, none⟩ = some (.int .i64 0) := (blk_cell BK197.out 1).trans rfl; have hcz15_2 : w13.cell? ⟨gb197, 2, none⟩ = some (.int .i64 0) := (blk_cell BK197.out 2).trans rfl; have hfz15_0 := blk_frozen BK197.out 0; have hfz15_1 := blk_frozen BK197.out 1; have hfz15_2 := blk_frozen BK197.out 2; have hcz16_0 : w13.cell? ⟨gb193, 0, none⟩ = some (.int .i64 a1_0) := (blk_cell BK193.out 0).trans rfl; have hcz16_1 : w13.cell? ⟨gb193, 1, none⟩ = some (.int .i64 a1_1) := (blk_cell BK193.out 1).trans rfl; have hcz16_2 : w13.cell? ⟨gb193, 2, none⟩ = some (.int .i64 a1_2) := (blk_cell BK193.out 2).trans rfl; have hcz16_3 : w13.cell? ⟨gb193, 3, none⟩ = some (.bool a1_3) := (blk_cell BK193.out 3).trans rfl; have hcz16_4 : w13.cell? ⟨gb193, 4, none⟩ = some (.bool a1_4) := (blk_cell BK193.out 4).trans rfl; have hcz16_5 : w13.cell? ⟨gb193, 5, none⟩ = some (.bool a1_5) := (blk_cell BK193.out 5).trans rfl; have hfz16_0 := blk_frozen BK193.out 0; have hfz16_1 := blk_frozen BK193.out 1; have hfz16_2 := blk_frozen BK193.out 2; have hfz16_3 := blk_frozen BK193.out 3; have hfz16_4 := blk_frozen BK193.out 4; have hfz16_5 := blk_frozen BK193.out 5) | ((with_reducible refine gate_builtin (b := .append) (xs := #[.tmp 33, .tmp 35]) rfl ?_); at_builtin; refine Kd.R_append k35 (w0 := w) w.heap.size rfl (.tmp 33) (.tmp 35) 32 35 (.agg #[(.int .i64 0), (.int .i64 0), (.int .i64 0)]) 24 rfl Try.underlying32 info35 rfl (by decide) (by omega) u5 x5_1 (⟨t194, t195, t196⟩ : S35) [.int .i64 t194, .int .i64 t195, .int .i64 t196] (fun k_ => k_ ≠ gb197) (fun _ => False) rfl (by first | (go_simp; done) | (go_simp; rfl)) ?aP (fun _ hk => hk.elim) ?aF ?aO ?aB ?aS ?aL ?_; (case aP => exact k35_mkM _ _ _ (⟨t194, t195, t196⟩ : S35)); (case aB => exact (by repeat (first | (with_reducible first | exact HB.out | apply below_alloc | apply pw_below_drewN | apply below_drew1 | refine below_set ?_ GE193.out | refine below_set ?_ GE197.out) | exact HB.out))); (case aF => exact (fun k_ hk => Kd.freshB (g := gb197) (o := .cells #[.int .i64 t194, .int .i64 t195, .int .i64 t196] 35 (0, 0)) (by (with_reducible repeat (first | refine blk_drewN ?_ _ | refine blk_drew ?_ | refine blk_alloc ?_ _)); refine blk_put (cs := #[.int .i64 t194, .int .i64 t195, .int .i64 0]) ?_ 2 _ rfl; (with_reducible repeat (first | refine blk_drewN ?_ _ | refine blk_drew ?_ | refine blk_alloc ?_ _)); refine blk_put (cs := #[.int .i64 t194, .int .i64 0, .int .i64 0]) ?_ 1 _ rfl; (with_reducible repeat (first | refine blk_drewN ?_ _ | refine blk_drew ?_ | refine blk_alloc ?_ _)); refine blk_put (cs := #[.int .i64 0, .int .i64 0, .int .i64 0]) ?_ 0 _ rfl; (with_reducible repeat (first | refine blk_drewN ?_ _ | refine blk_drew ?_ | refine blk_alloc ?_ _)); exact BK197.out) k_ hk)); (case aO => exact (by (with_reducible repeat (first | apply Kd.R_alloc | apply Kd.R_drewN | apply Kd.R_drew)); exact Kd.R_mono (Kd.R_far (p := ⟨gb197, 2, none⟩) (Kd.R_far (p := ⟨gb197, 1, none⟩) (Kd.R_far (p := ⟨gb197, 0, none⟩) (Kd.R_mono HO_5.out (fun k_ hk => (⟨hk, hk.2⟩ : _ ∧ k_ ≠ gb197))) (fun _ hk => hk.2) (.int .i64 t194)) (fun _ hk => hk.2) (.int .i64 t195)) (fun _ hk => hk.2) (.int .i64 t196)) (fun _ hk => hk.1.2))); (case aS => exact (below_size (by repeat (first | (with_reducible first | exact HB.out | apply below_alloc | apply pw_below_drewN | apply below_drew1 | refine below_set ?_ GE193.out | refine below_set ?_ GE197.out) | exact HB.out)))); (case aL => have := LMc9.out; omega); intro v199 w17 ho hb hg hat; rw [← Ny198.out] at ho; have n0_ := Aside0.mk (blk_grown (g := gb193) (o := .cells #[.int .i64 a1_0, .int .i64 a1_1, .int .i64 a1_2, .bool a1_3, .bool a1_4, .bool a1_5] 25 (0, 0)) (by (with_reducible repeat (first | refine blk_drewN ?_ _ | refine blk_drew ?_ | refine blk_alloc ?_ _)); refine blk_far ?_ NB193_197.out _; (with_reducible repeat (first | refine blk_drewN ?_ _ | refine blk_drew ?_ | refine blk_alloc ?_ _)); refine blk_far ?_ NB193_197.out _; (with_reducible repeat (first | refine blk_drewN ?_ _ | refine blk_drew ?_ | refine blk_alloc ?_ _)); refine blk_far ?_ NB193_197.out _; (with_reducible repeat (first | refine blk_drewN ?_ _ | refine blk_drew ?_ | refine blk_alloc ?_ _)); exact BK193.out) hg (Kd.R_ne HO_5.out BK193.out (by decide))); have n1_ := Aside0.mk (blk_grown (g := gb197) (o := .cells #[.int .i64 t194, .int .i64 t195, .int .i64 t196] 35 (0, 0)) (by (with_reducible repeat (first | refine blk_drewN ?_ _ | refine blk_drew ?_ | refine blk_alloc ?_ _)); refine blk_put (cs := #[.int .i64 t194, .int .i64 t195, .int .i64 0]) ?_ 2 _ rfl; (with_reducible repeat (first | refine blk_drewN ?_ _ | refine blk_drew ?_ | refine blk_alloc ?_ _)); refine blk_put (cs := #[.int .i64 t194, .int .i64 0, .int .i64 0]) ?_ 1 _ rfl; (with_reducible repeat (first | refine blk_drewN ?_ _ | refine blk_drew ?_ | refine blk_alloc ?_ _)); refine blk_put (cs := #[.int .i64 0, .int .i64 0, .int .i64 0]) ?_ 0 _ rfl; (with_reducible repeat (first | refine blk_drewN ?_ _ | refine blk_drew ?_ | refine blk_alloc ?_ _)); exact BK197.out) hg (Kd.R_away HO_5.out (fun _ hk => hk.2))); have n2_ := Aside0.mk (hb); have n3_ := Aside0.mk (ho); clear BK193; clear BK197; clear HB; clear HO_5; have BK193 := n0_; have BK197 := n1_; have HB := n2_; have HO200 := n3_; clear n0_ n1_ n2_ n3_; clear ho hb hg hat; have hcz18_0 : w17.cell? ⟨gb193, 0, none⟩ = some (.int .i64 a1_0) := (blk_cell BK193.out 0).trans rfl; have hcz18_1 : w17.cell? ⟨gb193, 1, none⟩ = some (.int .i64 a1_1) := (blk_cell BK193.out 1).trans rfl; have hcz18_2 : w17.cell? ⟨gb193, 2, none⟩ = some (.int .i64 a1_2) := (blk_cell BK193.out 2).trans rfl; have hcz18_3 : w17.cell? ⟨gb193, 3, none⟩ = some (.bool a1_3) := (blk_cell BK193.out 3).trans rfl; have hcz18_4 : w17.cell? ⟨gb193, 4, none⟩ = some (.bool a1_4) := (blk_cell BK193.out 4).trans rfl; have hcz18_5 : w17.cell? ⟨gb193, 5, none⟩ = some (.bool a1_5) := (blk_cell BK193.out 5).trans rfl; have hfz18_0 := blk_frozen BK193.out 0; have hfz18_1 := blk_frozen BK193.out 1; have hfz18_2 := blk_frozen BK193.out 2; have hfz18_3 := blk_frozen BK193.out 3; have hfz18_4 := blk_frozen BK193.out 4; have hfz18_5 := blk_frozen BK193.out 5) | ((with_reducible refine gate_callee (f := 15) rfl ?_); refine goesL_ (some 15) rfl rfl Try.func15 (by kernel_rfl) rfl #[.slice A0 l0.length c0, .int .i64 x6_1, .agg #[.int .i64 a1_0, .int .i64 a1_1, .int .i64 a1_2, .bool a1_3, .bool a1_4, .bool a1_5]] rfl margs_ ?_; (with_reducible refine (limelightref07_Parent.calls k1 _ _ l0 x6_1 a1_0 a1_1 a1_2 a1_3 a1_4 a1_5 t201 _ ?side1 ?side2 A10.out).mono ?_); (case side1 => exact kcb_ ((Kd.C_below HR0.out HB.out))); (case side2 => exact HC0.out); rintro e w19 ⟨rfl, hb⟩; refine ⟨_, rfl, ?_⟩; have n0_ := Aside0.mk (Kd.R_below (kra_ HO200.out) hb); have n1_ := Aside0.mk (blk_below (g := gb193) (o := .cells #[.int .i64 a1_0, .int .i64 a1_1, .int .i64 a1_2, .bool a1_3, .bool a1_4, .bool a1_5] 25 (0, 0)) (blkx_ BK193.out) hb); have n2_ := Aside0.mk (blk_below (g := gb197) (o := .cells #[.int .i64 t194, .int .i64 t195, .int .i64 t196] 35 (0, 0)) (blkx_ BK197.out) hb); have n3_ := Aside0.mk (below_step (by repeat (first | (with_reducible first | exact HB.out | apply below_alloc | apply pw_below_drewN | apply below_drew1 | refine below_set ?_ GE193.out | refine below_set ?_ GE197.out) | exact HB.out)) hb); clear HO200; clear BK193; clear BK197; clear HB; have HO200 := n0_; have BK193 := n1_; have BK197 := n2_; have HB := n3_; clear n0_ n1_ n2_ n3_; (try clear hb); (try clear hb2); (try clear hk); (try clear hi)))
       go_roundg k1
       case measure => have := HK1.out; omega
       case rel => exact ⟨(y198), (t201), (by first | rfl | (simp; done) | (simp [*]; done)), H', ⟨by have := HK1.out; omega⟩, ⟨by (with_reducible repeat (first | apply Kd.R_alloc | apply Kd.R_drewN | apply Kd.R_drew)); exact Kd.R_mono HO200.out (fun _ hk => trivial)⟩, ⟨blkx_ BK193.out⟩, ⟨by repeat (first | (with_reducible first | exact HB.out | apply below_alloc | apply pw_below_drewN | apply below_drew1 | refine below_set ?_ GE193.out | refine below_set ?_ GE197.out) | exact HB.out)⟩⟩
      ·rw [if_neg c9] at H
       exact absurd H (by simp)
     ·rw [if_neg c8] at H
      have c8b0 : (a1_1 == a1_2) = false := beq_eq_false_iff_ne.mpr c8
      have c8b1 : (a1_1 != a1_2) = true := bne_iff_ne.mpr c8
      obtain rfl := Option.some.inj H
      have hcz20_0 : wr.cell? ⟨gb193, 0, none⟩ = some (.int .i64 a1_0) := (blk_cell BK193.out 0).trans rfl
      have hcz20_1 : wr.cell? ⟨gb193, 1, none⟩ = some (.int .i64 a1_1) := (blk_cell BK193.out 1).trans rfl
      have hcz20_2 : wr.cell? ⟨gb193, 2, none⟩ = some (.int .i64 a1_2) := (blk_cell BK193.out 2).trans rfl
      have hcz20_3 : wr.cell? ⟨gb193, 3, none⟩ = some (.bool a1_3) := (blk_cell BK193.out 3).trans rfl
      have hcz20_4 : wr.cell? ⟨gb193, 4, none⟩ = some (.bool a1_4) := (blk_cell BK193.out 4).trans rfl
      have hcz20_5 : wr.cell? ⟨gb193, 5, none⟩ = some (.bool a1_5) := (blk_cell BK193.out 5).trans rfl
      have hfz20_0 := blk_frozen BK193.out 0
      have hfz20_1 := blk_frozen BK193.out 1
      have hfz20_2 := blk_frozen BK193.out 2
      have hfz20_3 := blk_frozen BK193.out 3
      have hfz20_4 := blk_frozen BK193.out 4
      have hfz20_5 := blk_frozen BK193.out 5
      go_wp2_with (first | ((with_reducible refine gate_callee (f := 28) rfl ?_); refine goesL_ (some 19) rfl rfl Try.func28 (by kernel_rfl) rfl #[.slice A0 l0.length c0, .int .i64 x6_1, .agg #[.int .i64 a1_0, .int .i64 a1_1, .int .i64 a1_2, .bool a1_3, .bool a1_4, .bool a1_5]] rfl margs_ ?_; (with_reducible refine (limelightref07_stop.calls k1 _ _ l0 x6_1 a1_0 a1_1 a1_2 a1_3 a1_4 a1_5 t194 t195 t196 _ ?side1 ?side2 A6.out).mono ?_); (case side1 => exact kcb_ ((Kd.C_below HR0.out HB.out))); (case side2 => exact HC0.out); rintro e w21 ⟨rfl, hb⟩; refine ⟨_, rfl, ?_⟩; have n0_ := Aside0.mk (Kd.R_below (kra_ HO_5.out) hb); have n1_ := Aside0.mk (blk_below (g := gb193) (o := .cells #[.int .i64 a1_0, .int .i64 a1_1, .int .i64 a1_2, .bool a1_3, .bool a1_4, .bool a1_5] 25 (0, 0)) (blkx_ BK193.out) hb); have n2_ := Aside0.mk (below_step (belg_ GE193.out) hb); clear HO_5; clear BK193; clear HB; have HO_5 := n0_; have BK193 := n1_; have HB := n2_; clear n0_ n1_ n2_; (try clear hb); (try clear hb2); (try clear hk); (try clear hi)) | ((with_reducible refine gate_dst (N := 7) rfl ?_); refine box_event ?hg (N := 7) ?hd (cs := #[.int .i64 0, .int .i64 0, .int .i64 0]) (t := 35) ?hr ?_; (case hd => rfl); (case hg => rfl); (case hr => first | (go_simp; done) | (go_simp; rfl)); intro gb197 hg w22 hbox hb; have n0_ := Aside0.mk (Kd.R_below (Kd.R_elderB (kra_ HO_5.out) gb197 (Nat.le_of_eq hg.symm)) hb); have n1_ := Aside0.mk (blk_below (g := gb193) (o := .cells #[.int .i64 a1_0, .int .i64 a1_1, .int .i64 a1_2, .bool a1_3, .bool a1_4, .bool a1_5] 25 (0, 0)) (blkx_ BK193.out) hb); have n2_ := Aside0.mk (below_step (belg_ GE193.out) hb); have n3_ := Aside0.mk (hbox); have n4_ := Aside0.mk ((by rw [hg]; exact (below_size (belg_ GE193.out)) : w.heap.size ≤ gb197)); have n5_ := Aside0.mk ((by rw [hg]; exact (below_size (belg_ GE193.out)) : w.heap.size ≤ gb197)); have n6_ := Aside0.mk ((by rw [hg]; exact Nat.ne_of_lt (blk_lt (g := gb193) (o := .cells #[.int .i64 a1_0, .int .i64 a1_1, .int .i64 a1_2, .bool a1_3, .bool a1_4, .bool a1_5] 25 (0, 0)) (blkx_ BK193.out)) : gb193 ≠ gb197)); have n7_ := Aside0.mk ((by rw [hg]; exact Nat.ne_of_gt (blk_lt (g := gb193) (o := .cells #[.int .i64 a1_0, .int .i64 a1_1, .int .i64 a1_2, .bool a1_3, .bool a1_4, .bool a1_5] 25 (0, 0)) (blkx_ BK193.out)) : gb197 ≠ gb193)); clear HO_5; clear BK193; clear HB; have HO_5 := n0_; have BK193 := n1_; have HB := n2_; have BK197 := n3_; have GW197 := n4_; have GE197 := n5_; have NB193_197 := n6_; have NB197_193 := n7_; clear n0_ n1_ n2_ n3_ n4_ n5_ n6_ n7_; clear hb hbox hg; have hnb23 := NB197_193.out; have hnc23 := NB193_197.out; have hcz24_0 : w22.cell? ⟨gb197, 0, none⟩ = some (.int .i64 0) := (blk_cell BK197.out 0).trans rfl; have hcz24_1 : w22.cell? ⟨gb197, 1, none⟩ = some (.int .i64 0) := (blk_cell BK197.out 1).trans rfl; have hcz24_2 : w22.cell? ⟨gb197, 2, none⟩ = some (.int .i64 0) := (blk_cell BK197.out 2).trans rfl; have hfz24_0 := blk_frozen BK197.out 0; have hfz24_1 := blk_frozen BK197.out 1; have hfz24_2 := blk_frozen BK197.out 2; have hcz25_0 : w22.cell? ⟨gb193, 0, none⟩ = some (.int .i64 a1_0) := (blk_cell BK193.out 0).trans rfl; have hcz25_1 : w22.cell? ⟨gb193, 1, none⟩ = some (.int .i64 a1_1) := (blk_cell BK193.out 1).trans rfl; have hcz25_2 : w22.cell? ⟨gb193, 2, none⟩ = some (.int .i64 a1_2) := (blk_cell BK193.out 2).trans rfl; have hcz25_3 : w22.cell? ⟨gb193, 3, none⟩ = some (.bool a1_3) := (blk_cell BK193.out 3).trans rfl; have hcz25_4 : w22.cell? ⟨gb193, 4, none⟩ = some (.bool a1_4) := (blk_cell BK193.out 4).trans rfl; have hcz25_5 : w22.cell? ⟨gb193, 5, none⟩ = some (.bool a1_5) := (blk_cell BK193.out 5).trans rfl; have hfz25_0 := blk_frozen BK193.out 0; have hfz25_1 := blk_frozen BK193.out 1; have hfz25_2 := blk_frozen BK193.out 2; have hfz25_3 := blk_frozen BK193.out 3; have hfz25_4 := blk_frozen BK193.out 4; have hfz25_5 := blk_frozen BK193.out 5))
      go_ret
      exact ⟨_, by first | rfl | (simp [errW_none, errW_some] <;> rfl) | (simp [*, errW_none, errW_some] <;> rfl), by (with_reducible repeat (first | apply Kd.R_alloc | apply Kd.R_drewN | apply Kd.R_drew)); exact Kd.R_mono (Kd.R_far (p := ⟨gb197, 2, none⟩) (Kd.R_far (p := ⟨gb197, 1, none⟩) (Kd.R_far (p := ⟨gb197, 0, none⟩) (Kd.R_mono HO_5.out (fun k_ hk => (⟨hk, hk.2⟩ : _ ∧ k_ ≠ gb197))) (fun _ hk => hk.2) (.int .i64 t194)) (fun _ hk => hk.2) (.int .i64 t195)) (fun _ hk => hk.2) (.int .i64 t196)) (fun _ hk => trivial), by repeat (first | (with_reducible first | exact HB.out | apply below_alloc | apply pw_below_drewN | apply below_drew1 | refine below_set ?_ GE193.out | refine below_set ?_ GE197.out) | exact HB.out)⟩
    ·rw [if_neg c7] at H
     have c7b0 : (t195 == t196) = false := beq_eq_false_iff_ne.mpr c7
     have c7b1 : (t195 != t196) = true := bne_iff_ne.mpr c7
     by_cases c26 : x5_1.length < 5864062014805
     ·rw [if_pos c26] at H
      have LMc26 := Aside0.mk c26
      clear c26
      obtain ⟨y202, hy202⟩ : ∃ y_ : List (S35), y_ = (x5_1 ++ [(⟨t194, t195, t196⟩ : S35)]) := ⟨_, rfl⟩
      replace H : ((limelightref07_Parent.f k1 l0 x6_1 a1_0 a1_1 a1_2 a1_3 a1_4 a1_5).bind fun t205 => (limelightref07_Path.l0 k1 l0 y202 t205 a1_0 a1_1 a1_2 a1_3 a1_4 a1_5)) = some r := by first | (rw [hy202]; with_reducible exact H) | (have H2_ := (Option.bind_some _ _).symm.trans H; rw [hy202]; with_reducible exact H2_) | (have H2_ := (Option.bind_some _ _).symm.trans H; with_reducible exact H2_) | with_reducible exact H | (rw [hy202]; exact H) | exact H
      have Ny202 := Aside0.mk hy202
      clear hy202
      replace H := Option.bind_eq_some_iff.mp H
      obtain ⟨t205, A270, H⟩ := H
      replace H : (limelightref07_Path.l0 k1 l0 y202 t205 a1_0 a1_1 a1_2 a1_3 a1_4 a1_5) = some r := H
      have A27 := Aside0.mk A270
      clear A270
      have H' := Aside0.mk H
      clear H
      have hcz28_0 : wr.cell? ⟨gb193, 0, none⟩ = some (.int .i64 a1_0) := (blk_cell BK193.out 0).trans rfl
      have hcz28_1 : wr.cell? ⟨gb193, 1, none⟩ = some (.int .i64 a1_1) := (blk_cell BK193.out 1).trans rfl
      have hcz28_2 : wr.cell? ⟨gb193, 2, none⟩ = some (.int .i64 a1_2) := (blk_cell BK193.out 2).trans rfl
      have hcz28_3 : wr.cell? ⟨gb193, 3, none⟩ = some (.bool a1_3) := (blk_cell BK193.out 3).trans rfl
      have hcz28_4 : wr.cell? ⟨gb193, 4, none⟩ = some (.bool a1_4) := (blk_cell BK193.out 4).trans rfl
      have hcz28_5 : wr.cell? ⟨gb193, 5, none⟩ = some (.bool a1_5) := (blk_cell BK193.out 5).trans rfl
      have hfz28_0 := blk_frozen BK193.out 0
      have hfz28_1 := blk_frozen BK193.out 1
      have hfz28_2 := blk_frozen BK193.out 2
      have hfz28_3 := blk_frozen BK193.out 3
      have hfz28_4 := blk_frozen BK193.out 4
      have hfz28_5 := blk_frozen BK193.out 5
      go_wp2_with (first | ((with_reducible refine gate_callee (f := 28) rfl ?_); refine goesL_ (some 19) rfl rfl Try.func28 (by kernel_rfl) rfl #[.slice A0 l0.length c0, .int .i64 x6_1, .agg #[.int .i64 a1_0, .int .i64 a1_1, .int .i64 a1_2, .bool a1_3, .bool a1_4, .bool a1_5]] rfl margs_ ?_; (with_reducible refine (limelightref07_stop.calls k1 _ _ l0 x6_1 a1_0 a1_1 a1_2 a1_3 a1_4 a1_5 t194 t195 t196 _ ?side1 ?side2 A6.out).mono ?_); (case side1 => exact kcb_ ((Kd.C_below HR0.out HB.out))); (case side2 => exact HC0.out); rintro e w29 ⟨rfl, hb⟩; refine ⟨_, rfl, ?_⟩; have n0_ := Aside0.mk (Kd.R_below (kra_ HO_5.out) hb); have n1_ := Aside0.mk (blk_below (g := gb193) (o := .cells #[.int .i64 a1_0, .int .i64 a1_1, .int .i64 a1_2, .bool a1_3, .bool a1_4, .bool a1_5] 25 (0, 0)) (blkx_ BK193.out) hb); have n2_ := Aside0.mk (below_step (belg_ GE193.out) hb); clear HO_5; clear BK193; clear HB; have HO_5 := n0_; have BK193 := n1_; have HB := n2_; clear n0_ n1_ n2_; (try clear hb); (try clear hb2); (try clear hk); (try clear hi)) | ((with_reducible refine gate_dst (N := 7) rfl ?_); refine box_event ?hg (N := 7) ?hd (cs := #[.int .i64 0, .int .i64 0, .int .i64 0]) (t := 35) ?hr ?_; (case hd => rfl); (case hg => rfl); (case hr => first | (go_simp; done) | (go_simp; rfl)); intro gb197 hg w30 hbox hb; have n0_ := Aside0.mk (Kd.R_below (Kd.R_elderB (kra_ HO_5.out) gb197 (Nat.le_of_eq hg.symm)) hb); have n1_ := Aside0.mk (blk_below (g := gb193) (o := .cells #[.int .i64 a1_0, .int .i64 a1_1, .int .i64 a1_2, .bool a1_3, .bool a1_4, .bool a1_5] 25 (0, 0)) (blkx_ BK193.out) hb); have n2_ := Aside0.mk (below_step (belg_ GE193.out) hb); have n3_ := Aside0.mk (hbox); have n4_ := Aside0.mk ((by rw [hg]; exact (below_size (belg_ GE193.out)) : w.heap.size ≤ gb197)); have n5_ := Aside0.mk ((by rw [hg]; exact (below_size (belg_ GE193.out)) : w.heap.size ≤ gb197)); have n6_ := Aside0.mk ((by rw [hg]; exact Nat.ne_of_lt (blk_lt (g := gb193) (o := .cells #[.int .i64 a1_0, .int .i64 a1_1, .int .i64 a1_2, .bool a1_3, .bool a1_4, .bool a1_5] 25 (0, 0)) (blkx_ BK193.out)) : gb193 ≠ gb197)); have n7_ := Aside0.mk ((by rw [hg]; exact Nat.ne_of_gt (blk_lt (g := gb193) (o := .cells #[.int .i64 a1_0, .int .i64 a1_1, .int .i64 a1_2, .bool a1_3, .bool a1_4, .bool a1_5] 25 (0, 0)) (blkx_ BK193.out)) : gb197 ≠ gb193)); clear HO_5; clear BK193; clear HB; have HO_5 := n0_; have BK193 := n1_; have HB := n2_; have BK197 := n3_; have GW197 := n4_; have GE197 := n5_; have NB193_197 := n6_; have NB197_193 := n7_; clear n0_ n1_ n2_ n3_ n4_ n5_ n6_ n7_; clear hb hbox hg; have hnb31 := NB197_193.out; have hnc31 := NB193_197.out; have hcz32_0 : w30.cell? ⟨gb197, 0, none⟩ = some (.int .i64 0) := (blk_cell BK197.out 0).trans rfl; have hcz32_1 : w30.cell? ⟨gb197, 1, none⟩ = some (.int .i64 0) := (blk_cell BK197.out 1).trans rfl; have hcz32_2 : w30.cell? ⟨gb197, 2, none⟩ = some (.int .i64 0) := (blk_cell BK197.out 2).trans rfl; have hfz32_0 := blk_frozen BK197.out 0; have hfz32_1 := blk_frozen BK197.out 1; have hfz32_2 := blk_frozen BK197.out 2) | ((with_reducible refine gate_builtin (b := .append) (xs := #[.tmp 33, .tmp 35]) rfl ?_); at_builtin; refine Kd.R_append k35 (w0 := w) w.heap.size rfl (.tmp 33) (.tmp 35) 32 35 (.agg #[(.int .i64 0), (.int .i64 0), (.int .i64 0)]) 24 rfl Try.underlying32 info35 rfl (by decide) (by omega) u5 x5_1 (⟨t194, t195, t196⟩ : S35) [.int .i64 t194, .int .i64 t195, .int .i64 t196] (fun k_ => k_ ≠ gb197) (fun _ => False) rfl (by first | (go_simp; done) | (go_simp; rfl)) ?aP (fun _ hk => hk.elim) ?aF ?aO ?aB ?aS ?aL ?_; (case aP => exact k35_mkM _ _ _ (⟨t194, t195, t196⟩ : S35)); (case aB => exact (by repeat (first | (with_reducible first | exact HB.out | apply below_alloc | apply pw_below_drewN | apply below_drew1 | refine below_set ?_ GE193.out | refine below_set ?_ GE197.out) | exact HB.out))); (case aF => exact (fun k_ hk => Kd.freshB (g := gb197) (o := .cells #[.int .i64 t194, .int .i64 t195, .int .i64 t196] 35 (0, 0)) (by (with_reducible repeat (first | refine blk_drewN ?_ _ | refine blk_drew ?_ | refine blk_alloc ?_ _)); refine blk_put (cs := #[.int .i64 t194, .int .i64 t195, .int .i64 0]) ?_ 2 _ rfl; (with_reducible repeat (first | refine blk_drewN ?_ _ | refine blk_drew ?_ | refine blk_alloc ?_ _)); refine blk_put (cs := #[.int .i64 t194, .int .i64 0, .int .i64 0]) ?_ 1 _ rfl; (with_reducible repeat (first | refine blk_drewN ?_ _ | refine blk_drew ?_ | refine blk_alloc ?_ _)); refine blk_put (cs := #[.int .i64 0, .int .i64 0, .int .i64 0]) ?_ 0 _ rfl; (with_reducible repeat (first | refine blk_drewN ?_ _ | refine blk_drew ?_ | refine blk_alloc ?_ _)); exact BK197.out) k_ hk)); (case aO => exact (by (with_reducible repeat (first | apply Kd.R_alloc | apply Kd.R_drewN | apply Kd.R_drew)); exact Kd.R_mono (Kd.R_far (p := ⟨gb197, 2, none⟩) (Kd.R_far (p := ⟨gb197, 1, none⟩) (Kd.R_far (p := ⟨gb197, 0, none⟩) (Kd.R_mono HO_5.out (fun k_ hk => (⟨hk, hk.2⟩ : _ ∧ k_ ≠ gb197))) (fun _ hk => hk.2) (.int .i64 t194)) (fun _ hk => hk.2) (.int .i64 t195)) (fun _ hk => hk.2) (.int .i64 t196)) (fun _ hk => hk.1.2))); (case aS => exact (below_size (by repeat (first | (with_reducible first | exact HB.out | apply below_alloc | apply pw_below_drewN | apply below_drew1 | refine below_set ?_ GE193.out | refine below_set ?_ GE197.out) | exact HB.out)))); (case aL => have := LMc26.out; omega); intro v203 w33 ho hb hg hat; rw [← Ny202.out] at ho; have n0_ := Aside0.mk (blk_grown (g := gb193) (o := .cells #[.int .i64 a1_0, .int .i64 a1_1, .int .i64 a1_2, .bool a1_3, .bool a1_4, .bool a1_5] 25 (0, 0)) (by (with_reducible repeat (first | refine blk_drewN ?_ _ | refine blk_drew ?_ | refine blk_alloc ?_ _)); refine blk_far ?_ NB193_197.out _; (with_reducible repeat (first | refine blk_drewN ?_ _ | refine blk_drew ?_ | refine blk_alloc ?_ _)); refine blk_far ?_ NB193_197.out _; (with_reducible repeat (first | refine blk_drewN ?_ _ | refine blk_drew ?_ | refine blk_alloc ?_ _)); refine blk_far ?_ NB193_197.out _; (with_reducible repeat (first | refine blk_drewN ?_ _ | refine blk_drew ?_ | refine blk_alloc ?_ _)); exact BK193.out) hg (Kd.R_ne HO_5.out BK193.out (by decide))); have n1_ := Aside0.mk (blk_grown (g := gb197) (o := .cells #[.int .i64 t194, .int .i64 t195, .int .i64 t196] 35 (0, 0)) (by (with_reducible repeat (first | refine blk_drewN ?_ _ | refine blk_drew ?_ | refine blk_alloc ?_ _)); refine blk_put (cs := #[.int .i64 t194, .int .i64 t195, .int .i64 0]) ?_ 2 _ rfl; (with_reducible repeat (first | refine blk_drewN ?_ _ | refine blk_drew ?_ | refine blk_alloc ?_ _)); refine blk_put (cs := #[.int .i64 t194, .int .i64 0, .int .i64 0]) ?_ 1 _ rfl; (with_reducible repeat (first | refine blk_drewN ?_ _ | refine blk_drew ?_ | refine blk_alloc ?_ _)); refine blk_put (cs := #[.int .i64 0, .int .i64 0, .int .i64 0]) ?_ 0 _ rfl; (with_reducible repeat (first | refine blk_drewN ?_ _ | refine blk_drew ?_ | refine blk_alloc ?_ _)); exact BK197.out) hg (Kd.R_away HO_5.out (fun _ hk => hk.2))); have n2_ := Aside0.mk (hb); have n3_ := Aside0.mk (ho); clear BK193; clear BK197; clear HB; clear HO_5; have BK193 := n0_; have BK197 := n1_; have HB := n2_; have HO204 := n3_; clear n0_ n1_ n2_ n3_; clear ho hb hg hat; have hcz34_0 : w33.cell? ⟨gb193, 0, none⟩ = some (.int .i64 a1_0) := (blk_cell BK193.out 0).trans rfl; have hcz34_1 : w33.cell? ⟨gb193, 1, none⟩ = some (.int .i64 a1_1) := (blk_cell BK193.out 1).trans rfl; have hcz34_2 : w33.cell? ⟨gb193, 2, none⟩ = some (.int .i64 a1_2) := (blk_cell BK193.out 2).trans rfl; have hcz34_3 : w33.cell? ⟨gb193, 3, none⟩ = some (.bool a1_3) := (blk_cell BK193.out 3).trans rfl; have hcz34_4 : w33.cell? ⟨gb193, 4, none⟩ = some (.bool a1_4) := (blk_cell BK193.out 4).trans rfl; have hcz34_5 : w33.cell? ⟨gb193, 5, none⟩ = some (.bool a1_5) := (blk_cell BK193.out 5).trans rfl; have hfz34_0 := blk_frozen BK193.out 0; have hfz34_1 := blk_frozen BK193.out 1; have hfz34_2 := blk_frozen BK193.out 2; have hfz34_3 := blk_frozen BK193.out 3; have hfz34_4 := blk_frozen BK193.out 4; have hfz34_5 := blk_frozen BK193.out 5) | ((with_reducible refine gate_callee (f := 15) rfl ?_); refine goesL_ (some 15) rfl rfl Try.func15 (by kernel_rfl) rfl #[.slice A0 l0.length c0, .int .i64 x6_1, .agg #[.int .i64 a1_0, .int .i64 a1_1, .int .i64 a1_2, .bool a1_3, .bool a1_4, .bool a1_5]] rfl margs_ ?_; (with_reducible refine (limelightref07_Parent.calls k1 _ _ l0 x6_1 a1_0 a1_1 a1_2 a1_3 a1_4 a1_5 t205 _ ?side1 ?side2 A27.out).mono ?_); (case side1 => exact kcb_ ((Kd.C_below HR0.out HB.out))); (case side2 => exact HC0.out); rintro e w35 ⟨rfl, hb⟩; refine ⟨_, rfl, ?_⟩; have n0_ := Aside0.mk (Kd.R_below (kra_ HO204.out) hb); have n1_ := Aside0.mk (blk_below (g := gb193) (o := .cells #[.int .i64 a1_0, .int .i64 a1_1, .int .i64 a1_2, .bool a1_3, .bool a1_4, .bool a1_5] 25 (0, 0)) (blkx_ BK193.out) hb); have n2_ := Aside0.mk (blk_below (g := gb197) (o := .cells #[.int .i64 t194, .int .i64 t195, .int .i64 t196] 35 (0, 0)) (blkx_ BK197.out) hb); have n3_ := Aside0.mk (below_step (by repeat (first | (with_reducible first | exact HB.out | apply below_alloc | apply pw_below_drewN | apply below_drew1 | refine below_set ?_ GE193.out | refine below_set ?_ GE197.out) | exact HB.out)) hb); clear HO204; clear BK193; clear BK197; clear HB; have HO204 := n0_; have BK193 := n1_; have BK197 := n2_; have HB := n3_; clear n0_ n1_ n2_ n3_; (try clear hb); (try clear hb2); (try clear hk); (try clear hi)))
      go_roundg k1
      case measure => have := HK1.out; omega
      case rel => exact ⟨(y202), (t205), (by first | rfl | (simp; done) | (simp [*]; done)), H', ⟨by have := HK1.out; omega⟩, ⟨by (with_reducible repeat (first | apply Kd.R_alloc | apply Kd.R_drewN | apply Kd.R_drew)); exact Kd.R_mono HO204.out (fun _ hk => trivial)⟩, ⟨blkx_ BK193.out⟩, ⟨by repeat (first | (with_reducible first | exact HB.out | apply below_alloc | apply pw_below_drewN | apply below_drew1 | refine below_set ?_ GE193.out | refine below_set ?_ GE197.out) | exact HB.out)⟩⟩
     ·rw [if_neg c26] at H
      exact absurd H (by simp)

end Go.Proofs.Ytbdokcdnajdmaaa.P
