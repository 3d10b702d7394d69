-- printed by wip/tools/pp.sh (a patched copy of the print's program), for this claim.
import Derived.Test.YtbdokcdnajdmaaaPx0
import Derived.Test.YtbdokcdnajdmaaaPx3
import Derived.Test.YtbdokcdnajdmaaaPx4
namespace Go.Proofs.Ytbdokcdnajdmaaa.P
open Go.RowKit Go.Proofs.YtbdokcdnajdmaaaW.PrintWords Go.Proofs.YtbdokcdnajdmaaaW.PrintLast Go.Proofs.YtbdokcdnajdmaaaW.PrintMore
attribute [local go_sem] max2_int min2_int max_two min_two max_three min_three max_four min_four   -- for this text's walks alone
set_option linter.unusedVariables false
set_option linter.unusedSimpArgs false

/-! ### limelightref05_Of: function 29 -/
def limelightref05_Of.l0 : Nat → List (S53) → Int → List Int → Int → Option (Int)
 | 0, _, _, _, _ => none
 | k + 1, x0, x1, x7, x10 => if x10 < (x7.length : Int) then (if 0 ≤ x10 then ((limelightref05_name.f k x0 (rd x7 x10)).bind fun t161 => ((limelightref05_name.f k x0 x1).bind fun t162 => (if t161 = t162 then (some (rd x7 x10)) else (limelightref05_Of.l0 k x0 x1 x7 (wrap64 (x10 + 1)))))) else (none)) else (some (-1))
def limelightref05_Of.f (k : Nat) (l0 : List (S53)) (a1 : Int) : Option (Int) := if 0 ≤ a1 then (if a1 < (l0.length : Int) then (if ((rd_T53 l0 a1).f2) = (-1) then (some (-1)) else (if 0 ≤ ((rd_T53 l0 a1).f2) then (if ((rd_T53 l0 a1).f2) < (l0.length : Int) then (if ((rd_T53 l0 ((rd_T53 l0 a1).f2)).f5) = (-1) then (some (-1)) else ((limelightref05_All.f k l0 ((rd_T53 l0 ((rd_T53 l0 a1).f2)).f5)).bind fun t153 => ((limelightref02_Has.f k l0 ((rd_T53 l0 ((rd_T53 l0 a1).f2)).f5) 8).bind fun t156 => (if t156 = true then ((limelightref02_Get.f k l0 a1 9).bind fun bt157 => (if bt157.2 = true then ((limelightref03_In.f k t153 bt157.1).bind fun t159 => (if t159 = true then (some bt157.1) else (some (-1)))) else (some (-1)))) else (limelightref05_Of.l0 k l0 a1 t153 0))))) else (none)) else (none))) else (none)) else (none)
theorem limelightref05_Of.mono_l : ∀ k, (∀ y0 y1 y2 y3, LeO (limelightref05_Of.l0 k y0 y1 y2 y3) (limelightref05_Of.l0 (k + 1) y0 y1 y2 y3))
 | 0 => fun _ _ _ _ r h => by simp [limelightref05_Of.l0] at h
 | k + 1 => by
  have ih0 := limelightref05_Of.mono_l k
  ·intro y0 y1 y2 y3
   unfold limelightref05_Of.l0
   repeat' first
   | (with_reducible exact ih0 _ _ _ _)
   | (with_reducible exact limelightref02_Get.mono _ _ _ _)
   | (with_reducible exact limelightref02_Has.mono _ _ _ _)
   | (with_reducible exact limelightref03_In.mono _ _ _)
   | (with_reducible exact limelightref05_All.mono _ _ _)
   | (with_reducible exact limelightref05_name.mono _ _ _)
   | (with_reducible exact LeO.refl _)
   | (with_reducible exact LeO.none _)
   | (with_reducible refine LeO.ite ?_ ?_)
   | (with_reducible refine LeO.bind ?_ (fun _ => ?_))
   | exact ih0 _ _ _ _
   | exact limelightref02_Get.mono _ _ _ _
   | exact limelightref02_Has.mono _ _ _ _
   | exact limelightref03_In.mono _ _ _
   | exact limelightref05_All.mono _ _ _
   | exact limelightref05_name.mono _ _ _
   | exact LeO.none _
   | refine LeO.ite ?_ ?_
   | refine LeO.bind ?_ (fun _ => ?_)
theorem limelightref05_Of.mono : ∀ a0 a1 k, LeO (limelightref05_Of.f k a0 a1) (limelightref05_Of.f (k + 1) a0 a1) := by
 intro a0 a1 k
 have ih0 := limelightref05_Of.mono_l k
 unfold limelightref05_Of.f
 repeat' first
   | (with_reducible exact ih0 _ _ _ _)
   | (with_reducible exact limelightref02_Get.mono _ _ _ _)
   | (with_reducible exact limelightref02_Has.mono _ _ _ _)
   | (with_reducible exact limelightref03_In.mono _ _ _)
   | (with_reducible exact limelightref05_All.mono _ _ _)
   | (with_reducible exact limelightref05_name.mono _ _ _)
   | (with_reducible exact LeO.refl _)
   | (with_reducible exact LeO.none _)
   | (with_reducible refine LeO.ite ?_ ?_)
   | (with_reducible refine LeO.bind ?_ (fun _ => ?_))
   | exact ih0 _ _ _ _
   | exact limelightref02_Get.mono _ _ _ _
   | exact limelightref02_Has.mono _ _ _ _
   | exact limelightref03_In.mono _ _ _
   | exact limelightref05_All.mono _ _ _
   | exact limelightref05_name.mono _ _ _
   | exact LeO.none _
   | refine LeO.ite ?_ ?_
   | refine LeO.bind ?_ (fun _ => ?_)
set_option maxHeartbeats 8000000 in
set_option maxRecDepth 100000 in
theorem limelightref05_Of.calls (k : Nat) (A0 : Option Addr) (c0 : Nat) (l0 : List (S53)) (a1 : Int) (r : Int) (w : World) (hr0 : Kd.C k53 w A0 l0.length l0) (hc0 : l0.length ≤ c0) (h : limelightref05_Of.f k l0 a1 = some r) :
  Calls Try.prog 29 #[.slice A0 l0.length c0, .int .i64 a1] w fun e w' => e = .returned (.int .i64 r) ∧ Below w.heap.size w w' := by
 have HR0 := Aside0.mk hr0
 have HC0 := Aside0.mk hc0
 clear hr0 hc0
 have HB := Aside0.mk (Below.refl w.heap.size w)
 have H : (if 0 ≤ a1 then (if a1 < (l0.length : Int) then (if ((rd_T53 l0 a1).f2) = (-1) then (some (-1)) else (if 0 ≤ ((rd_T53 l0 a1).f2) then (if ((rd_T53 l0 a1).f2) < (l0.length : Int) then (if ((rd_T53 l0 ((rd_T53 l0 a1).f2)).f5) = (-1) then (some (-1)) else ((limelightref05_All.f k l0 ((rd_T53 l0 ((rd_T53 l0 a1).f2)).f5)).bind fun t153 => ((limelightref02_Has.f k l0 ((rd_T53 l0 ((rd_T53 l0 a1).f2)).f5) 8).bind fun t156 => (if t156 = true then ((limelightref02_Get.f k l0 a1 9).bind fun bt157 => (if bt157.2 = true then ((limelightref03_In.f k t153 bt157.1).bind fun t159 => (if t159 = true then (some bt157.1) else (some (-1)))) else (some (-1)))) else (limelightref05_Of.l0 k l0 a1 t153 0))))) else (none)) else (none))) else (none)) else (none)) = some r := h
 clear h
 by_cases c3 : 0 ≤ a1
 ·rw [if_pos c3] at H
  have c3b0 : decide (0 ≤ a1) = true := decide_eq_true c3
  clear c3
  by_cases c4 : a1 < (l0.length : Int)
  ·rw [if_pos c4] at H
   have c4b0 : decide (a1 < (l0.length : Int)) = true := decide_eq_true c4
   clear c4
   by_cases c5 : ((rd_T53 l0 a1).f2) = (-1)
   ·rw [if_pos c5] at H
    have c5b0 : (((rd_T53 l0 a1).f2) == (-1)) = true := beq_iff_eq.mpr c5
    have c5b1 : (((rd_T53 l0 a1).f2) != (-1)) = false := bne_eq_false_iff_eq.mpr c5
    clear c5
    obtain rfl := Option.some.inj H
    have p151 : 0 ≤ (a1 : Int) := of_decide_eq_true asm_
    have q151 : a1 < (l0.length : Int) := of_decide_eq_true asm_
    obtain ⟨ad151, A151_3, c151_3, A151_6, c151_6, e151, hx151_0, hx151_1, hx151_2, hx151_3, hx151_4, hx151_5, hx151_6, hl151_3, hi151_3, hl151_6, hi151_6⟩ := at_T53 HR0.out a1 p151 q151
    cases e151
    have HR151_3 := Aside0.mk hi151_3
    have HC151_3 := Aside0.mk hl151_3
    clear hi151_3 hl151_3
    have HR151_6 := Aside0.mk hi151_6
    have HC151_6 := Aside0.mk hl151_6
    clear hi151_6 hl151_6
    replace p151 := eq_true p151
    replace q151 := eq_true q151
    go_enter Try.func29, Try.ntmps29
    go_wp2
    go_ret
    exact ⟨by first | rfl | (simp [errW_none, errW_some] <;> rfl) | (simp [*, errW_none, errW_some] <;> rfl), bel_⟩
   ·rw [if_neg c5] at H
    have c5b0 : (((rd_T53 l0 a1).f2) == (-1)) = false := beq_eq_false_iff_ne.mpr c5
    have c5b1 : (((rd_T53 l0 a1).f2) != (-1)) = true := bne_iff_ne.mpr c5
    by_cases c6 : 0 ≤ ((rd_T53 l0 a1).f2)
    ·rw [if_pos c6] at H
     have c6b0 : decide (0 ≤ ((rd_T53 l0 a1).f2)) = true := decide_eq_true c6
     clear c6
     by_cases c7 : ((rd_T53 l0 a1).f2) < (l0.length : Int)
     ·rw [if_pos c7] at H
      have c7b0 : decide (((rd_T53 l0 a1).f2) < (l0.length : Int)) = true := decide_eq_true c7
      clear c7
      by_cases c8 : ((rd_T53 l0 ((rd_T53 l0 a1).f2)).f5) = (-1)
      ·rw [if_pos c8] at H
       have c8b0 : (((rd_T53 l0 ((rd_T53 l0 a1).f2)).f5) == (-1)) = true := beq_iff_eq.mpr c8
       have c8b1 : (((rd_T53 l0 ((rd_T53 l0 a1).f2)).f5) != (-1)) = false := bne_eq_false_iff_eq.mpr c8
       clear c8
       obtain rfl := Option.some.inj H
       have p151 : 0 ≤ (a1 : Int) := of_decide_eq_true asm_
       have q151 : a1 < (l0.length : Int) := of_decide_eq_true asm_
       obtain ⟨ad151, A151_3, c151_3, A151_6, c151_6, e151, hx151_0, hx151_1, hx151_2, hx151_3, hx151_4, hx151_5, hx151_6, hl151_3, hi151_3, hl151_6, hi151_6⟩ := at_T53 HR0.out a1 p151 q151
       cases e151
       have HR151_3 := Aside0.mk hi151_3
       have HC151_3 := Aside0.mk hl151_3
       clear hi151_3 hl151_3
       have HR151_6 := Aside0.mk hi151_6
       have HC151_6 := Aside0.mk hl151_6
       clear hi151_6 hl151_6
       replace p151 := eq_true p151
       replace q151 := eq_true q151
       have p152 : 0 ≤ (((rd_T53 l0 a1).f2) : Int) := of_decide_eq_true asm_
       have q152 : ((rd_T53 l0 a1).f2) < (l0.length : Int) := of_decide_eq_true asm_
       obtain ⟨ad152, A152_3, c152_3, A152_6, c152_6, e152, hx152_0, hx152_1, hx152_2, hx152_3, hx152_4, hx152_5, hx152_6, hl152_3, hi152_3, hl152_6, hi152_6⟩ := at_T53 HR0.out ((rd_T53 l0 a1).f2) p152 q152
       obtain rfl : ad151 = ad152 := (by injection e152)
       have HR152_3 := Aside0.mk hi152_3
       have HC152_3 := Aside0.mk hl152_3
       clear hi152_3 hl152_3
       have HR152_6 := Aside0.mk hi152_6
       have HC152_6 := Aside0.mk hl152_6
       clear hi152_6 hl152_6
       replace p152 := eq_true p152
       replace q152 := eq_true q152
       go_enter Try.func29, Try.ntmps29
       go_wp2
       go_ret
       exact ⟨by first | rfl | (simp [errW_none, errW_some] <;> rfl) | (simp [*, errW_none, errW_some] <;> rfl), bel_⟩
      ·rw [if_neg c8] at H
       have c8b0 : (((rd_T53 l0 ((rd_T53 l0 a1).f2)).f5) == (-1)) = false := beq_eq_false_iff_ne.mpr c8
       have c8b1 : (((rd_T53 l0 ((rd_T53 l0 a1).f2)).f5) != (-1)) = true := bne_iff_ne.mpr c8
       replace H := Option.bind_eq_some_iff.mp H
       obtain ⟨t153, A90, H⟩ := H
       replace H : ((limelightref02_Has.f k l0 ((rd_T53 l0 ((rd_T53 l0 a1).f2)).f5) 8).bind fun t156 => (if t156 = true then ((limelightref02_Get.f k l0 a1 9).bind fun bt157 => (if bt157.2 = true then ((limelightref03_In.f k t153 bt157.1).bind fun t159 => (if t159 = true then (some bt157.1) else (some (-1)))) else (some (-1)))) else (limelightref05_Of.l0 k l0 a1 t153 0))) = some r := H
       have A9 := Aside0.mk A90
       clear A90
       replace H := Option.bind_eq_some_iff.mp H
       obtain ⟨t156, A100, H⟩ := H
       replace H : (if t156 = true then ((limelightref02_Get.f k l0 a1 9).bind fun bt157 => (if bt157.2 = true then ((limelightref03_In.f k t153 bt157.1).bind fun t159 => (if t159 = true then (some bt157.1) else (some (-1)))) else (some (-1)))) else (limelightref05_Of.l0 k l0 a1 t153 0)) = some r := H
       have A10 := Aside0.mk A100
       clear A100
       by_cases c11 : t156 = true
       ·subst c11
        have H1 : ((limelightref02_Get.f k l0 a1 9).bind fun bt157 => (if bt157.2 = true then ((limelightref03_In.f k t153 bt157.1).bind fun t159 => (if t159 = true then (some bt157.1) else (some (-1)))) else (some (-1)))) = some r := by rw [if_pos rfl] at H; exact H
        clear H
        have H := H1
        clear H1
        replace H := Option.bind_eq_some_iff.mp H
        obtain ⟨⟨t157, t158⟩, A120, H⟩ := H
        replace H : (if t158 = true then ((limelightref03_In.f k t153 t157).bind fun t159 => (if t159 = true then (some t157) else (some (-1)))) else (some (-1))) = some r := H
        have A12 := Aside0.mk A120
        clear A120
        by_cases c13 : t158 = true
        ·subst c13
         have H1 : ((limelightref03_In.f k t153 t157).bind fun t159 => (if t159 = true then (some t157) else (some (-1)))) = some r := by rw [if_pos rfl] at H; exact H
         clear H
         have H := H1
         clear H1
         replace H := Option.bind_eq_some_iff.mp H
         obtain ⟨t159, A140, H⟩ := H
         replace H : (if t159 = true then (some t157) else (some (-1))) = some r := H
         have A14 := Aside0.mk A140
         clear A140
         by_cases c15 : t159 = true
         ·subst c15
          have H1 : (some t157) = some r := by rw [if_pos rfl] at H; exact H
          clear H
          have H := H1
          clear H1
          obtain rfl := Option.some.inj H
          have p151 : 0 ≤ (a1 : Int) := of_decide_eq_true asm_
          have q151 : a1 < (l0.length : Int) := of_decide_eq_true asm_
          obtain ⟨ad151, A151_3, c151_3, A151_6, c151_6, e151, hx151_0, hx151_1, hx151_2, hx151_3, hx151_4, hx151_5, hx151_6, hl151_3, hi151_3, hl151_6, hi151_6⟩ := at_T53 HR0.out a1 p151 q151
          cases e151
          have HR151_3 := Aside0.mk hi151_3
          have HC151_3 := Aside0.mk hl151_3
          clear hi151_3 hl151_3
          have HR151_6 := Aside0.mk hi151_6
          have HC151_6 := Aside0.mk hl151_6
          clear hi151_6 hl151_6
          replace p151 := eq_true p151
          replace q151 := eq_true q151
          have p152 : 0 ≤ (((rd_T53 l0 a1).f2) : Int) := of_decide_eq_true asm_
          have q152 : ((rd_T53 l0 a1).f2) < (l0.length : Int) := of_decide_eq_true asm_
          obtain ⟨ad152, A152_3, c152_3, A152_6, c152_6, e152, hx152_0, hx152_1, hx152_2, hx152_3, hx152_4, hx152_5, hx152_6, hl152_3, hi152_3, hl152_6, hi152_6⟩ := at_T53 HR0.out ((rd_T53 l0 a1).f2) p152 q152
          obtain rfl : ad151 = ad152 := (by injection e152)
          have HR152_3 := Aside0.mk hi152_3
          have HC152_3 := Aside0.mk hl152_3
          clear hi152_3 hl152_3
          have HR152_6 := Aside0.mk hi152_6
          have HC152_6 := Aside0.mk hl152_6
          clear hi152_6 hl152_6
          replace p152 := eq_true p152
          replace q152 := eq_true q152
          go_enter Try.func29, Try.ntmps29
          go_wp2_with (first | ((with_reducible refine gate_callee (f := 51) rfl ?_); refine goesL_ (some 27) rfl rfl Try.func51 (by kernel_rfl) rfl #[.slice (some ad151) l0.length c0, .int .i64 ((rd_T53 l0 ((rd_T53 l0 a1).f2)).f5)] rfl margs_ ?_; (with_reducible refine (limelightref05_All.calls k _ _ l0 ((rd_T53 l0 ((rd_T53 l0 a1).f2)).f5) t153 _ ?side1 ?side2 A9.out).mono ?_); (case side1 => exact kcb_ (HR0.out)); (case side2 => exact HC0.out); rintro e w16 ⟨v154, rfl, ho0, hb⟩; refine ⟨_, rfl, ?_⟩; have n0_ := Aside0.mk (Kd.R_lower ho0 (below_size bel_)); have n1_ := Aside0.mk (below_step bel_ hb); clear HB; have HO155 := n0_; have HB := n1_; clear n0_ n1_; (try clear hb); (try clear hb2); (try clear hk); (try clear hi); (try clear ho0)) | ((with_reducible refine gate_callee (f := 52) rfl ?_); refine goesL_ (some 30) rfl rfl Try.func52 (by kernel_rfl) rfl #[.slice (some ad151) l0.length c0, .int .i64 ((rd_T53 l0 ((rd_T53 l0 a1).f2)).f5), .int .i64 8] rfl margs_ ?_; (with_reducible refine (limelightref02_Has.calls k _ _ l0 ((rd_T53 l0 ((rd_T53 l0 a1).f2)).f5) 8 true _ ?side1 ?side2 A10.out).mono ?_); (case side1 => exact kcb_ ((Kd.C_below HR0.out HB.out))); (case side2 => exact HC0.out); rintro e w17 ⟨rfl, hb⟩; refine ⟨_, rfl, ?_⟩; have n0_ := Aside0.mk (Kd.R_below (kra_ HO155.out) hb); have n1_ := Aside0.mk (below_step bel_ hb); clear HO155; clear HB; have HO155 := n0_; have HB := n1_; clear n0_ n1_; (try clear hb); (try clear hb2); (try clear hk); (try clear hi)) | ((with_reducible refine gate_callee (f := 53) rfl ?_); refine goesL_ (some 34) rfl rfl Try.func53 (by kernel_rfl) rfl #[.slice (some ad151) l0.length c0, .int .i64 a1, .int .i64 9] rfl margs_ ?_; (with_reducible refine (limelightref02_Get.calls k _ _ l0 a1 9 t157 true _ ?side1 ?side2 A12.out).mono ?_); (case side1 => exact kcb_ ((Kd.C_below HR0.out HB.out))); (case side2 => exact HC0.out); rintro e w18 ⟨rfl, hb⟩; refine ⟨_, rfl, ?_⟩; have n0_ := Aside0.mk (Kd.R_below (kra_ HO155.out) hb); have n1_ := Aside0.mk (below_step bel_ hb); clear HO155; clear HB; have HO155 := n0_; have HB := n1_; clear n0_ n1_; (try clear hb); (try clear hb2); (try clear hk); (try clear hi); obtain ⟨Ao19, co19, eo19⟩ := Kd.R_slice HO155.out; subst eo19) | (go_at_call 33; (with_reducible refine (limelightref03_In.calls k _ _ t153 t157 true _ ?side1 ?side2 A14.out).mono ?_); (case side1 => exact kcb_ ((Kd.R_reads' HO155.out).2.2)); (case side2 => exact (Kd.R_reads' HO155.out).2.1); rintro e w' ⟨rfl, ⟨nd, rfl⟩⟩))
          go_ret
          exact ⟨by first | rfl | (simp [errW_none, errW_some] <;> rfl) | (simp [*, errW_none, errW_some] <;> rfl), bel_⟩
         ·replace c15 := Bool.eq_false_iff.mpr c15
          subst c15
          have H1 : (some (-1)) = some r := by rw [if_neg (show ¬ (false = true) by decide)] at H; exact H
          clear H
          have H := H1
          clear H1
          obtain rfl := Option.some.inj H
          have p151 : 0 ≤ (a1 : Int) := of_decide_eq_true asm_
          have q151 : a1 < (l0.length : Int) := of_decide_eq_true asm_
          obtain ⟨ad151, A151_3, c151_3, A151_6, c151_6, e151, hx151_0, hx151_1, hx151_2, hx151_3, hx151_4, hx151_5, hx151_6, hl151_3, hi151_3, hl151_6, hi151_6⟩ := at_T53 HR0.out a1 p151 q151
          cases e151
          have HR151_3 := Aside0.mk hi151_3
          have HC151_3 := Aside0.mk hl151_3
          clear hi151_3 hl151_3
          have HR151_6 := Aside0.mk hi151_6
          have HC151_6 := Aside0.mk hl151_6
          clear hi151_6 hl151_6
          replace p151 := eq_true p151
          replace q151 := eq_true q151
          have p152 : 0 ≤ (((rd_T53 l0 a1).f2) : Int) := of_decide_eq_true asm_
          have q152 : ((rd_T53 l0 a1).f2) < (l0.length : Int) := of_decide_eq_true asm_
          obtain ⟨ad152, A152_3, c152_3, A152_6, c152_6, e152, hx152_0, hx152_1, hx152_2, hx152_3, hx152_4, hx152_5, hx152_6, hl152_3, hi152_3, hl152_6, hi152_6⟩ := at_T53 HR0.out ((rd_T53 l0 a1).f2) p152 q152
          obtain rfl : ad151 = ad152 := (by injection e152)
          have HR152_3 := Aside0.mk hi152_3
          have HC152_3 := Aside0.mk hl152_3
          clear hi152_3 hl152_3
          have HR152_6 := Aside0.mk hi152_6
          have HC152_6 := Aside0.mk hl152_6
          clear hi152_6 hl152_6
          replace p152 := eq_true p152
          replace q152 := eq_true q152
          go_enter Try.func29, Try.ntmps29
          go_wp2_with (first | ((with_reducible refine gate_callee (f := 51) rfl ?_); refine goesL_ (some 27) rfl rfl Try.func51 (by kernel_rfl) rfl #[.slice (some ad151) l0.length c0, .int .i64 ((rd_T53 l0 ((rd_T53 l0 a1).f2)).f5)] rfl margs_ ?_; (with_reducible refine (limelightref05_All.calls k _ _ l0 ((rd_T53 l0 ((rd_T53 l0 a1).f2)).f5) t153 _ ?side1 ?side2 A9.out).mono ?_); (case side1 => exact kcb_ (HR0.out)); (case side2 => exact HC0.out); rintro e w20 ⟨v154, rfl, ho0, hb⟩; refine ⟨_, rfl, ?_⟩; have n0_ := Aside0.mk (Kd.R_lower ho0 (below_size bel_)); have n1_ := Aside0.mk (below_step bel_ hb); clear HB; have HO155 := n0_; have HB := n1_; clear n0_ n1_; (try clear hb); (try clear hb2); (try clear hk); (try clear hi); (try clear ho0)) | ((with_reducible refine gate_callee (f := 52) rfl ?_); refine goesL_ (some 30) rfl rfl Try.func52 (by kernel_rfl) rfl #[.slice (some ad151) l0.length c0, .int .i64 ((rd_T53 l0 ((rd_T53 l0 a1).f2)).f5), .int .i64 8] rfl margs_ ?_; (with_reducible refine (limelightref02_Has.calls k _ _ l0 ((rd_T53 l0 ((rd_T53 l0 a1).f2)).f5) 8 true _ ?side1 ?side2 A10.out).mono ?_); (case side1 => exact kcb_ ((Kd.C_below HR0.out HB.out))); (case side2 => exact HC0.out); rintro e w21 ⟨rfl, hb⟩; refine ⟨_, rfl, ?_⟩; have n0_ := Aside0.mk (Kd.R_below (kra_ HO155.out) hb); have n1_ := Aside0.mk (below_step bel_ hb); clear HO155; clear HB; have HO155 := n0_; have HB := n1_; clear n0_ n1_; (try clear hb); (try clear hb2); (try clear hk); (try clear hi)) | ((with_reducible refine gate_callee (f := 53) rfl ?_); refine goesL_ (some 34) rfl rfl Try.func53 (by kernel_rfl) rfl #[.slice (some ad151) l0.length c0, .int .i64 a1, .int .i64 9] rfl margs_ ?_; (with_reducible refine (limelightref02_Get.calls k _ _ l0 a1 9 t157 true _ ?side1 ?side2 A12.out).mono ?_); (case side1 => exact kcb_ ((Kd.C_below HR0.out HB.out))); (case side2 => exact HC0.out); rintro e w22 ⟨rfl, hb⟩; refine ⟨_, rfl, ?_⟩; have n0_ := Aside0.mk (Kd.R_below (kra_ HO155.out) hb); have n1_ := Aside0.mk (below_step bel_ hb); clear HO155; clear HB; have HO155 := n0_; have HB := n1_; clear n0_ n1_; (try clear hb); (try clear hb2); (try clear hk); (try clear hi); obtain ⟨Ao23, co23, eo23⟩ := Kd.R_slice HO155.out; subst eo23) | (go_at_call 33; (with_reducible refine (limelightref03_In.calls k _ _ t153 t157 false _ ?side1 ?side2 A14.out).mono ?_); (case side1 => exact kcb_ ((Kd.R_reads' HO155.out).2.2)); (case side2 => exact (Kd.R_reads' HO155.out).2.1); rintro e w' ⟨rfl, ⟨nd, rfl⟩⟩))
          go_ret
          exact ⟨by first | rfl | (simp [errW_none, errW_some] <;> rfl) | (simp [*, errW_none, errW_some] <;> rfl), bel_⟩
        ·replace c13 := Bool.eq_false_iff.mpr c13
         subst c13
         have H1 : (some (-1)) = some r := by rw [if_neg (show ¬ (false = true) by decide)] at H; exact H
         clear H
         have H := H1
         clear H1
         obtain rfl := Option.some.inj H
         have p151 : 0 ≤ (a1 : Int) := of_decide_eq_true asm_
         have q151 : a1 < (l0.length : Int) := of_decide_eq_true asm_
         obtain ⟨ad151, A151_3, c151_3, A151_6, c151_6, e151, hx151_0, hx151_1, hx151_2, hx151_3, hx151_4, hx151_5, hx151_6, hl151_3, hi151_3, hl151_6, hi151_6⟩ := at_T53 HR0.out a1 p151 q151
         cases e151
         have HR151_3 := Aside0.mk hi151_3
         have HC151_3 := Aside0.mk hl151_3
         clear hi151_3 hl151_3
         have HR151_6 := Aside0.mk hi151_6
         have HC151_6 := Aside0.mk hl151_6
         clear hi151_6 hl151_6
         replace p151 := eq_true p151
         replace q151 := eq_true q151
         have p152 : 0 ≤ (((rd_T53 l0 a1).f2) : Int) := of_decide_eq_true asm_
         have q152 : ((rd_T53 l0 a1).f2) < (l0.length : Int) := of_decide_eq_true asm_
         obtain ⟨ad152, A152_3, c152_3, A152_6, c152_6, e152, hx152_0, hx152_1, hx152_2, hx152_3, hx152_4, hx152_5, hx152_6, hl152_3, hi152_3, hl152_6, hi152_6⟩ := at_T53 HR0.out ((rd_T53 l0 a1).f2) p152 q152
         obtain rfl : ad151 = ad152 := (by injection e152)
         have HR152_3 := Aside0.mk hi152_3
         have HC152_3 := Aside0.mk hl152_3
         clear hi152_3 hl152_3
         have HR152_6 := Aside0.mk hi152_6
         have HC152_6 := Aside0.mk hl152_6
         clear hi152_6 hl152_6
         replace p152 := eq_true p152
         replace q152 := eq_true q152
         go_enter Try.func29, Try.ntmps29
         go_wp2_with (first | ((with_reducible refine gate_callee (f := 51) rfl ?_); refine goesL_ (some 27) rfl rfl Try.func51 (by kernel_rfl) rfl #[.slice (some ad151) l0.length c0, .int .i64 ((rd_T53 l0 ((rd_T53 l0 a1).f2)).f5)] rfl margs_ ?_; (with_reducible refine (limelightref05_All.calls k _ _ l0 ((rd_T53 l0 ((rd_T53 l0 a1).f2)).f5) t153 _ ?side1 ?side2 A9.out).mono ?_); (case side1 => exact kcb_ (HR0.out)); (case side2 => exact HC0.out); rintro e w24 ⟨v154, rfl, ho0, hb⟩; refine ⟨_, rfl, ?_⟩; have n0_ := Aside0.mk (Kd.R_lower ho0 (below_size bel_)); have n1_ := Aside0.mk (below_step bel_ hb); clear HB; have HO155 := n0_; have HB := n1_; clear n0_ n1_; (try clear hb); (try clear hb2); (try clear hk); (try clear hi); (try clear ho0)) | ((with_reducible refine gate_callee (f := 52) rfl ?_); refine goesL_ (some 30) rfl rfl Try.func52 (by kernel_rfl) rfl #[.slice (some ad151) l0.length c0, .int .i64 ((rd_T53 l0 ((rd_T53 l0 a1).f2)).f5), .int .i64 8] rfl margs_ ?_; (with_reducible refine (limelightref02_Has.calls k _ _ l0 ((rd_T53 l0 ((rd_T53 l0 a1).f2)).f5) 8 true _ ?side1 ?side2 A10.out).mono ?_); (case side1 => exact kcb_ ((Kd.C_below HR0.out HB.out))); (case side2 => exact HC0.out); rintro e w25 ⟨rfl, hb⟩; refine ⟨_, rfl, ?_⟩; have n0_ := Aside0.mk (Kd.R_below (kra_ HO155.out) hb); have n1_ := Aside0.mk (below_step bel_ hb); clear HO155; clear HB; have HO155 := n0_; have HB := n1_; clear n0_ n1_; (try clear hb); (try clear hb2); (try clear hk); (try clear hi)) | ((with_reducible refine gate_callee (f := 53) rfl ?_); refine goesL_ (some 34) rfl rfl Try.func53 (by kernel_rfl) rfl #[.slice (some ad151) l0.length c0, .int .i64 a1, .int .i64 9] rfl margs_ ?_; (with_reducible refine (limelightref02_Get.calls k _ _ l0 a1 9 t157 false _ ?side1 ?side2 A12.out).mono ?_); (case side1 => exact kcb_ ((Kd.C_below HR0.out HB.out))); (case side2 => exact HC0.out); rintro e w26 ⟨rfl, hb⟩; refine ⟨_, rfl, ?_⟩; have n0_ := Aside0.mk (Kd.R_below (kra_ HO155.out) hb); have n1_ := Aside0.mk (below_step bel_ hb); clear HO155; clear HB; have HO155 := n0_; have HB := n1_; clear n0_ n1_; (try clear hb); (try clear hb2); (try clear hk); (try clear hi)))
         go_ret
         exact ⟨by first | rfl | (simp [errW_none, errW_some] <;> rfl) | (simp [*, errW_none, errW_some] <;> rfl), bel_⟩
       ·replace c11 := Bool.eq_false_iff.mpr c11
        subst c11
        have H1 : (limelightref05_Of.l0 k l0 a1 t153 0) = some r := by rw [if_neg (show ¬ (false = true) by decide)] at H; exact H
        clear H
        have H := H1
        clear H1
        have H' := Aside0.mk H
        clear H
        have p151 : 0 ≤ (a1 : Int) := of_decide_eq_true asm_
        have q151 : a1 < (l0.length : Int) := of_decide_eq_true asm_
        obtain ⟨ad151, A151_3, c151_3, A151_6, c151_6, e151, hx151_0, hx151_1, hx151_2, hx151_3, hx151_4, hx151_5, hx151_6, hl151_3, hi151_3, hl151_6, hi151_6⟩ := at_T53 HR0.out a1 p151 q151
        cases e151
        have HR151_3 := Aside0.mk hi151_3
        have HC151_3 := Aside0.mk hl151_3
        clear hi151_3 hl151_3
        have HR151_6 := Aside0.mk hi151_6
        have HC151_6 := Aside0.mk hl151_6
        clear hi151_6 hl151_6
        replace p151 := eq_true p151
        replace q151 := eq_true q151
        have p152 : 0 ≤ (((rd_T53 l0 a1).f2) : Int) := of_decide_eq_true asm_
        have q152 : ((rd_T53 l0 a1).f2) < (l0.length : Int) := of_decide_eq_true asm_
        obtain ⟨ad152, A152_3, c152_3, A152_6, c152_6, e152, hx152_0, hx152_1, hx152_2, hx152_3, hx152_4, hx152_5, hx152_6, hl152_3, hi152_3, hl152_6, hi152_6⟩ := at_T53 HR0.out ((rd_T53 l0 a1).f2) p152 q152
        obtain rfl : ad151 = ad152 := (by injection e152)
        have HR152_3 := Aside0.mk hi152_3
        have HC152_3 := Aside0.mk hl152_3
        clear hi152_3 hl152_3
        have HR152_6 := Aside0.mk hi152_6
        have HC152_6 := Aside0.mk hl152_6
        clear hi152_6 hl152_6
        replace p152 := eq_true p152
        replace q152 := eq_true q152
        go_enter Try.func29, Try.ntmps29
        go_wp2_with (first | ((with_reducible refine gate_callee (f := 51) rfl ?_); refine goesL_ (some 27) rfl rfl Try.func51 (by kernel_rfl) rfl #[.slice (some ad151) l0.length c0, .int .i64 ((rd_T53 l0 ((rd_T53 l0 a1).f2)).f5)] rfl margs_ ?_; (with_reducible refine (limelightref05_All.calls k _ _ l0 ((rd_T53 l0 ((rd_T53 l0 a1).f2)).f5) t153 _ ?side1 ?side2 A9.out).mono ?_); (case side1 => exact kcb_ (HR0.out)); (case side2 => exact HC0.out); rintro e w27 ⟨v154, rfl, ho0, hb⟩; refine ⟨_, rfl, ?_⟩; have n0_ := Aside0.mk (Kd.R_lower ho0 (below_size bel_)); have n1_ := Aside0.mk (below_step bel_ hb); clear HB; have HO155 := n0_; have HB := n1_; clear n0_ n1_; (try clear hb); (try clear hb2); (try clear hk); (try clear hi); (try clear ho0)) | ((with_reducible refine gate_callee (f := 52) rfl ?_); refine goesL_ (some 30) rfl rfl Try.func52 (by kernel_rfl) rfl #[.slice (some ad151) l0.length c0, .int .i64 ((rd_T53 l0 ((rd_T53 l0 a1).f2)).f5), .int .i64 8] rfl margs_ ?_; (with_reducible refine (limelightref02_Has.calls k _ _ l0 ((rd_T53 l0 ((rd_T53 l0 a1).f2)).f5) 8 false _ ?side1 ?side2 A10.out).mono ?_); (case side1 => exact kcb_ ((Kd.C_below HR0.out HB.out))); (case side2 => exact HC0.out); rintro e w28 ⟨rfl, hb⟩; refine ⟨_, rfl, ?_⟩; have n0_ := Aside0.mk (Kd.R_below (kra_ HO155.out) hb); have n1_ := Aside0.mk (below_step bel_ hb); clear HO155; clear HB; have HO155 := n0_; have HB := n1_; clear n0_ n1_; (try clear hb); (try clear hb2); (try clear hk); (try clear hi)))
        go_loopg [10] k (fun kq v10 w' => ∃ (x10_1 : Int), v10 = .int .i64 x10_1 ∧ Aside0 (limelightref05_Of.l0 kq l0 a1 t153 x10_1 = some r) ∧ Aside0 (kq ≤ k) ∧ Aside0 (Kd.R (Kd.int .i64) 3 w' w.heap.size (fun _ => True) v154 t153) ∧ Aside0 (Below w.heap.size w w'))
        case atStart => exact ⟨(0), (by first | rfl | (simp; done) | (simp [*]; done)), H', ⟨Nat.le_refl _⟩, ⟨kra_ HO155.out⟩, ⟨bel_⟩⟩
        case round =>
         clear H'
         try clear c1
         try clear p1
         try clear q1
         try clear hx1
         try clear c2
         try clear p2
         try clear c3
         try clear c3b0
         try clear c4
         try clear c4b0
         try clear c5
         try clear c5b0
         try clear c5b1
         try clear c6
         try clear c6b0
         try clear c7
         try clear c7b0
         try clear c8
         try clear c8b0
         try clear c8b1
         try clear c11
         try clear c13
         try clear c15
         try clear p15
         try clear q15
         try clear hx15
         try clear hx151_0
         try clear hx151_1
         try clear hx151_2
         try clear hx151_3
         try clear hx151_4
         try clear hx151_5
         try clear hx151_6
         try clear hx152_0
         try clear hx152_1
         try clear hx152_2
         try clear hx152_3
         try clear hx152_4
         try clear hx152_5
         try clear hx152_6
         try clear p151
         try clear p152
         try clear q151
         try clear q152
         obtain ⟨x10_1, rfl, HA, HK1, HO_7, HB⟩ := hrel
         cases gk with
         | zero => exact absurd HA.out (by simp [limelightref05_Of.l0])
         | succ k1 =>
          have H := HA.out
          clear HA
          simp only [limelightref05_Of.l0] at H
          by_cases c29 : x10_1 < (t153.length : Int)
          ·rw [if_pos c29] at H
           have c29b0 : decide (x10_1 < (t153.length : Int)) = true := decide_eq_true c29
           clear c29
           by_cases c30 : 0 ≤ x10_1
           ·rw [if_pos c30] at H
            have c30b0 : decide (0 ≤ x10_1) = true := decide_eq_true c30
            clear c30
            replace H := Option.bind_eq_some_iff.mp H
            obtain ⟨t161, A310, H⟩ := H
            replace H : ((limelightref05_name.f k1 l0 a1).bind fun t162 => (if t161 = t162 then (some (rd t153 x10_1)) else (limelightref05_Of.l0 k1 l0 a1 t153 (wrap64 (x10_1 + 1))))) = some r := H
            have A31 := Aside0.mk A310
            clear A310
            replace H := Option.bind_eq_some_iff.mp H
            obtain ⟨t162, A320, H⟩ := H
            replace H : (if t161 = t162 then (some (rd t153 x10_1)) else (limelightref05_Of.l0 k1 l0 a1 t153 (wrap64 (x10_1 + 1)))) = some r := H
            have A32 := Aside0.mk A320
            clear A320
            by_cases c33 : t161 = t162
            ·rw [if_pos c33] at H
             have c33b0 : (t161 == t162) = true := beq_iff_eq.mpr c33
             have c33b1 : (t161 != t162) = false := bne_eq_false_iff_eq.mpr c33
             clear c33
             obtain rfl := Option.some.inj H
             obtain ⟨Ao34, co34, eo34⟩ := Kd.R_slice HO_7.out
             subst eo34
             have p160 : 0 ≤ (x10_1 : Int) := of_decide_eq_true asm_
             have q160 : x10_1 < (t153.length : Int) := of_decide_eq_true asm_
             obtain ⟨ad160, e160, hx160_0⟩ := Kd.at_int (Kd.R_reads' HO_7.out).2.2 x10_1 p160 q160
             cases e160
             replace p160 := eq_true p160
             replace q160 := eq_true q160
             go_wp2_with (first | ((with_reducible refine gate_callee (f := 54) rfl ?_); refine goesL_ (some 55) rfl rfl Try.func54 (by kernel_rfl) rfl #[.slice (some ad151) l0.length c0, .int .i64 (rd t153 x10_1)] rfl margs_ ?_; (with_reducible refine (limelightref05_name.calls k1 _ _ l0 (rd t153 x10_1) t161 _ ?side1 ?side2 A31.out).mono ?_); (case side1 => exact kcb_ ((Kd.C_below HR0.out HB.out))); (case side2 => exact HC0.out); rintro e w35 ⟨rfl, hb⟩; refine ⟨_, rfl, ?_⟩; have n0_ := Aside0.mk (Kd.R_below (kra_ HO_7.out) hb); have n1_ := Aside0.mk (below_step bel_ hb); clear HO_7; clear HB; have HO_7 := n0_; have HB := n1_; clear n0_ n1_; (try clear hb); (try clear hb2); (try clear hk); (try clear hi)) | ((with_reducible refine gate_callee (f := 54) rfl ?_); refine goesL_ (some 58) rfl rfl Try.func54 (by kernel_rfl) rfl #[.slice (some ad151) l0.length c0, .int .i64 a1] rfl margs_ ?_; (with_reducible refine (limelightref05_name.calls k1 _ _ l0 a1 t162 _ ?side1 ?side2 A32.out).mono ?_); (case side1 => exact kcb_ ((Kd.C_below HR0.out HB.out))); (case side2 => exact HC0.out); rintro e w36 ⟨rfl, hb⟩; refine ⟨_, rfl, ?_⟩; have n0_ := Aside0.mk (Kd.R_below (kra_ HO_7.out) hb); have n1_ := Aside0.mk (below_step bel_ hb); clear HO_7; clear HB; have HO_7 := n0_; have HB := n1_; clear n0_ n1_; (try clear hb); (try clear hb2); (try clear hk); (try clear hi); have p163 : 0 ≤ (x10_1 : Int) := of_decide_eq_true asm_; have q163 : x10_1 < (t153.length : Int) := of_decide_eq_true asm_; obtain ⟨ad163, e163, hx163_0⟩ := Kd.at_int (Kd.R_reads' HO_7.out).2.2 x10_1 p163 q163; obtain rfl : ad160 = ad163 := (by injection e163); replace p163 := eq_true p163; replace q163 := eq_true q163))
             go_ret
             exact ⟨by first | rfl | (simp [errW_none, errW_some] <;> rfl) | (simp [*, errW_none, errW_some] <;> rfl), bel_⟩
            ·rw [if_neg c33] at H
             have c33b0 : (t161 == t162) = false := beq_eq_false_iff_ne.mpr c33
             have c33b1 : (t161 != t162) = true := bne_iff_ne.mpr c33
             have H' := Aside0.mk H
             clear H
             obtain ⟨Ao37, co37, eo37⟩ := Kd.R_slice HO_7.out
             subst eo37
             have p160 : 0 ≤ (x10_1 : Int) := of_decide_eq_true asm_
             have q160 : x10_1 < (t153.length : Int) := of_decide_eq_true asm_
             obtain ⟨ad160, e160, hx160_0⟩ := Kd.at_int (Kd.R_reads' HO_7.out).2.2 x10_1 p160 q160
             cases e160
             replace p160 := eq_true p160
             replace q160 := eq_true q160
             go_wp2_with (first | ((with_reducible refine gate_callee (f := 54) rfl ?_); refine goesL_ (some 55) rfl rfl Try.func54 (by kernel_rfl) rfl #[.slice (some ad151) l0.length c0, .int .i64 (rd t153 x10_1)] rfl margs_ ?_; (with_reducible refine (limelightref05_name.calls k1 _ _ l0 (rd t153 x10_1) t161 _ ?side1 ?side2 A31.out).mono ?_); (case side1 => exact kcb_ ((Kd.C_below HR0.out HB.out))); (case side2 => exact HC0.out); rintro e w38 ⟨rfl, hb⟩; refine ⟨_, rfl, ?_⟩; have n0_ := Aside0.mk (Kd.R_below (kra_ HO_7.out) hb); have n1_ := Aside0.mk (below_step bel_ hb); clear HO_7; clear HB; have HO_7 := n0_; have HB := n1_; clear n0_ n1_; (try clear hb); (try clear hb2); (try clear hk); (try clear hi)) | ((with_reducible refine gate_callee (f := 54) rfl ?_); refine goesL_ (some 58) rfl rfl Try.func54 (by kernel_rfl) rfl #[.slice (some ad151) l0.length c0, .int .i64 a1] rfl margs_ ?_; (with_reducible refine (limelightref05_name.calls k1 _ _ l0 a1 t162 _ ?side1 ?side2 A32.out).mono ?_); (case side1 => exact kcb_ ((Kd.C_below HR0.out HB.out))); (case side2 => exact HC0.out); rintro e w39 ⟨rfl, hb⟩; refine ⟨_, rfl, ?_⟩; have n0_ := Aside0.mk (Kd.R_below (kra_ HO_7.out) hb); have n1_ := Aside0.mk (below_step bel_ hb); clear HO_7; clear HB; have HO_7 := n0_; have HB := n1_; clear n0_ n1_; (try clear hb); (try clear hb2); (try clear hk); (try clear hi)))
             go_roundg k1
             case measure => have := HK1.out; omega
             case rel => exact ⟨(wrap64 (x10_1 + 1)), (by first | rfl | (simp; done) | (simp [*]; done)), H', ⟨by have := HK1.out; omega⟩, ⟨kra_ HO_7.out⟩, ⟨bel_⟩⟩
           ·rw [if_neg c30] at H
            exact absurd H (by simp)
          ·rw [if_neg c29] at H
           have c29b0 : decide (x10_1 < (t153.length : Int)) = false := decide_eq_false c29
           clear c29
           obtain rfl := Option.some.inj H
           obtain ⟨Ao40, co40, eo40⟩ := Kd.R_slice HO_7.out
           subst eo40
           go_wp2
           go_ret
           exact ⟨by first | rfl | (simp [errW_none, errW_some] <;> rfl) | (simp [*, errW_none, errW_some] <;> rfl), bel_⟩
     ·rw [if_neg c7] at H
      exact absurd H (by simp)
    ·rw [if_neg c6] at H
     exact absurd H (by simp)
  ·rw [if_neg c4] at H
   exact absurd H (by simp)
 ·rw [if_neg c3] at H
  exact absurd H (by simp)

/-! ### limelightref07_Parent: function 15 -/
def limelightref07_Parent.f (k : Nat) (l0 : List (S53)) (a1 : Int) (a2_0 : Int) (a2_1 : Int) (a2_2 : Int) (a2_3 : Bool) (a2_4 : Bool) (a2_5 : Bool) : Option (Int) := (limelightref05_Of.f k l0 a1).bind fun t165 => (if t165 = (-1) then (if 0 ≤ a1 then (if a1 < (l0.length : Int) then (if ((rd_T53 l0 a1).f0) = 3 then (if a2_5 = true then (some ((rd_T53 l0 a1).f4)) else ((limelightref03_Top.f k l0 a2_1).bind fun t168 => (if t168 = a1 then (some (-1)) else (some ((rd_T53 l0 a1).f4))))) else (some ((rd_T53 l0 a1).f2))) else (none)) else (none)) else (some t165))
theorem limelightref07_Parent.mono : ∀ a0 a1 a2 a3 a4 a5 a6 a7 k, LeO (limelightref07_Parent.f k a0 a1 a2 a3 a4 a5 a6 a7) (limelightref07_Parent.f (k + 1) a0 a1 a2 a3 a4 a5 a6 a7) := by
 intro a0 a1 a2 a3 a4 a5 a6 a7 k
 unfold limelightref07_Parent.f
 repeat' first
   | (with_reducible exact limelightref03_Top.mono _ _ _)
   | (with_reducible exact limelightref05_Of.mono _ _ _)
   | (with_reducible exact LeO.refl _)
   | (with_reducible exact LeO.none _)
   | (with_reducible refine LeO.ite ?_ ?_)
   | (with_reducible refine LeO.bind ?_ (fun _ => ?_))
   | exact limelightref03_Top.mono _ _ _
   | exact limelightref05_Of.mono _ _ _
   | exact LeO.none _
   | refine LeO.ite ?_ ?_
   | refine LeO.bind ?_ (fun _ => ?_)
set_option maxHeartbeats 8000000 in
set_option maxRecDepth 100000 in
theorem limelightref07_Parent.calls (k : Nat) (A0 : Option Addr) (c0 : Nat) (l0 : List (S53)) (a1 : Int) (a2_0 : Int) (a2_1 : Int) (a2_2 : Int) (a2_3 : Bool) (a2_4 : Bool) (a2_5 : Bool) (r : Int) (w : World) (hr0 : Kd.C k53 w A0 l0.length l0) (hc0 : l0.length ≤ c0) (h : limelightref07_Parent.f k l0 a1 a2_0 a2_1 a2_2 a2_3 a2_4 a2_5 = some r) :
  Calls Try.prog 15 #[.slice A0 l0.length c0, .int .i64 a1, .agg #[.int .i64 a2_0, .int .i64 a2_1, .int .i64 a2_2, .bool a2_3, .bool a2_4, .bool a2_5]] w fun e w' => e = .returned (.int .i64 r) ∧ Below w.heap.size w w' := by
 have hu25 := Try.underlying25
 have HR0 := Aside0.mk hr0
 have HC0 := Aside0.mk hc0
 clear hr0 hc0
 have HB := Aside0.mk (Below.refl w.heap.size w)
 have H : ((limelightref05_Of.f k l0 a1).bind fun t165 => (if t165 = (-1) then (if 0 ≤ a1 then (if a1 < (l0.length : Int) then (if ((rd_T53 l0 a1).f0) = 3 then (if a2_5 = true then (some ((rd_T53 l0 a1).f4)) else ((limelightref03_Top.f k l0 a2_1).bind fun t168 => (if t168 = a1 then (some (-1)) else (some ((rd_T53 l0 a1).f4))))) else (some ((rd_T53 l0 a1).f2))) else (none)) else (none)) else (some t165))) = some r := h
 clear h
 replace H := Option.bind_eq_some_iff.mp H
 obtain ⟨t165, A40, H⟩ := H
 replace H : (if t165 = (-1) then (if 0 ≤ a1 then (if a1 < (l0.length : Int) then (if ((rd_T53 l0 a1).f0) = 3 then (if a2_5 = true then (some ((rd_T53 l0 a1).f4)) else ((limelightref03_Top.f k l0 a2_1).bind fun t168 => (if t168 = a1 then (some (-1)) else (some ((rd_T53 l0 a1).f4))))) else (some ((rd_T53 l0 a1).f2))) else (none)) else (none)) else (some t165)) = some r := H
 have A4 := Aside0.mk A40
 clear A40
 by_cases c5 : t165 = (-1)
 ·rw [if_pos c5] at H
  have c5b0 : (t165 == (-1)) = true := beq_iff_eq.mpr c5
  have c5b1 : (t165 != (-1)) = false := bne_eq_false_iff_eq.mpr c5
  clear c5
  by_cases c6 : 0 ≤ a1
  ·rw [if_pos c6] at H
   have c6b0 : decide (0 ≤ a1) = true := decide_eq_true c6
   clear c6
   by_cases c7 : a1 < (l0.length : Int)
   ·rw [if_pos c7] at H
    have c7b0 : decide (a1 < (l0.length : Int)) = true := decide_eq_true c7
    clear c7
    by_cases c8 : ((rd_T53 l0 a1).f0) = 3
    ·rw [if_pos c8] at H
     have c8b0 : (((rd_T53 l0 a1).f0) == 3) = true := beq_iff_eq.mpr c8
     have c8b1 : (((rd_T53 l0 a1).f0) != 3) = false := bne_eq_false_iff_eq.mpr c8
     clear c8
     by_cases c9 : a2_5 = true
     ·subst c9
      have H1 : (some ((rd_T53 l0 a1).f4)) = some r := by rw [if_pos rfl] at H; exact H
      clear H
      have H := H1
      clear H1
      obtain rfl := Option.some.inj H
      go_enter Try.func15, Try.ntmps15
      go_wp2_with (first | ((with_reducible refine gate_dst (N := 5) rfl ?_); refine box_event ?hg (N := 5) ?hd (cs := #[.int .i64 a2_0, .int .i64 a2_1, .int .i64 a2_2, .bool a2_3, .bool a2_4, .bool true]) (t := 25) ?hr ?_; (case hd => rfl); (case hg => rfl); (case hr => first | (go_simp; done) | (go_simp; rfl)); intro gb164 hg w10 hbox hb; have n0_ := Aside0.mk (below_step bel_ hb); have n1_ := Aside0.mk (hbox); have n2_ := Aside0.mk ((by rw [hg]; exact (below_size bel_) : w.heap.size ≤ gb164)); have n3_ := Aside0.mk ((by rw [hg]; exact (below_size bel_) : w.heap.size ≤ gb164)); clear HB; have HB := n0_; have BK164 := n1_; have GW164 := n2_; have GE164 := n3_; clear n0_ n1_ n2_ n3_; clear hb hbox hg) | ((with_reducible refine gate_callee (f := 29) rfl ?_); refine goesL_ (some 10) rfl rfl Try.func29 (by kernel_rfl) rfl #[.slice A0 l0.length c0, .int .i64 a1] rfl margs_ ?_; (with_reducible refine (limelightref05_Of.calls k _ _ l0 a1 t165 _ ?side1 ?side2 A4.out).mono ?_); (case side1 => exact kcb_ ((Kd.C_below HR0.out HB.out))); (case side2 => exact HC0.out); rintro e w11 ⟨rfl, hb⟩; refine ⟨_, rfl, ?_⟩; have n0_ := Aside0.mk (blk_below (g := gb164) (o := .cells #[.int .i64 a2_0, .int .i64 a2_1, .int .i64 a2_2, .bool a2_3, .bool a2_4, .bool true] 25 (0, 0)) (blkx_ BK164.out) hb); have n1_ := Aside0.mk (below_step (belg_ GE164.out) hb); clear BK164; clear HB; have BK164 := n0_; have HB := n1_; clear n0_ n1_; (try clear hb); (try clear hb2); (try clear hk); (try clear hi); have p166 : 0 ≤ (a1 : Int) := of_decide_eq_true asm_; have q166 : a1 < (l0.length : Int) := of_decide_eq_true asm_; obtain ⟨ad166, A166_3, c166_3, A166_6, c166_6, e166, hx166_0, hx166_1, hx166_2, hx166_3, hx166_4, hx166_5, hx166_6, hl166_3, hi166_3, hl166_6, hi166_6⟩ := at_T53 HR0.out a1 p166 q166; cases e166; replace hx166_0 := (HB.out.cell (World.block_lt_of_cell? w _ hx166_0)).trans hx166_0; replace hx166_1 := (HB.out.cell (World.block_lt_of_cell? w _ hx166_1)).trans hx166_1; replace hx166_2 := (HB.out.cell (World.block_lt_of_cell? w _ hx166_2)).trans hx166_2; replace hx166_3 := (HB.out.cell (World.block_lt_of_cell? w _ hx166_3)).trans hx166_3; replace hx166_4 := (HB.out.cell (World.block_lt_of_cell? w _ hx166_4)).trans hx166_4; replace hx166_5 := (HB.out.cell (World.block_lt_of_cell? w _ hx166_5)).trans hx166_5; replace hx166_6 := (HB.out.cell (World.block_lt_of_cell? w _ hx166_6)).trans hx166_6; have HR166_3 := Aside0.mk hi166_3; have HC166_3 := Aside0.mk hl166_3; clear hi166_3 hl166_3; have HR166_6 := Aside0.mk hi166_6; have HC166_6 := Aside0.mk hl166_6; clear hi166_6 hl166_6; replace p166 := eq_true p166; replace q166 := eq_true q166; have hcz12_0 : w11.cell? ⟨gb164, 0, none⟩ = some (.int .i64 a2_0) := (blk_cell BK164.out 0).trans rfl; have hcz12_1 : w11.cell? ⟨gb164, 1, none⟩ = some (.int .i64 a2_1) := (blk_cell BK164.out 1).trans rfl; have hcz12_2 : w11.cell? ⟨gb164, 2, none⟩ = some (.int .i64 a2_2) := (blk_cell BK164.out 2).trans rfl; have hcz12_3 : w11.cell? ⟨gb164, 3, none⟩ = some (.bool a2_3) := (blk_cell BK164.out 3).trans rfl; have hcz12_4 : w11.cell? ⟨gb164, 4, none⟩ = some (.bool a2_4) := (blk_cell BK164.out 4).trans rfl; have hcz12_5 : w11.cell? ⟨gb164, 5, none⟩ = some (.bool true) := (blk_cell BK164.out 5).trans rfl; have hfz12_0 := blk_frozen BK164.out 0; have hfz12_1 := blk_frozen BK164.out 1; have hfz12_2 := blk_frozen BK164.out 2; have hfz12_3 := blk_frozen BK164.out 3; have hfz12_4 := blk_frozen BK164.out 4; have hfz12_5 := blk_frozen BK164.out 5; have p167 : 0 ≤ (a1 : Int) := of_decide_eq_true asm_; have q167 : a1 < (l0.length : Int) := of_decide_eq_true asm_; obtain ⟨ad167, A167_3, c167_3, A167_6, c167_6, e167, hx167_0, hx167_1, hx167_2, hx167_3, hx167_4, hx167_5, hx167_6, hl167_3, hi167_3, hl167_6, hi167_6⟩ := at_T53 HR0.out a1 p167 q167; obtain rfl : ad166 = ad167 := (by injection e167); replace hx167_0 := (HB.out.cell (World.block_lt_of_cell? w _ hx167_0)).trans hx167_0; replace hx167_1 := (HB.out.cell (World.block_lt_of_cell? w _ hx167_1)).trans hx167_1; replace hx167_2 := (HB.out.cell (World.block_lt_of_cell? w _ hx167_2)).trans hx167_2; replace hx167_3 := (HB.out.cell (World.block_lt_of_cell? w _ hx167_3)).trans hx167_3; replace hx167_4 := (HB.out.cell (World.block_lt_of_cell? w _ hx167_4)).trans hx167_4; replace hx167_5 := (HB.out.cell (World.block_lt_of_cell? w _ hx167_5)).trans hx167_5; replace hx167_6 := (HB.out.cell (World.block_lt_of_cell? w _ hx167_6)).trans hx167_6; have HR167_3 := Aside0.mk hi167_3; have HC167_3 := Aside0.mk hl167_3; clear hi167_3 hl167_3; have HR167_6 := Aside0.mk hi167_6; have HC167_6 := Aside0.mk hl167_6; clear hi167_6 hl167_6; replace p167 := eq_true p167; replace q167 := eq_true q167; have ea_ := Option.some.inj (hx166_3.symm.trans hx167_3); injection ea_ with ea_ en_ ec_; subst ea_; subst ec_; clear en_; have ea_ := Option.some.inj (hx166_6.symm.trans hx167_6); injection ea_ with ea_ en_ ec_; subst ea_; subst ec_; clear en_))
      go_ret
      exact ⟨by first | rfl | (simp [errW_none, errW_some] <;> rfl) | (simp [*, errW_none, errW_some] <;> rfl), belg_ GE164.out⟩
     ·replace c9 := Bool.eq_false_iff.mpr c9
      subst c9
      have H1 : ((limelightref03_Top.f k l0 a2_1).bind fun t168 => (if t168 = a1 then (some (-1)) else (some ((rd_T53 l0 a1).f4)))) = some r := by rw [if_neg (show ¬ (false = true) by decide)] at H; exact H
      clear H
      have H := H1
      clear H1
      replace H := Option.bind_eq_some_iff.mp H
      obtain ⟨t168, A130, H⟩ := H
      replace H : (if t168 = a1 then (some (-1)) else (some ((rd_T53 l0 a1).f4))) = some r := H
      have A13 := Aside0.mk A130
      clear A130
      by_cases c14 : t168 = a1
      ·rw [if_pos c14] at H
       have c14b0 : (t168 == a1) = true := beq_iff_eq.mpr c14
       have c14b1 : (t168 != a1) = false := bne_eq_false_iff_eq.mpr c14
       clear c14
       obtain rfl := Option.some.inj H
       go_enter Try.func15, Try.ntmps15
       go_wp2_with (first | ((with_reducible refine gate_dst (N := 5) rfl ?_); refine box_event ?hg (N := 5) ?hd (cs := #[.int .i64 a2_0, .int .i64 a2_1, .int .i64 a2_2, .bool a2_3, .bool a2_4, .bool false]) (t := 25) ?hr ?_; (case hd => rfl); (case hg => rfl); (case hr => first | (go_simp; done) | (go_simp; rfl)); intro gb164 hg w15 hbox hb; have n0_ := Aside0.mk (below_step bel_ hb); have n1_ := Aside0.mk (hbox); have n2_ := Aside0.mk ((by rw [hg]; exact (below_size bel_) : w.heap.size ≤ gb164)); have n3_ := Aside0.mk ((by rw [hg]; exact (below_size bel_) : w.heap.size ≤ gb164)); clear HB; have HB := n0_; have BK164 := n1_; have GW164 := n2_; have GE164 := n3_; clear n0_ n1_ n2_ n3_; clear hb hbox hg) | ((with_reducible refine gate_callee (f := 29) rfl ?_); refine goesL_ (some 10) rfl rfl Try.func29 (by kernel_rfl) rfl #[.slice A0 l0.length c0, .int .i64 a1] rfl margs_ ?_; (with_reducible refine (limelightref05_Of.calls k _ _ l0 a1 t165 _ ?side1 ?side2 A4.out).mono ?_); (case side1 => exact kcb_ ((Kd.C_below HR0.out HB.out))); (case side2 => exact HC0.out); rintro e w16 ⟨rfl, hb⟩; refine ⟨_, rfl, ?_⟩; have n0_ := Aside0.mk (blk_below (g := gb164) (o := .cells #[.int .i64 a2_0, .int .i64 a2_1, .int .i64 a2_2, .bool a2_3, .bool a2_4, .bool false] 25 (0, 0)) (blkx_ BK164.out) hb); have n1_ := Aside0.mk (below_step (belg_ GE164.out) hb); clear BK164; clear HB; have BK164 := n0_; have HB := n1_; clear n0_ n1_; (try clear hb); (try clear hb2); (try clear hk); (try clear hi); have p166 : 0 ≤ (a1 : Int) := of_decide_eq_true asm_; have q166 : a1 < (l0.length : Int) := of_decide_eq_true asm_; obtain ⟨ad166, A166_3, c166_3, A166_6, c166_6, e166, hx166_0, hx166_1, hx166_2, hx166_3, hx166_4, hx166_5, hx166_6, hl166_3, hi166_3, hl166_6, hi166_6⟩ := at_T53 HR0.out a1 p166 q166; cases e166; replace hx166_0 := (HB.out.cell (World.block_lt_of_cell? w _ hx166_0)).trans hx166_0; replace hx166_1 := (HB.out.cell (World.block_lt_of_cell? w _ hx166_1)).trans hx166_1; replace hx166_2 := (HB.out.cell (World.block_lt_of_cell? w _ hx166_2)).trans hx166_2; replace hx166_3 := (HB.out.cell (World.block_lt_of_cell? w _ hx166_3)).trans hx166_3; replace hx166_4 := (HB.out.cell (World.block_lt_of_cell? w _ hx166_4)).trans hx166_4; replace hx166_5 := (HB.out.cell (World.block_lt_of_cell? w _ hx166_5)).trans hx166_5; replace hx166_6 := (HB.out.cell (World.block_lt_of_cell? w _ hx166_6)).trans hx166_6; have HR166_3 := Aside0.mk hi166_3; have HC166_3 := Aside0.mk hl166_3; clear hi166_3 hl166_3; have HR166_6 := Aside0.mk hi166_6; have HC166_6 := Aside0.mk hl166_6; clear hi166_6 hl166_6; replace p166 := eq_true p166; replace q166 := eq_true q166; have hcz17_0 : w16.cell? ⟨gb164, 0, none⟩ = some (.int .i64 a2_0) := (blk_cell BK164.out 0).trans rfl; have hcz17_1 : w16.cell? ⟨gb164, 1, none⟩ = some (.int .i64 a2_1) := (blk_cell BK164.out 1).trans rfl; have hcz17_2 : w16.cell? ⟨gb164, 2, none⟩ = some (.int .i64 a2_2) := (blk_cell BK164.out 2).trans rfl; have hcz17_3 : w16.cell? ⟨gb164, 3, none⟩ = some (.bool a2_3) := (blk_cell BK164.out 3).trans rfl; have hcz17_4 : w16.cell? ⟨gb164, 4, none⟩ = some (.bool a2_4) := (blk_cell BK164.out 4).trans rfl; have hcz17_5 : w16.cell? ⟨gb164, 5, none⟩ = some (.bool false) := (blk_cell BK164.out 5).trans rfl; have hfz17_0 := blk_frozen BK164.out 0; have hfz17_1 := blk_frozen BK164.out 1; have hfz17_2 := blk_frozen BK164.out 2; have hfz17_3 := blk_frozen BK164.out 3; have hfz17_4 := blk_frozen BK164.out 4; have hfz17_5 := blk_frozen BK164.out 5) | (go_at_call 20; (with_reducible refine (limelightref03_Top.calls k _ _ l0 a2_1 t168 _ ?side1 ?side2 A13.out).mono ?_); (case side1 => exact kcb_ ((Kd.C_below HR0.out HB.out))); (case side2 => exact HC0.out); rintro e w18 ⟨rfl, hb⟩; have n0_ := Aside0.mk (blk_below (g := gb164) (o := .cells #[.int .i64 a2_0, .int .i64 a2_1, .int .i64 a2_2, .bool a2_3, .bool a2_4, .bool false] 25 (0, 0)) (blkx_ BK164.out) hb); have n1_ := Aside0.mk (below_step (belg_ GE164.out) hb); clear BK164; clear HB; have BK164 := n0_; have HB := n1_; clear n0_ n1_; (try clear hb); (try clear hb2); (try clear hk); (try clear hi)))
       go_ret
       exact ⟨by first | rfl | (simp [errW_none, errW_some] <;> rfl) | (simp [*, errW_none, errW_some] <;> rfl), belg_ GE164.out⟩
      ·rw [if_neg c14] at H
       have c14b0 : (t168 == a1) = false := beq_eq_false_iff_ne.mpr c14
       have c14b1 : (t168 != a1) = true := bne_iff_ne.mpr c14
       obtain rfl := Option.some.inj H
       go_enter Try.func15, Try.ntmps15
       go_wp2_with (first | ((with_reducible refine gate_dst (N := 5) rfl ?_); refine box_event ?hg (N := 5) ?hd (cs := #[.int .i64 a2_0, .int .i64 a2_1, .int .i64 a2_2, .bool a2_3, .bool a2_4, .bool false]) (t := 25) ?hr ?_; (case hd => rfl); (case hg => rfl); (case hr => first | (go_simp; done) | (go_simp; rfl)); intro gb164 hg w19 hbox hb; have n0_ := Aside0.mk (below_step bel_ hb); have n1_ := Aside0.mk (hbox); have n2_ := Aside0.mk ((by rw [hg]; exact (below_size bel_) : w.heap.size ≤ gb164)); have n3_ := Aside0.mk ((by rw [hg]; exact (below_size bel_) : w.heap.size ≤ gb164)); clear HB; have HB := n0_; have BK164 := n1_; have GW164 := n2_; have GE164 := n3_; clear n0_ n1_ n2_ n3_; clear hb hbox hg) | ((with_reducible refine gate_callee (f := 29) rfl ?_); refine goesL_ (some 10) rfl rfl Try.func29 (by kernel_rfl) rfl #[.slice A0 l0.length c0, .int .i64 a1] rfl margs_ ?_; (with_reducible refine (limelightref05_Of.calls k _ _ l0 a1 t165 _ ?side1 ?side2 A4.out).mono ?_); (case side1 => exact kcb_ ((Kd.C_below HR0.out HB.out))); (case side2 => exact HC0.out); rintro e w20 ⟨rfl, hb⟩; refine ⟨_, rfl, ?_⟩; have n0_ := Aside0.mk (blk_below (g := gb164) (o := .cells #[.int .i64 a2_0, .int .i64 a2_1, .int .i64 a2_2, .bool a2_3, .bool a2_4, .bool false] 25 (0, 0)) (blkx_ BK164.out) hb); have n1_ := Aside0.mk (below_step (belg_ GE164.out) hb); clear BK164; clear HB; have BK164 := n0_; have HB := n1_; clear n0_ n1_; (try clear hb); (try clear hb2); (try clear hk); (try clear hi); have p166 : 0 ≤ (a1 : Int) := of_decide_eq_true asm_; have q166 : a1 < (l0.length : Int) := of_decide_eq_true asm_; obtain ⟨ad166, A166_3, c166_3, A166_6, c166_6, e166, hx166_0, hx166_1, hx166_2, hx166_3, hx166_4, hx166_5, hx166_6, hl166_3, hi166_3, hl166_6, hi166_6⟩ := at_T53 HR0.out a1 p166 q166; cases e166; replace hx166_0 := (HB.out.cell (World.block_lt_of_cell? w _ hx166_0)).trans hx166_0; replace hx166_1 := (HB.out.cell (World.block_lt_of_cell? w _ hx166_1)).trans hx166_1; replace hx166_2 := (HB.out.cell (World.block_lt_of_cell? w _ hx166_2)).trans hx166_2; replace hx166_3 := (HB.out.cell (World.block_lt_of_cell? w _ hx166_3)).trans hx166_3; replace hx166_4 := (HB.out.cell (World.block_lt_of_cell? w _ hx166_4)).trans hx166_4; replace hx166_5 := (HB.out.cell (World.block_lt_of_cell? w _ hx166_5)).trans hx166_5; replace hx166_6 := (HB.out.cell (World.block_lt_of_cell? w _ hx166_6)).trans hx166_6; have HR166_3 := Aside0.mk hi166_3; have HC166_3 := Aside0.mk hl166_3; clear hi166_3 hl166_3; have HR166_6 := Aside0.mk hi166_6; have HC166_6 := Aside0.mk hl166_6; clear hi166_6 hl166_6; replace p166 := eq_true p166; replace q166 := eq_true q166; have hcz21_0 : w20.cell? ⟨gb164, 0, none⟩ = some (.int .i64 a2_0) := (blk_cell BK164.out 0).trans rfl; have hcz21_1 : w20.cell? ⟨gb164, 1, none⟩ = some (.int .i64 a2_1) := (blk_cell BK164.out 1).trans rfl; have hcz21_2 : w20.cell? ⟨gb164, 2, none⟩ = some (.int .i64 a2_2) := (blk_cell BK164.out 2).trans rfl; have hcz21_3 : w20.cell? ⟨gb164, 3, none⟩ = some (.bool a2_3) := (blk_cell BK164.out 3).trans rfl; have hcz21_4 : w20.cell? ⟨gb164, 4, none⟩ = some (.bool a2_4) := (blk_cell BK164.out 4).trans rfl; have hcz21_5 : w20.cell? ⟨gb164, 5, none⟩ = some (.bool false) := (blk_cell BK164.out 5).trans rfl; have hfz21_0 := blk_frozen BK164.out 0; have hfz21_1 := blk_frozen BK164.out 1; have hfz21_2 := blk_frozen BK164.out 2; have hfz21_3 := blk_frozen BK164.out 3; have hfz21_4 := blk_frozen BK164.out 4; have hfz21_5 := blk_frozen BK164.out 5) | (go_at_call 20; (with_reducible refine (limelightref03_Top.calls k _ _ l0 a2_1 t168 _ ?side1 ?side2 A13.out).mono ?_); (case side1 => exact kcb_ ((Kd.C_below HR0.out HB.out))); (case side2 => exact HC0.out); rintro e w22 ⟨rfl, hb⟩; have n0_ := Aside0.mk (blk_below (g := gb164) (o := .cells #[.int .i64 a2_0, .int .i64 a2_1, .int .i64 a2_2, .bool a2_3, .bool a2_4, .bool false] 25 (0, 0)) (blkx_ BK164.out) hb); have n1_ := Aside0.mk (below_step (belg_ GE164.out) hb); clear BK164; clear HB; have BK164 := n0_; have HB := n1_; clear n0_ n1_; (try clear hb); (try clear hb2); (try clear hk); (try clear hi); have p169 : 0 ≤ (a1 : Int) := of_decide_eq_true asm_; have q169 : a1 < (l0.length : Int) := of_decide_eq_true asm_; obtain ⟨ad169, A169_3, c169_3, A169_6, c169_6, e169, hx169_0, hx169_1, hx169_2, hx169_3, hx169_4, hx169_5, hx169_6, hl169_3, hi169_3, hl169_6, hi169_6⟩ := at_T53 HR0.out a1 p169 q169; obtain rfl : ad166 = ad169 := (by injection e169); replace hx169_0 := (HB.out.cell (World.block_lt_of_cell? w _ hx169_0)).trans hx169_0; replace hx169_1 := (HB.out.cell (World.block_lt_of_cell? w _ hx169_1)).trans hx169_1; replace hx169_2 := (HB.out.cell (World.block_lt_of_cell? w _ hx169_2)).trans hx169_2; replace hx169_3 := (HB.out.cell (World.block_lt_of_cell? w _ hx169_3)).trans hx169_3; replace hx169_4 := (HB.out.cell (World.block_lt_of_cell? w _ hx169_4)).trans hx169_4; replace hx169_5 := (HB.out.cell (World.block_lt_of_cell? w _ hx169_5)).trans hx169_5; replace hx169_6 := (HB.out.cell (World.block_lt_of_cell? w _ hx169_6)).trans hx169_6; have HR169_3 := Aside0.mk hi169_3; have HC169_3 := Aside0.mk hl169_3; clear hi169_3 hl169_3; have HR169_6 := Aside0.mk hi169_6; have HC169_6 := Aside0.mk hl169_6; clear hi169_6 hl169_6; replace p169 := eq_true p169; replace q169 := eq_true q169))
       go_ret
       exact ⟨by first | rfl | (simp [errW_none, errW_some] <;> rfl) | (simp [*, errW_none, errW_some] <;> rfl), belg_ GE164.out⟩
    ·rw [if_neg c8] at H
     have c8b0 : (((rd_T53 l0 a1).f0) == 3) = false := beq_eq_false_iff_ne.mpr c8
     have c8b1 : (((rd_T53 l0 a1).f0) != 3) = true := bne_iff_ne.mpr c8
     obtain rfl := Option.some.inj H
     go_enter Try.func15, Try.ntmps15
     go_wp2_with (first | ((with_reducible refine gate_dst (N := 5) rfl ?_); refine box_event ?hg (N := 5) ?hd (cs := #[.int .i64 a2_0, .int .i64 a2_1, .int .i64 a2_2, .bool a2_3, .bool a2_4, .bool a2_5]) (t := 25) ?hr ?_; (case hd => rfl); (case hg => rfl); (case hr => first | (go_simp; done) | (go_simp; rfl)); intro gb164 hg w23 hbox hb; have n0_ := Aside0.mk (below_step bel_ hb); have n1_ := Aside0.mk (hbox); have n2_ := Aside0.mk ((by rw [hg]; exact (below_size bel_) : w.heap.size ≤ gb164)); have n3_ := Aside0.mk ((by rw [hg]; exact (below_size bel_) : w.heap.size ≤ gb164)); clear HB; have HB := n0_; have BK164 := n1_; have GW164 := n2_; have GE164 := n3_; clear n0_ n1_ n2_ n3_; clear hb hbox hg) | ((with_reducible refine gate_callee (f := 29) rfl ?_); refine goesL_ (some 10) rfl rfl Try.func29 (by kernel_rfl) rfl #[.slice A0 l0.length c0, .int .i64 a1] rfl margs_ ?_; (with_reducible refine (limelightref05_Of.calls k _ _ l0 a1 t165 _ ?side1 ?side2 A4.out).mono ?_); (case side1 => exact kcb_ ((Kd.C_below HR0.out HB.out))); (case side2 => exact HC0.out); rintro e w24 ⟨rfl, hb⟩; refine ⟨_, rfl, ?_⟩; have n0_ := Aside0.mk (blk_below (g := gb164) (o := .cells #[.int .i64 a2_0, .int .i64 a2_1, .int .i64 a2_2, .bool a2_3, .bool a2_4, .bool a2_5] 25 (0, 0)) (blkx_ BK164.out) hb); have n1_ := Aside0.mk (below_step (belg_ GE164.out) hb); clear BK164; clear HB; have BK164 := n0_; have HB := n1_; clear n0_ n1_; (try clear hb); (try clear hb2); (try clear hk); (try clear hi); have p166 : 0 ≤ (a1 : Int) := of_decide_eq_true asm_; have q166 : a1 < (l0.length : Int) := of_decide_eq_true asm_; obtain ⟨ad166, A166_3, c166_3, A166_6, c166_6, e166, hx166_0, hx166_1, hx166_2, hx166_3, hx166_4, hx166_5, hx166_6, hl166_3, hi166_3, hl166_6, hi166_6⟩ := at_T53 HR0.out a1 p166 q166; cases e166; replace hx166_0 := (HB.out.cell (World.block_lt_of_cell? w _ hx166_0)).trans hx166_0; replace hx166_1 := (HB.out.cell (World.block_lt_of_cell? w _ hx166_1)).trans hx166_1; replace hx166_2 := (HB.out.cell (World.block_lt_of_cell? w _ hx166_2)).trans hx166_2; replace hx166_3 := (HB.out.cell (World.block_lt_of_cell? w _ hx166_3)).trans hx166_3; replace hx166_4 := (HB.out.cell (World.block_lt_of_cell? w _ hx166_4)).trans hx166_4; replace hx166_5 := (HB.out.cell (World.block_lt_of_cell? w _ hx166_5)).trans hx166_5; replace hx166_6 := (HB.out.cell (World.block_lt_of_cell? w _ hx166_6)).trans hx166_6; have HR166_3 := Aside0.mk hi166_3; have HC166_3 := Aside0.mk hl166_3; clear hi166_3 hl166_3; have HR166_6 := Aside0.mk hi166_6; have HC166_6 := Aside0.mk hl166_6; clear hi166_6 hl166_6; replace p166 := eq_true p166; replace q166 := eq_true q166; have p170 : 0 ≤ (a1 : Int) := of_decide_eq_true asm_; have q170 : a1 < (l0.length : Int) := of_decide_eq_true asm_; obtain ⟨ad170, A170_3, c170_3, A170_6, c170_6, e170, hx170_0, hx170_1, hx170_2, hx170_3, hx170_4, hx170_5, hx170_6, hl170_3, hi170_3, hl170_6, hi170_6⟩ := at_T53 HR0.out a1 p170 q170; obtain rfl : ad166 = ad170 := (by injection e170); replace hx170_0 := (HB.out.cell (World.block_lt_of_cell? w _ hx170_0)).trans hx170_0; replace hx170_1 := (HB.out.cell (World.block_lt_of_cell? w _ hx170_1)).trans hx170_1; replace hx170_2 := (HB.out.cell (World.block_lt_of_cell? w _ hx170_2)).trans hx170_2; replace hx170_3 := (HB.out.cell (World.block_lt_of_cell? w _ hx170_3)).trans hx170_3; replace hx170_4 := (HB.out.cell (World.block_lt_of_cell? w _ hx170_4)).trans hx170_4; replace hx170_5 := (HB.out.cell (World.block_lt_of_cell? w _ hx170_5)).trans hx170_5; replace hx170_6 := (HB.out.cell (World.block_lt_of_cell? w _ hx170_6)).trans hx170_6; have HR170_3 := Aside0.mk hi170_3; have HC170_3 := Aside0.mk hl170_3; clear hi170_3 hl170_3; have HR170_6 := Aside0.mk hi170_6; have HC170_6 := Aside0.mk hl170_6; clear hi170_6 hl170_6; replace p170 := eq_true p170; replace q170 := eq_true q170; have ea_ := Option.some.inj (hx166_3.symm.trans hx170_3); injection ea_ with ea_ en_ ec_; subst ea_; subst ec_; clear en_; have ea_ := Option.some.inj (hx166_6.symm.trans hx170_6); injection ea_ with ea_ en_ ec_; subst ea_; subst ec_; clear en_))
     go_ret
     exact ⟨by first | rfl | (simp [errW_none, errW_some] <;> rfl) | (simp [*, errW_none, errW_some] <;> rfl), belg_ GE164.out⟩
   ·rw [if_neg c7] at H
    exact absurd H (by simp)
  ·rw [if_neg c6] at H
   exact absurd H (by simp)
 ·rw [if_neg c5] at H
  have c5b0 : (t165 == (-1)) = false := beq_eq_false_iff_ne.mpr c5
  have c5b1 : (t165 != (-1)) = true := bne_iff_ne.mpr c5
  obtain rfl := Option.some.inj H
  go_enter Try.func15, Try.ntmps15
  go_wp2_with (first | ((with_reducible refine gate_dst (N := 5) rfl ?_); refine box_event ?hg (N := 5) ?hd (cs := #[.int .i64 a2_0, .int .i64 a2_1, .int .i64 a2_2, .bool a2_3, .bool a2_4, .bool a2_5]) (t := 25) ?hr ?_; (case hd => rfl); (case hg => rfl); (case hr => first | (go_simp; done) | (go_simp; rfl)); intro gb164 hg w25 hbox hb; have n0_ := Aside0.mk (below_step bel_ hb); have n1_ := Aside0.mk (hbox); have n2_ := Aside0.mk ((by rw [hg]; exact (below_size bel_) : w.heap.size ≤ gb164)); have n3_ := Aside0.mk ((by rw [hg]; exact (below_size bel_) : w.heap.size ≤ gb164)); clear HB; have HB := n0_; have BK164 := n1_; have GW164 := n2_; have GE164 := n3_; clear n0_ n1_ n2_ n3_; clear hb hbox hg) | ((with_reducible refine gate_callee (f := 29) rfl ?_); refine goesL_ (some 10) rfl rfl Try.func29 (by kernel_rfl) rfl #[.slice A0 l0.length c0, .int .i64 a1] rfl margs_ ?_; (with_reducible refine (limelightref05_Of.calls k _ _ l0 a1 t165 _ ?side1 ?side2 A4.out).mono ?_); (case side1 => exact kcb_ ((Kd.C_below HR0.out HB.out))); (case side2 => exact HC0.out); rintro e w26 ⟨rfl, hb⟩; refine ⟨_, rfl, ?_⟩; have n0_ := Aside0.mk (blk_below (g := gb164) (o := .cells #[.int .i64 a2_0, .int .i64 a2_1, .int .i64 a2_2, .bool a2_3, .bool a2_4, .bool a2_5] 25 (0, 0)) (blkx_ BK164.out) hb); have n1_ := Aside0.mk (below_step (belg_ GE164.out) hb); clear BK164; clear HB; have BK164 := n0_; have HB := n1_; clear n0_ n1_; (try clear hb); (try clear hb2); (try clear hk); (try clear hi)))
  go_ret
  exact ⟨by first | rfl | (simp [errW_none, errW_some] <;> rfl) | (simp [*, errW_none, errW_some] <;> rfl), belg_ GE164.out⟩

/-! ### limelightref01_Up: function 57 -/
def limelightref01_Up.f (l0 : List (S53)) (a1 : Int) : Option (Int) := if 0 ≤ a1 then (if a1 < (l0.length : Int) then (if ((rd_T53 l0 a1).f0) = 3 then (some ((rd_T53 l0 a1).f4)) else (some ((rd_T53 l0 a1).f2))) else (none)) else (none)
set_option maxHeartbeats 8000000 in
set_option maxRecDepth 100000 in
theorem limelightref01_Up.calls (A0 : Option Addr) (c0 : Nat) (l0 : List (S53)) (a1 : Int) (r : Int) (w : World) (hr0 : Kd.C k53 w A0 l0.length l0) (hc0 : l0.length ≤ c0) (h : limelightref01_Up.f l0 a1 = some r) :
  Calls Try.prog 57 #[.slice A0 l0.length c0, .int .i64 a1] w fun e w' => e = .returned (.int .i64 r) ∧ Drawn0 w w' := by
 have HR0 := Aside0.mk hr0
 have HC0 := Aside0.mk hc0
 clear hr0 hc0
 have H : (if 0 ≤ a1 then (if a1 < (l0.length : Int) then (if ((rd_T53 l0 a1).f0) = 3 then (some ((rd_T53 l0 a1).f4)) else (some ((rd_T53 l0 a1).f2))) else (none)) else (none)) = some r := h
 clear h
 by_cases c3 : 0 ≤ a1
 ·rw [if_pos c3] at H
  have c3b0 : decide (0 ≤ a1) = true := decide_eq_true c3
  clear c3
  by_cases c4 : a1 < (l0.length : Int)
  ·rw [if_pos c4] at H
   have c4b0 : decide (a1 < (l0.length : Int)) = true := decide_eq_true c4
   clear c4
   by_cases c5 : ((rd_T53 l0 a1).f0) = 3
   ·rw [if_pos c5] at H
    have c5b0 : (((rd_T53 l0 a1).f0) == 3) = true := beq_iff_eq.mpr c5
    have c5b1 : (((rd_T53 l0 a1).f0) != 3) = false := bne_eq_false_iff_eq.mpr c5
    clear c5
    obtain rfl := Option.some.inj H
    have p171 : 0 ≤ (a1 : Int) := of_decide_eq_true asm_
    have q171 : a1 < (l0.length : Int) := of_decide_eq_true asm_
    obtain ⟨ad171, A171_3, c171_3, A171_6, c171_6, e171, hx171_0, hx171_1, hx171_2, hx171_3, hx171_4, hx171_5, hx171_6, hl171_3, hi171_3, hl171_6, hi171_6⟩ := at_T53 HR0.out a1 p171 q171
    cases e171
    have HR171_3 := Aside0.mk hi171_3
    have HC171_3 := Aside0.mk hl171_3
    clear hi171_3 hl171_3
    have HR171_6 := Aside0.mk hi171_6
    have HC171_6 := Aside0.mk hl171_6
    clear hi171_6 hl171_6
    replace p171 := eq_true p171
    replace q171 := eq_true q171
    have p172 : 0 ≤ (a1 : Int) := of_decide_eq_true asm_
    have q172 : a1 < (l0.length : Int) := of_decide_eq_true asm_
    obtain ⟨ad172, A172_3, c172_3, A172_6, c172_6, e172, hx172_0, hx172_1, hx172_2, hx172_3, hx172_4, hx172_5, hx172_6, hl172_3, hi172_3, hl172_6, hi172_6⟩ := at_T53 HR0.out a1 p172 q172
    obtain rfl : ad171 = ad172 := (by injection e172)
    have HR172_3 := Aside0.mk hi172_3
    have HC172_3 := Aside0.mk hl172_3
    clear hi172_3 hl172_3
    have HR172_6 := Aside0.mk hi172_6
    have HC172_6 := Aside0.mk hl172_6
    clear hi172_6 hl172_6
    replace p172 := eq_true p172
    replace q172 := eq_true q172
    have ea_ := Option.some.inj (hx171_3.symm.trans hx172_3)
    injection ea_ with ea_ en_ ec_
    subst ea_
    subst ec_
    clear en_
    have ea_ := Option.some.inj (hx171_6.symm.trans hx172_6)
    injection ea_ with ea_ en_ ec_
    subst ea_
    subst ec_
    clear en_
    go_enter Try.func57, Try.ntmps57
    go_wp2
    go_ret
    exact ⟨by first | rfl | (simp; done) | (simp [*]; done), by repeat (first | exact Drawn0.refl _ | apply Drawn0.step)⟩
   ·rw [if_neg c5] at H
    have c5b0 : (((rd_T53 l0 a1).f0) == 3) = false := beq_eq_false_iff_ne.mpr c5
    have c5b1 : (((rd_T53 l0 a1).f0) != 3) = true := bne_iff_ne.mpr c5
    obtain rfl := Option.some.inj H
    have p171 : 0 ≤ (a1 : Int) := of_decide_eq_true asm_
    have q171 : a1 < (l0.length : Int) := of_decide_eq_true asm_
    obtain ⟨ad171, A171_3, c171_3, A171_6, c171_6, e171, hx171_0, hx171_1, hx171_2, hx171_3, hx171_4, hx171_5, hx171_6, hl171_3, hi171_3, hl171_6, hi171_6⟩ := at_T53 HR0.out a1 p171 q171
    cases e171
    have HR171_3 := Aside0.mk hi171_3
    have HC171_3 := Aside0.mk hl171_3
    clear hi171_3 hl171_3
    have HR171_6 := Aside0.mk hi171_6
    have HC171_6 := Aside0.mk hl171_6
    clear hi171_6 hl171_6
    replace p171 := eq_true p171
    replace q171 := eq_true q171
    have p173 : 0 ≤ (a1 : Int) := of_decide_eq_true asm_
    have q173 : a1 < (l0.length : Int) := of_decide_eq_true asm_
    obtain ⟨ad173, A173_3, c173_3, A173_6, c173_6, e173, hx173_0, hx173_1, hx173_2, hx173_3, hx173_4, hx173_5, hx173_6, hl173_3, hi173_3, hl173_6, hi173_6⟩ := at_T53 HR0.out a1 p173 q173
    obtain rfl : ad171 = ad173 := (by injection e173)
    have HR173_3 := Aside0.mk hi173_3
    have HC173_3 := Aside0.mk hl173_3
    clear hi173_3 hl173_3
    have HR173_6 := Aside0.mk hi173_6
    have HC173_6 := Aside0.mk hl173_6
    clear hi173_6 hl173_6
    replace p173 := eq_true p173
    replace q173 := eq_true q173
    have ea_ := Option.some.inj (hx171_3.symm.trans hx173_3)
    injection ea_ with ea_ en_ ec_
    subst ea_
    subst ec_
    clear en_
    have ea_ := Option.some.inj (hx171_6.symm.trans hx173_6)
    injection ea_ with ea_ en_ ec_
    subst ea_
    subst ec_
    clear en_
    go_enter Try.func57, Try.ntmps57
    go_wp2
    go_ret
    exact ⟨by first | rfl | (simp; done) | (simp [*]; done), by repeat (first | exact Drawn0.refl _ | apply Drawn0.step)⟩
  ·rw [if_neg c4] at H
   exact absurd H (by simp)
 ·rw [if_neg c3] at H
  exact absurd H (by simp)

/-! ### limelightref04_Up: function 34 -/
def limelightref04_Up.l0 : Nat → List (S53) → Int → List Int → Option (List Int)
 | 0, _, _, _ => none
 | k + 1, x0, x1, x5 => if x1 = (-1) then (some x5) else (if x5.length < 17592186044416 then ((limelightref01_Up.f x0 x1).bind fun t177 => (limelightref04_Up.l0 k x0 t177 (x5 ++ [x1]))) else (none))
def limelightref04_Up.f (k : Nat) (l0 : List (S53)) (a1 : Int) : Option (List Int) := limelightref04_Up.l0 k l0 a1 ([] : List Int)
theorem limelightref04_Up.mono_l : ∀ k, (∀ y0 y1 y2, LeO (limelightref04_Up.l0 k y0 y1 y2) (limelightref04_Up.l0 (k + 1) y0 y1 y2))
 | 0 => fun _ _ _ r h => by simp [limelightref04_Up.l0] at h
 | k + 1 => by
  have ih0 := limelightref04_Up.mono_l k
  ·intro y0 y1 y2
   unfold limelightref04_Up.l0
   repeat' first
   | (with_reducible exact ih0 _ _ _)
   | (with_reducible exact LeO.refl _)
   | (with_reducible exact LeO.none _)
   | (with_reducible refine LeO.ite ?_ ?_)
   | (with_reducible refine LeO.bind ?_ (fun _ => ?_))
   | exact ih0 _ _ _
   | exact LeO.none _
   | refine LeO.ite ?_ ?_
   | refine LeO.bind ?_ (fun _ => ?_)
theorem limelightref04_Up.mono : ∀ a0 a1 k, LeO (limelightref04_Up.f k a0 a1) (limelightref04_Up.f (k + 1) a0 a1) := by
 intro a0 a1 k
 have ih0 := limelightref04_Up.mono_l k
 unfold limelightref04_Up.f
 repeat' first
   | (with_reducible exact ih0 _ _ _)
   | (with_reducible exact LeO.refl _)
   | (with_reducible exact LeO.none _)
   | (with_reducible refine LeO.ite ?_ ?_)
   | (with_reducible refine LeO.bind ?_ (fun _ => ?_))
   | exact ih0 _ _ _
   | exact LeO.none _
   | refine LeO.ite ?_ ?_
   | refine LeO.bind ?_ (fun _ => ?_)
set_option maxHeartbeats 8000000 in
set_option maxRecDepth 100000 in
theorem limelightref04_Up.calls (k : Nat) (A0 : Option Addr) (c0 : Nat) (l0 : List (S53)) (a1 : Int) (r : List Int) (w : World) (hr0 : Kd.C k53 w A0 l0.length l0) (hc0 : l0.length ≤ c0) (h : limelightref04_Up.f k l0 a1 = some r) :
  Calls Try.prog 34 #[.slice A0 l0.length c0, .int .i64 a1] w fun e w' => ∃ v0_ : Value, e = .returned (v0_) ∧ Kd.R (Kd.int .i64) 3 w' w.heap.size (fun _ => True) v0_ r ∧ Below w.heap.size w w' := by
 have HR0 := Aside0.mk hr0
 have HC0 := Aside0.mk hc0
 clear hr0 hc0
 have HB := Aside0.mk (Below.refl w.heap.size w)
 have H : (limelightref04_Up.l0 k l0 a1 ([] : List Int)) = some r := h
 clear h
 have H' := Aside0.mk H
 clear H
 go_enter Try.func34, Try.ntmps34
 go_wp2
 go_loopg [1, 5] k (fun kq v1 v5 w' => ∃ (x1_1 : Int) (x5_1 : List Int), v1 = .int .i64 x1_1 ∧ Aside0 (limelightref04_Up.l0 kq l0 x1_1 x5_1 = some r) ∧ Aside0 (kq ≤ k) ∧ Aside0 (Kd.R (Kd.int .i64) 3 w' w.heap.size (fun _ => True) v5 x5_1) ∧ Aside0 (Below w.heap.size w w'))
 case atStart => exact ⟨(a1), (([] : List Int)), (by first | rfl | (simp; done) | (simp [*]; done)), H', ⟨Nat.le_refl _⟩, ⟨by first | exact Kd.R_nil _ _ _ _ _ | exact Kd.N_nil _ _ _ _ _ | exact Kd.V_nil _ _ _ _ _ | exact Kd.Q_nil _ _ _ _ _ | exact Kd.S_nil _ _ _ _ _⟩, ⟨bel_⟩⟩
 case round =>
  clear H'
  try clear p2
  obtain ⟨x1_1, x5_1, rfl, HA, HK1, HO_5, HB⟩ := hrel
  cases gk with
  | zero => exact absurd HA.out (by simp [limelightref04_Up.l0])
  | succ k1 =>
   have H := HA.out
   clear HA
   simp only [limelightref04_Up.l0] at H
   by_cases c3 : x1_1 = (-1)
   ·rw [if_pos c3] at H
    have c3b0 : (x1_1 == (-1)) = true := beq_iff_eq.mpr c3
    have c3b1 : (x1_1 != (-1)) = false := bne_eq_false_iff_eq.mpr c3
    clear c3
    obtain rfl := Option.some.inj H
    go_wp2
    go_ret
    exact ⟨_, by first | rfl | (simp [errW_none, errW_some] <;> rfl) | (simp [*, errW_none, errW_some] <;> rfl), kra_ HO_5.out, bel_⟩
   ·rw [if_neg c3] at H
    have c3b0 : (x1_1 == (-1)) = false := beq_eq_false_iff_ne.mpr c3
    have c3b1 : (x1_1 != (-1)) = true := bne_iff_ne.mpr c3
    by_cases c4 : x5_1.length < 17592186044416
    ·rw [if_pos c4] at H
     have LMc4 := Aside0.mk c4
     clear c4
     obtain ⟨y174, hy174⟩ : ∃ y_ : List Int, y_ = (x5_1 ++ [x1_1]) := ⟨_, rfl⟩
     replace H : ((limelightref01_Up.f l0 x1_1).bind fun t177 => (limelightref04_Up.l0 k1 l0 t177 y174)) = some r := by first | (rw [hy174]; with_reducible exact H) | (have H2_ := (Option.bind_some _ _).symm.trans H; rw [hy174]; with_reducible exact H2_) | (have H2_ := (Option.bind_some _ _).symm.trans H; with_reducible exact H2_) | with_reducible exact H | (rw [hy174]; exact H) | exact H
     have Ny174 := Aside0.mk hy174
     clear hy174
     replace H := Option.bind_eq_some_iff.mp H
     obtain ⟨t177, A50, H⟩ := H
     replace H : (limelightref04_Up.l0 k1 l0 t177 y174) = some r := H
     have A5 := Aside0.mk A50
     clear A50
     have H' := Aside0.mk H
     clear H
     go_wp2_with (first | ((with_reducible refine gate_builtin (b := .append) (xs := #[.tmp 8, .tmp 10]) rfl ?_); at_builtin; refine Kd.R_append (Kd.int .i64) (w0 := w) w.heap.size rfl (.tmp 8) (.tmp 10) 50 3 (.int .i64 0) 8 rfl Try.underlying50 info3 rfl (by decide) (by omega) u5 x5_1 x1_1 [.int .i64 x1_1] (fun _ => True) (fun _ => False) rfl rfl ?aP (fun _ hk => hk.elim) ?aF ?aO ?aB ?aS ?aL ?_; (case aP => exact rfl); (case aB => exact bel_); (case aF => exact (fun _ _ => trivial)); (case aO => exact (kra_ HO_5.out)); (case aS => exact (below_size bel_)); (case aL => have := LMc4.out; omega); intro v175 w6 ho hb hg hat; rw [← Ny174.out] at ho; have n0_ := Aside0.mk (hb); have n1_ := Aside0.mk (ho); clear HB; clear HO_5; have HB := n0_; have HO176 := n1_; clear n0_ n1_; clear ho hb hg hat) | ((with_reducible refine gate_callee (f := 57) rfl ?_); refine goesL_ (some 14) rfl rfl Try.func57 (by kernel_rfl) rfl #[.slice A0 l0.length c0, .int .i64 x1_1] rfl margs_ ?_; (with_reducible refine (limelightref01_Up.calls _ _ l0 x1_1 t177 _ ?side1 ?side2 A5.out).mono ?_); (case side1 => exact kcb_ ((Kd.C_below HR0.out HB.out))); (case side2 => exact HC0.out); rintro e w' ⟨rfl, ⟨nd, rfl⟩⟩; refine ⟨_, rfl, ?_⟩))
     go_roundg k1
     case measure => have := HK1.out; omega
     case rel => exact ⟨(t177), (y174), (by first | rfl | (simp; done) | (simp [*]; done)), H', ⟨by have := HK1.out; omega⟩, ⟨kra_ HO176.out⟩, ⟨bel_⟩⟩
    ·rw [if_neg c4] at H
     exact absurd H (by simp)

/-! ### limelightref04_Above: function 21 -/
def limelightref04_Above.f (k : Nat) (l0 : List (S53)) (a1 : Int) (a2 : Int) : Option (Bool) := (limelightref04_Up.f k l0 a2).bind fun t178 => ((limelightref03_In.f k t178 a1).bind fun t181 => (some t181))
theorem limelightref04_Above.mono : ∀ a0 a1 a2 k, LeO (limelightref04_Above.f k a0 a1 a2) (limelightref04_Above.f (k + 1) a0 a1 a2) := by
 intro a0 a1 a2 k
 unfold limelightref04_Above.f
 repeat' first
   | (with_reducible exact limelightref03_In.mono _ _ _)
   | (with_reducible exact limelightref04_Up.mono _ _ _)
   | (with_reducible exact LeO.refl _)
   | (with_reducible exact LeO.none _)
   | (with_reducible refine LeO.ite ?_ ?_)
   | (with_reducible refine LeO.bind ?_ (fun _ => ?_))
   | exact limelightref03_In.mono _ _ _
   | exact limelightref04_Up.mono _ _ _
   | exact LeO.none _
   | refine LeO.ite ?_ ?_
   | refine LeO.bind ?_ (fun _ => ?_)
set_option maxHeartbeats 8000000 in
set_option maxRecDepth 100000 in
theorem limelightref04_Above.calls (k : Nat) (A0 : Option Addr) (c0 : Nat) (l0 : List (S53)) (a1 : Int) (a2 : Int) (r : Bool) (w : World) (hr0 : Kd.C k53 w A0 l0.length l0) (hc0 : l0.length ≤ c0) (h : limelightref04_Above.f k l0 a1 a2 = some r) :
  Calls Try.prog 21 #[.slice A0 l0.length c0, .int .i64 a1, .int .i64 a2] w fun e w' => e = .returned (.bool r) ∧ Below w.heap.size w w' := by
 have HR0 := Aside0.mk hr0
 have HC0 := Aside0.mk hc0
 clear hr0 hc0
 have HB := Aside0.mk (Below.refl w.heap.size w)
 have H : ((limelightref04_Up.f k l0 a2).bind fun t178 => ((limelightref03_In.f k t178 a1).bind fun t181 => (some t181))) = some r := h
 clear h
 replace H := Option.bind_eq_some_iff.mp H
 obtain ⟨t178, A40, H⟩ := H
 replace H : ((limelightref03_In.f k t178 a1).bind fun t181 => (some t181)) = some r := H
 have A4 := Aside0.mk A40
 clear A40
 replace H := Option.bind_eq_some_iff.mp H
 obtain ⟨t181, A50, H⟩ := H
 replace H : (some t181) = some r := H
 have A5 := Aside0.mk A50
 clear A50
 obtain rfl := Option.some.inj H
 go_enter Try.func21, Try.ntmps21
 go_wp2_with (first | ((with_reducible refine gate_callee (f := 34) rfl ?_); refine goesL_ (some 9) rfl rfl Try.func34 (by kernel_rfl) rfl #[.slice A0 l0.length c0, .int .i64 a2] rfl margs_ ?_; (with_reducible refine (limelightref04_Up.calls k _ _ l0 a2 t178 _ ?side1 ?side2 A4.out).mono ?_); (case side1 => exact kcb_ (HR0.out)); (case side2 => exact HC0.out); rintro e w6 ⟨v179, rfl, ho0, hb⟩; refine ⟨_, rfl, ?_⟩; have n0_ := Aside0.mk (Kd.R_lower ho0 (below_size bel_)); have n1_ := Aside0.mk (below_step bel_ hb); clear HB; have HO180 := n0_; have HB := n1_; clear n0_ n1_; (try clear hb); (try clear hb2); (try clear hk); (try clear hi); (try clear ho0); obtain ⟨Ao7, co7, eo7⟩ := Kd.R_slice HO180.out; subst eo7) | ((with_reducible refine gate_callee (f := 33) rfl ?_); refine goesL_ (some 11) rfl rfl Try.func33 (by kernel_rfl) rfl #[.slice Ao7 t178.length co7, .int .i64 a1] rfl margs_ ?_; (with_reducible refine (limelightref03_In.calls k _ _ t178 a1 t181 _ ?side1 ?side2 A5.out).mono ?_); (case side1 => exact kcb_ ((Kd.R_reads' HO180.out).2.2)); (case side2 => exact (Kd.R_reads' HO180.out).2.1); rintro e w' ⟨rfl, ⟨nd, rfl⟩⟩; refine ⟨_, rfl, ?_⟩))
 go_ret
 exact ⟨by first | rfl | (simp [errW_none, errW_some] <;> rfl) | (simp [*, errW_none, errW_some] <;> rfl), bel_⟩

end Go.Proofs.Ytbdokcdnajdmaaa.P
