-- printed by wip/tools/pp.sh (a patched copy of the print's program), for this claim.
import Derived.Test.YtfdhfnjdafaogaaPx0
import Derived.Test.YtfdhfnjdafaogaaPx1
import Derived.Test.YtfdhfnjdafaogaaPx3
namespace Go.Proofs.Ytfdhfnjdafaogaa.P
open Go.RowKit Go.Proofs.YtfdhfnjdafaogaaW.PrintWords Go.Proofs.YtfdhfnjdafaogaaW.PrintLast Go.Proofs.YtfdhfnjdafaogaaW.PrintMore
attribute [local go_sem] max2_int min2_int max_two min_two max_three min_three max_four min_four   -- for this text's walks alone
set_option linter.unusedVariables false
set_option linter.unusedSimpArgs false

/-! ### limelightref06_Kids: function 18 -/
def limelightref06_Kids.f (k : Nat) (l0 : List (S36)) (a1 : Int) : Option (List Int) := if 0 ≤ a1 then (if a1 < (l0.length : Int) then (if ((rd_T36 l0 a1).f0) = 3 then (some ([] : List Int)) else (if ((rd_T36 l0 a1).f5) = (-1) then ((limelightref05_Assigned.f k l0 a1).bind fun t178 => (if (t178.length : Int) > 0 then (some t178) else (some ((rd_T36 l0 a1).f3)))) else (if 0 ≤ ((rd_T36 l0 a1).f5) then (if ((rd_T36 l0 a1).f5) < (l0.length : Int) then (some ((rd_T36 l0 ((rd_T36 l0 a1).f5)).f3)) else (none)) else (none)))) else (none)) else (none)
theorem limelightref06_Kids.mono : ∀ a0 a1 k, LeO (limelightref06_Kids.f k a0 a1) (limelightref06_Kids.f (k + 1) a0 a1) := by
 intro a0 a1 k
 unfold limelightref06_Kids.f
 repeat' first
   | (with_reducible exact limelightref05_Assigned.mono _ _ _)
   | (with_reducible exact LeO.refl _)
   | (with_reducible exact LeO.none _)
   | (with_reducible refine LeO.ite ?_ ?_)
   | (with_reducible refine LeO.bind ?_ (fun _ => ?_))
   | exact limelightref05_Assigned.mono _ _ _
   | exact LeO.none _
   | refine LeO.ite ?_ ?_
   | refine LeO.bind ?_ (fun _ => ?_)
set_option maxHeartbeats 8000000 in
set_option maxRecDepth 100000 in
theorem limelightref06_Kids.calls (k : Nat) (P0_ : Nat → Prop) (A0 : Option Addr) (c0 : Nat) (l0 : List (S36)) (a1 : Int) (r : List Int) (w : World) (hs0 : Kd.V k36 36 w w.heap.size (fun k_ => P0_ k_) (.slice A0 l0.length c0) l0) (h : limelightref06_Kids.f k l0 a1 = some r) :
  Calls Try.prog 18 #[.slice A0 l0.length c0, .int .i64 a1] w fun e w' => ∃ v0_ : Value, e = .returned (v0_) ∧ Kd.V (Kd.int .i64) 3 w' w.heap.size (fun k_ => (P0_ k_ ∨ w.heap.size ≤ k_)) v0_ r ∧ Below w.heap.size w w' := by
 have HO0 := Aside0.mk (show Kd.V k36 36 w w.heap.size (fun k_ => (P0_ k_ ∨ w.heap.size ≤ k_)) (.slice A0 l0.length c0) l0 from Kd.V_mono hs0 (fun k_ hk => .inl hk))
 have HB := Aside0.mk (Below.refl w.heap.size w)
 have H : (if 0 ≤ a1 then (if a1 < (l0.length : Int) then (if ((rd_T36 l0 a1).f0) = 3 then (some ([] : List Int)) else (if ((rd_T36 l0 a1).f5) = (-1) then ((limelightref05_Assigned.f k l0 a1).bind fun t178 => (if (t178.length : Int) > 0 then (some t178) else (some ((rd_T36 l0 a1).f3)))) else (if 0 ≤ ((rd_T36 l0 a1).f5) then (if ((rd_T36 l0 a1).f5) < (l0.length : Int) then (some ((rd_T36 l0 ((rd_T36 l0 a1).f5)).f3)) else (none)) else (none)))) else (none)) else (none)) = some r := h
 clear h
 by_cases c3 : 0 ≤ a1
 ·rw [if_pos c3] at H
  have c3b0 : decide (0 ≤ a1) = true := decide_eq_true c3
  clear c3
  by_cases c4 : a1 < (l0.length : Int)
  ·rw [if_pos c4] at H
   have c4b0 : decide (a1 < (l0.length : Int)) = true := decide_eq_true c4
   clear c4
   by_cases c5 : ((rd_T36 l0 a1).f0) = 3
   ·rw [if_pos c5] at H
    have c5b0 : (((rd_T36 l0 a1).f0) == 3) = true := beq_iff_eq.mpr c5
    have c5b1 : (((rd_T36 l0 a1).f0) != 3) = false := bne_eq_false_iff_eq.mpr c5
    clear c5
    obtain rfl := Option.some.inj H
    have p176 : 0 ≤ (a1 : Int) := of_decide_eq_true asm_
    have q176 : a1 < (l0.length : Int) := of_decide_eq_true asm_
    obtain ⟨ad176, A176_3, c176_3, A176_6, c176_6, e176, hx176_0, hx176_1, hx176_2, hx176_3, hx176_4, hx176_5, hx176_6, hl176_3, hi176_3, hl176_6, hi176_6⟩ := at_T36 (Kd.V_reads' HO0.out).2.2 a1 p176 q176
    cases e176
    obtain ⟨ce176, hce176, hMe176, hcc176⟩ := Kd.V_get HO0.out z36 a1 p176 (by first | exact q176 | exact of_decide_eq_true asm_ | (have e_ := (Kd.V_reads' HO0.out).1; omega))
    obtain ⟨ua176_3, uc176_3, ua176_6, uc176_6, rfl, ul176_3, ge176_3, ul176_6, ge176_6⟩ := k36_openF hMe176
    have hv176_3 := hcc176 3 _ rfl
    rw [add_field _ _ 3 (by omega)] at hv176_3
    replace hv176_3 := Option.some.inj (hv176_3.symm.trans hx176_3)
    injection hv176_3 with hva_ hvn_ hvc_
    rw [hva_] at ge176_3
    rw [hvc_] at ul176_3
    have HL176_3 := Aside0.mk (show Kd.V (Kd.int .i64) 3 _ w.heap.size _ _ ((rd_T36 l0 a1).f3) from Kd.V_mk ul176_3 ge176_3)
    clear hva_ hvn_ hvc_ ge176_3 ul176_3
    have hv176_6 := hcc176 6 _ rfl
    rw [add_field _ _ 6 (by omega)] at hv176_6
    replace hv176_6 := Option.some.inj (hv176_6.symm.trans hx176_6)
    injection hv176_6 with hva_ hvn_ hvc_
    rw [hva_] at ge176_6
    rw [hvc_] at ul176_6
    have HL176_6 := Aside0.mk (show Kd.V k41 41 _ w.heap.size _ _ ((rd_T36 l0 a1).f6) from Kd.V_mk ul176_6 ge176_6)
    clear hva_ hvn_ hvc_ ge176_6 ul176_6
    clear hcc176 hce176
    have HR176_3 := Aside0.mk hi176_3
    have HC176_3 := Aside0.mk hl176_3
    clear hi176_3 hl176_3
    have HR176_6 := Aside0.mk hi176_6
    have HC176_6 := Aside0.mk hl176_6
    clear hi176_6 hl176_6
    replace p176 := eq_true p176
    replace q176 := eq_true q176
    go_enter Try.func18, Try.ntmps18
    go_wp2
    go_ret
    exact ⟨_, by first | rfl | (simp [errW_none, errW_some] <;> rfl) | (simp [*, errW_none, errW_some] <;> rfl), Kd.V_mono (Kd.R_V (by first | exact Kd.R_nil _ _ _ 0 (fun _ => False) | exact Kd.R_nil _ _ _ _ _ | exact Kd.N_nil _ _ _ _ _ | exact Kd.V_nil _ _ _ _ _ | exact Kd.Q_nil _ _ _ _ _ | exact Kd.S_nil _ _ _ _ _)) (fun k_ hk => by first | exact hk.elim | exact ⟨(.inr (hk.1)), hk.2⟩ | exact (.inr (hk))), bel_⟩
   ·rw [if_neg c5] at H
    have c5b0 : (((rd_T36 l0 a1).f0) == 3) = false := beq_eq_false_iff_ne.mpr c5
    have c5b1 : (((rd_T36 l0 a1).f0) != 3) = true := bne_iff_ne.mpr c5
    by_cases c6 : ((rd_T36 l0 a1).f5) = (-1)
    ·rw [if_pos c6] at H
     have c6b0 : (((rd_T36 l0 a1).f5) == (-1)) = true := beq_iff_eq.mpr c6
     have c6b1 : (((rd_T36 l0 a1).f5) != (-1)) = false := bne_eq_false_iff_eq.mpr c6
     clear c6
     replace H := Option.bind_eq_some_iff.mp H
     obtain ⟨t178, A70, H⟩ := H
     replace H : (if (t178.length : Int) > 0 then (some t178) else (some ((rd_T36 l0 a1).f3))) = some r := H
     have A7 := Aside0.mk A70
     clear A70
     by_cases c8 : (t178.length : Int) > 0
     ·rw [if_pos c8] at H
      have c8b0 : decide (0 < (t178.length : Int)) = true := decide_eq_true c8
      have c8b1 : decide (0 < t178.length) = true := decide_eq_true (by omega)
      clear c8
      obtain rfl := Option.some.inj H
      have p176 : 0 ≤ (a1 : Int) := of_decide_eq_true asm_
      have q176 : a1 < (l0.length : Int) := of_decide_eq_true asm_
      obtain ⟨ad176, A176_3, c176_3, A176_6, c176_6, e176, hx176_0, hx176_1, hx176_2, hx176_3, hx176_4, hx176_5, hx176_6, hl176_3, hi176_3, hl176_6, hi176_6⟩ := at_T36 (Kd.V_reads' HO0.out).2.2 a1 p176 q176
      cases e176
      obtain ⟨ce176, hce176, hMe176, hcc176⟩ := Kd.V_get HO0.out z36 a1 p176 (by first | exact q176 | exact of_decide_eq_true asm_ | (have e_ := (Kd.V_reads' HO0.out).1; omega))
      obtain ⟨ua176_3, uc176_3, ua176_6, uc176_6, rfl, ul176_3, ge176_3, ul176_6, ge176_6⟩ := k36_openF hMe176
      have hv176_3 := hcc176 3 _ rfl
      rw [add_field _ _ 3 (by omega)] at hv176_3
      replace hv176_3 := Option.some.inj (hv176_3.symm.trans hx176_3)
      injection hv176_3 with hva_ hvn_ hvc_
      rw [hva_] at ge176_3
      rw [hvc_] at ul176_3
      have HL176_3 := Aside0.mk (show Kd.V (Kd.int .i64) 3 _ w.heap.size _ _ ((rd_T36 l0 a1).f3) from Kd.V_mk ul176_3 ge176_3)
      clear hva_ hvn_ hvc_ ge176_3 ul176_3
      have hv176_6 := hcc176 6 _ rfl
      rw [add_field _ _ 6 (by omega)] at hv176_6
      replace hv176_6 := Option.some.inj (hv176_6.symm.trans hx176_6)
      injection hv176_6 with hva_ hvn_ hvc_
      rw [hva_] at ge176_6
      rw [hvc_] at ul176_6
      have HL176_6 := Aside0.mk (show Kd.V k41 41 _ w.heap.size _ _ ((rd_T36 l0 a1).f6) from Kd.V_mk ul176_6 ge176_6)
      clear hva_ hvn_ hvc_ ge176_6 ul176_6
      clear hcc176 hce176
      have HR176_3 := Aside0.mk hi176_3
      have HC176_3 := Aside0.mk hl176_3
      clear hi176_3 hl176_3
      have HR176_6 := Aside0.mk hi176_6
      have HC176_6 := Aside0.mk hl176_6
      clear hi176_6 hl176_6
      replace p176 := eq_true p176
      replace q176 := eq_true q176
      have p177 : 0 ≤ (a1 : Int) := of_decide_eq_true asm_
      have q177 : a1 < (l0.length : Int) := of_decide_eq_true asm_
      obtain ⟨ad177, A177_3, c177_3, A177_6, c177_6, e177, hx177_0, hx177_1, hx177_2, hx177_3, hx177_4, hx177_5, hx177_6, hl177_3, hi177_3, hl177_6, hi177_6⟩ := at_T36 (Kd.V_reads' HO0.out).2.2 a1 p177 q177
      obtain rfl : ad176 = ad177 := (by injection e177)
      obtain ⟨ce177, hce177, hMe177, hcc177⟩ := Kd.V_get HO0.out z36 a1 p177 (by first | exact q177 | exact of_decide_eq_true asm_ | (have e_ := (Kd.V_reads' HO0.out).1; omega))
      obtain ⟨ua177_3, uc177_3, ua177_6, uc177_6, rfl, ul177_3, ge177_3, ul177_6, ge177_6⟩ := k36_openF hMe177
      have hv177_3 := hcc177 3 _ rfl
      rw [add_field _ _ 3 (by omega)] at hv177_3
      replace hv177_3 := Option.some.inj (hv177_3.symm.trans hx177_3)
      injection hv177_3 with hva_ hvn_ hvc_
      rw [hva_] at ge177_3
      rw [hvc_] at ul177_3
      have HL177_3 := Aside0.mk (show Kd.V (Kd.int .i64) 3 _ w.heap.size _ _ ((rd_T36 l0 a1).f3) from Kd.V_mk ul177_3 ge177_3)
      clear hva_ hvn_ hvc_ ge177_3 ul177_3
      have hv177_6 := hcc177 6 _ rfl
      rw [add_field _ _ 6 (by omega)] at hv177_6
      replace hv177_6 := Option.some.inj (hv177_6.symm.trans hx177_6)
      injection hv177_6 with hva_ hvn_ hvc_
      rw [hva_] at ge177_6
      rw [hvc_] at ul177_6
      have HL177_6 := Aside0.mk (show Kd.V k41 41 _ w.heap.size _ _ ((rd_T36 l0 a1).f6) from Kd.V_mk ul177_6 ge177_6)
      clear hva_ hvn_ hvc_ ge177_6 ul177_6
      clear hcc177 hce177
      have HR177_3 := Aside0.mk hi177_3
      have HC177_3 := Aside0.mk hl177_3
      clear hi177_3 hl177_3
      have HR177_6 := Aside0.mk hi177_6
      have HC177_6 := Aside0.mk hl177_6
      clear hi177_6 hl177_6
      replace p177 := eq_true p177
      replace q177 := eq_true q177
      have ea_ := Option.some.inj (hx176_3.symm.trans hx177_3)
      injection ea_ with ea_ en_ ec_
      subst ea_
      subst ec_
      clear en_
      have ea_ := Option.some.inj (hx176_6.symm.trans hx177_6)
      injection ea_ with ea_ en_ ec_
      subst ea_
      subst ec_
      clear en_
      go_enter Try.func18, Try.ntmps18
      go_wp2_with (first | ((with_reducible refine gate_callee (f := 40) rfl ?_); refine goesL_ (some 29) rfl rfl Try.func40 (by kernel_rfl) rfl #[.slice (some ad176) l0.length c0, .int .i64 a1] rfl margs_ ?_; (with_reducible refine (limelightref05_Assigned.calls k _ _ l0 a1 t178 _ ?side1 ?side2 A7.out).mono ?_); (case side1 => exact kcb_ ((Kd.V_reads' HO0.out).2.2)); (case side2 => exact (Kd.V_reads' HO0.out).2.1); rintro e w9 ⟨v179, rfl, ho0, hb⟩; refine ⟨_, rfl, ?_⟩; have n0_ := Aside0.mk (Kd.V_elder' (by (with_reducible repeat (first | apply Kd.V_alloc | apply Kd.V_drewN | apply Kd.V_drew)); exact HO0.out) (Kd.R_base ho0) hb); have n1_ := Aside0.mk (Kd.V_elder' (by (with_reducible repeat (first | apply Kd.V_alloc | apply Kd.V_drewN | apply Kd.V_drew)); exact HL176_3.out) (Kd.R_base ho0) hb); have n2_ := Aside0.mk (Kd.V_elder' (by (with_reducible repeat (first | apply Kd.V_alloc | apply Kd.V_drewN | apply Kd.V_drew)); exact HL176_6.out) (Kd.R_base ho0) hb); have n3_ := Aside0.mk (Kd.V_elder' (by (with_reducible repeat (first | apply Kd.V_alloc | apply Kd.V_drewN | apply Kd.V_drew)); exact HL177_3.out) (Kd.R_base ho0) hb); have n4_ := Aside0.mk (Kd.V_elder' (by (with_reducible repeat (first | apply Kd.V_alloc | apply Kd.V_drewN | apply Kd.V_drew)); exact HL177_6.out) (Kd.R_base ho0) hb); have n5_ := Aside0.mk (Kd.R_lower (Kd.R_newM (M := fun k_ => (w.heap.size ≤ k_)) ho0 (below_size bel_) (fun k_ h_ => h_)) (below_size bel_)); have n6_ := Aside0.mk (Kd.C_below (by repeat (first | (with_reducible exact HR176_3.out) | (with_reducible refine Kd.C_alloc ?_ _) | (with_reducible refine Kd.C_drewN ?_ _) | (with_reducible refine Kd.C_drew ?_) | exact HR176_3.out)) hb); have n7_ := Aside0.mk (Kd.C_below (by repeat (first | (with_reducible exact HR176_6.out) | (with_reducible refine Kd.C_alloc ?_ _) | (with_reducible refine Kd.C_drewN ?_ _) | (with_reducible refine Kd.C_drew ?_) | exact HR176_6.out)) hb); have n8_ := Aside0.mk (Kd.C_below (by repeat (first | (with_reducible exact HR177_3.out) | (with_reducible refine Kd.C_alloc ?_ _) | (with_reducible refine Kd.C_drewN ?_ _) | (with_reducible refine Kd.C_drew ?_) | exact HR177_3.out)) hb); have n9_ := Aside0.mk (Kd.C_below (by repeat (first | (with_reducible exact HR177_6.out) | (with_reducible refine Kd.C_alloc ?_ _) | (with_reducible refine Kd.C_drewN ?_ _) | (with_reducible refine Kd.C_drew ?_) | exact HR177_6.out)) hb); have n10_ := Aside0.mk (below_step bel_ hb); clear HO0; clear HL176_3; clear HL176_6; clear HL177_3; clear HL177_6; clear HR176_3; clear HR176_6; clear HR177_3; clear HR177_6; clear HB; have HO0 := n0_; have HL176_3 := n1_; have HL176_6 := n2_; have HL177_3 := n3_; have HL177_6 := n4_; have HO180 := n5_; have HR176_3 := n6_; have HR176_6 := n7_; have HR177_3 := n8_; have HR177_6 := n9_; have HB := n10_; clear n0_ n1_ n2_ n3_ n4_ n5_ n6_ n7_ n8_ n9_ n10_; (try clear hb); (try clear hb2); (try clear hk); (try clear hi); (try clear ho0); obtain ⟨Ao10, co10, eo10⟩ := Kd.R_slice HO180.out; subst eo10))
      go_ret
      exact ⟨_, by first | rfl | (simp [errW_none, errW_some] <;> rfl) | (simp [*, errW_none, errW_some] <;> rfl), Kd.V_mono (Kd.R_V (by (with_reducible repeat (first | apply Kd.R_alloc | apply Kd.R_drewN | apply Kd.R_drew)); exact Kd.R_mono HO180.out (fun _ hk => hk.1))) (fun k_ hk => by first | exact ⟨(.inr (hk.1)), hk.2⟩ | exact (.inr (hk))), bel_⟩
     ·rw [if_neg c8] at H
      have c8b0 : decide (0 < (t178.length : Int)) = false := decide_eq_false c8
      have c8b1 : decide (0 < t178.length) = false := decide_eq_false (by omega)
      clear c8
      obtain rfl := Option.some.inj H
      have p176 : 0 ≤ (a1 : Int) := of_decide_eq_true asm_
      have q176 : a1 < (l0.length : Int) := of_decide_eq_true asm_
      obtain ⟨ad176, A176_3, c176_3, A176_6, c176_6, e176, hx176_0, hx176_1, hx176_2, hx176_3, hx176_4, hx176_5, hx176_6, hl176_3, hi176_3, hl176_6, hi176_6⟩ := at_T36 (Kd.V_reads' HO0.out).2.2 a1 p176 q176
      cases e176
      obtain ⟨ce176, hce176, hMe176, hcc176⟩ := Kd.V_get HO0.out z36 a1 p176 (by first | exact q176 | exact of_decide_eq_true asm_ | (have e_ := (Kd.V_reads' HO0.out).1; omega))
      obtain ⟨ua176_3, uc176_3, ua176_6, uc176_6, rfl, ul176_3, ge176_3, ul176_6, ge176_6⟩ := k36_openF hMe176
      have hv176_3 := hcc176 3 _ rfl
      rw [add_field _ _ 3 (by omega)] at hv176_3
      replace hv176_3 := Option.some.inj (hv176_3.symm.trans hx176_3)
      injection hv176_3 with hva_ hvn_ hvc_
      rw [hva_] at ge176_3
      rw [hvc_] at ul176_3
      have HL176_3 := Aside0.mk (show Kd.V (Kd.int .i64) 3 _ w.heap.size _ _ ((rd_T36 l0 a1).f3) from Kd.V_mk ul176_3 ge176_3)
      clear hva_ hvn_ hvc_ ge176_3 ul176_3
      have hv176_6 := hcc176 6 _ rfl
      rw [add_field _ _ 6 (by omega)] at hv176_6
      replace hv176_6 := Option.some.inj (hv176_6.symm.trans hx176_6)
      injection hv176_6 with hva_ hvn_ hvc_
      rw [hva_] at ge176_6
      rw [hvc_] at ul176_6
      have HL176_6 := Aside0.mk (show Kd.V k41 41 _ w.heap.size _ _ ((rd_T36 l0 a1).f6) from Kd.V_mk ul176_6 ge176_6)
      clear hva_ hvn_ hvc_ ge176_6 ul176_6
      clear hcc176 hce176
      have HR176_3 := Aside0.mk hi176_3
      have HC176_3 := Aside0.mk hl176_3
      clear hi176_3 hl176_3
      have HR176_6 := Aside0.mk hi176_6
      have HC176_6 := Aside0.mk hl176_6
      clear hi176_6 hl176_6
      replace p176 := eq_true p176
      replace q176 := eq_true q176
      have p177 : 0 ≤ (a1 : Int) := of_decide_eq_true asm_
      have q177 : a1 < (l0.length : Int) := of_decide_eq_true asm_
      obtain ⟨ad177, A177_3, c177_3, A177_6, c177_6, e177, hx177_0, hx177_1, hx177_2, hx177_3, hx177_4, hx177_5, hx177_6, hl177_3, hi177_3, hl177_6, hi177_6⟩ := at_T36 (Kd.V_reads' HO0.out).2.2 a1 p177 q177
      obtain rfl : ad176 = ad177 := (by injection e177)
      obtain ⟨ce177, hce177, hMe177, hcc177⟩ := Kd.V_get HO0.out z36 a1 p177 (by first | exact q177 | exact of_decide_eq_true asm_ | (have e_ := (Kd.V_reads' HO0.out).1; omega))
      obtain ⟨ua177_3, uc177_3, ua177_6, uc177_6, rfl, ul177_3, ge177_3, ul177_6, ge177_6⟩ := k36_openF hMe177
      have hv177_3 := hcc177 3 _ rfl
      rw [add_field _ _ 3 (by omega)] at hv177_3
      replace hv177_3 := Option.some.inj (hv177_3.symm.trans hx177_3)
      injection hv177_3 with hva_ hvn_ hvc_
      rw [hva_] at ge177_3
      rw [hvc_] at ul177_3
      have HL177_3 := Aside0.mk (show Kd.V (Kd.int .i64) 3 _ w.heap.size _ _ ((rd_T36 l0 a1).f3) from Kd.V_mk ul177_3 ge177_3)
      clear hva_ hvn_ hvc_ ge177_3 ul177_3
      have hv177_6 := hcc177 6 _ rfl
      rw [add_field _ _ 6 (by omega)] at hv177_6
      replace hv177_6 := Option.some.inj (hv177_6.symm.trans hx177_6)
      injection hv177_6 with hva_ hvn_ hvc_
      rw [hva_] at ge177_6
      rw [hvc_] at ul177_6
      have HL177_6 := Aside0.mk (show Kd.V k41 41 _ w.heap.size _ _ ((rd_T36 l0 a1).f6) from Kd.V_mk ul177_6 ge177_6)
      clear hva_ hvn_ hvc_ ge177_6 ul177_6
      clear hcc177 hce177
      have HR177_3 := Aside0.mk hi177_3
      have HC177_3 := Aside0.mk hl177_3
      clear hi177_3 hl177_3
      have HR177_6 := Aside0.mk hi177_6
      have HC177_6 := Aside0.mk hl177_6
      clear hi177_6 hl177_6
      replace p177 := eq_true p177
      replace q177 := eq_true q177
      have ea_ := Option.some.inj (hx176_3.symm.trans hx177_3)
      injection ea_ with ea_ en_ ec_
      subst ea_
      subst ec_
      clear en_
      have ea_ := Option.some.inj (hx176_6.symm.trans hx177_6)
      injection ea_ with ea_ en_ ec_
      subst ea_
      subst ec_
      clear en_
      go_enter Try.func18, Try.ntmps18
      go_wp2_with (first | ((with_reducible refine gate_callee (f := 40) rfl ?_); refine goesL_ (some 29) rfl rfl Try.func40 (by kernel_rfl) rfl #[.slice (some ad176) l0.length c0, .int .i64 a1] rfl margs_ ?_; (with_reducible refine (limelightref05_Assigned.calls k _ _ l0 a1 t178 _ ?side1 ?side2 A7.out).mono ?_); (case side1 => exact kcb_ ((Kd.V_reads' HO0.out).2.2)); (case side2 => exact (Kd.V_reads' HO0.out).2.1); rintro e w11 ⟨v179, rfl, ho0, hb⟩; refine ⟨_, rfl, ?_⟩; have n0_ := Aside0.mk (Kd.V_elder' (by (with_reducible repeat (first | apply Kd.V_alloc | apply Kd.V_drewN | apply Kd.V_drew)); exact HO0.out) (Kd.R_base ho0) hb); have n1_ := Aside0.mk (Kd.V_elder' (by (with_reducible repeat (first | apply Kd.V_alloc | apply Kd.V_drewN | apply Kd.V_drew)); exact HL176_3.out) (Kd.R_base ho0) hb); have n2_ := Aside0.mk (Kd.V_elder' (by (with_reducible repeat (first | apply Kd.V_alloc | apply Kd.V_drewN | apply Kd.V_drew)); exact HL176_6.out) (Kd.R_base ho0) hb); have n3_ := Aside0.mk (Kd.V_elder' (by (with_reducible repeat (first | apply Kd.V_alloc | apply Kd.V_drewN | apply Kd.V_drew)); exact HL177_3.out) (Kd.R_base ho0) hb); have n4_ := Aside0.mk (Kd.V_elder' (by (with_reducible repeat (first | apply Kd.V_alloc | apply Kd.V_drewN | apply Kd.V_drew)); exact HL177_6.out) (Kd.R_base ho0) hb); have n5_ := Aside0.mk (Kd.R_lower (Kd.R_newM (M := fun k_ => (w.heap.size ≤ k_)) ho0 (below_size bel_) (fun k_ h_ => h_)) (below_size bel_)); have n6_ := Aside0.mk (Kd.C_below (by repeat (first | (with_reducible exact HR176_3.out) | (with_reducible refine Kd.C_alloc ?_ _) | (with_reducible refine Kd.C_drewN ?_ _) | (with_reducible refine Kd.C_drew ?_) | exact HR176_3.out)) hb); have n7_ := Aside0.mk (Kd.C_below (by repeat (first | (with_reducible exact HR176_6.out) | (with_reducible refine Kd.C_alloc ?_ _) | (with_reducible refine Kd.C_drewN ?_ _) | (with_reducible refine Kd.C_drew ?_) | exact HR176_6.out)) hb); have n8_ := Aside0.mk (Kd.C_below (by repeat (first | (with_reducible exact HR177_3.out) | (with_reducible refine Kd.C_alloc ?_ _) | (with_reducible refine Kd.C_drewN ?_ _) | (with_reducible refine Kd.C_drew ?_) | exact HR177_3.out)) hb); have n9_ := Aside0.mk (Kd.C_below (by repeat (first | (with_reducible exact HR177_6.out) | (with_reducible refine Kd.C_alloc ?_ _) | (with_reducible refine Kd.C_drewN ?_ _) | (with_reducible refine Kd.C_drew ?_) | exact HR177_6.out)) hb); have n10_ := Aside0.mk (below_step bel_ hb); clear HO0; clear HL176_3; clear HL176_6; clear HL177_3; clear HL177_6; clear HR176_3; clear HR176_6; clear HR177_3; clear HR177_6; clear HB; have HO0 := n0_; have HL176_3 := n1_; have HL176_6 := n2_; have HL177_3 := n3_; have HL177_6 := n4_; have HO180 := n5_; have HR176_3 := n6_; have HR176_6 := n7_; have HR177_3 := n8_; have HR177_6 := n9_; have HB := n10_; clear n0_ n1_ n2_ n3_ n4_ n5_ n6_ n7_ n8_ n9_ n10_; (try clear hb); (try clear hb2); (try clear hk); (try clear hi); (try clear ho0); obtain ⟨Ao12, co12, eo12⟩ := Kd.R_slice HO180.out; subst eo12; have p181 : 0 ≤ (a1 : Int) := of_decide_eq_true asm_; have q181 : a1 < (l0.length : Int) := of_decide_eq_true asm_; obtain ⟨ad181, A181_3, c181_3, A181_6, c181_6, e181, hx181_0, hx181_1, hx181_2, hx181_3, hx181_4, hx181_5, hx181_6, hl181_3, hi181_3, hl181_6, hi181_6⟩ := at_T36 (Kd.V_reads' HO0.out).2.2 a1 p181 q181; obtain rfl : ad176 = ad181 := (by injection e181); obtain ⟨ce181, hce181, hMe181, hcc181⟩ := Kd.V_get HO0.out z36 a1 p181 (by first | exact q181 | exact of_decide_eq_true asm_ | (have e_ := (Kd.V_reads' HO0.out).1; omega)); obtain ⟨ua181_3, uc181_3, ua181_6, uc181_6, rfl, ul181_3, ge181_3, ul181_6, ge181_6⟩ := k36_openF hMe181; have hv181_3 := hcc181 3 _ rfl; rw [add_field _ _ 3 (by omega)] at hv181_3; replace hv181_3 := Option.some.inj (hv181_3.symm.trans hx181_3); injection hv181_3 with hva_ hvn_ hvc_; rw [hva_] at ge181_3; rw [hvc_] at ul181_3; have HL181_3 := Aside0.mk (show Kd.V (Kd.int .i64) 3 _ w.heap.size _ _ ((rd_T36 l0 a1).f3) from Kd.V_mk ul181_3 ge181_3); clear hva_ hvn_ hvc_ ge181_3 ul181_3; have hv181_6 := hcc181 6 _ rfl; rw [add_field _ _ 6 (by omega)] at hv181_6; replace hv181_6 := Option.some.inj (hv181_6.symm.trans hx181_6); injection hv181_6 with hva_ hvn_ hvc_; rw [hva_] at ge181_6; rw [hvc_] at ul181_6; have HL181_6 := Aside0.mk (show Kd.V k41 41 _ w.heap.size _ _ ((rd_T36 l0 a1).f6) from Kd.V_mk ul181_6 ge181_6); clear hva_ hvn_ hvc_ ge181_6 ul181_6; clear hcc181 hce181; have HR181_3 := Aside0.mk hi181_3; have HC181_3 := Aside0.mk hl181_3; clear hi181_3 hl181_3; have HR181_6 := Aside0.mk hi181_6; have HC181_6 := Aside0.mk hl181_6; clear hi181_6 hl181_6; replace p181 := eq_true p181; replace q181 := eq_true q181))
      go_ret
      exact ⟨_, by first | rfl | (simp [errW_none, errW_some] <;> rfl) | (simp [*, errW_none, errW_some] <;> rfl), by (with_reducible repeat (first | apply Kd.V_alloc | apply Kd.V_drewN | apply Kd.V_drew)); exact Kd.V_mono HL181_3.out (fun _ hk => hk.1), bel_⟩
    ·rw [if_neg c6] at H
     have c6b0 : (((rd_T36 l0 a1).f5) == (-1)) = false := beq_eq_false_iff_ne.mpr c6
     have c6b1 : (((rd_T36 l0 a1).f5) != (-1)) = true := bne_iff_ne.mpr c6
     by_cases c13 : 0 ≤ ((rd_T36 l0 a1).f5)
     ·rw [if_pos c13] at H
      have c13b0 : decide (0 ≤ ((rd_T36 l0 a1).f5)) = true := decide_eq_true c13
      clear c13
      by_cases c14 : ((rd_T36 l0 a1).f5) < (l0.length : Int)
      ·rw [if_pos c14] at H
       have c14b0 : decide (((rd_T36 l0 a1).f5) < (l0.length : Int)) = true := decide_eq_true c14
       clear c14
       obtain rfl := Option.some.inj H
       have p176 : 0 ≤ (a1 : Int) := of_decide_eq_true asm_
       have q176 : a1 < (l0.length : Int) := of_decide_eq_true asm_
       obtain ⟨ad176, A176_3, c176_3, A176_6, c176_6, e176, hx176_0, hx176_1, hx176_2, hx176_3, hx176_4, hx176_5, hx176_6, hl176_3, hi176_3, hl176_6, hi176_6⟩ := at_T36 (Kd.V_reads' HO0.out).2.2 a1 p176 q176
       cases e176
       obtain ⟨ce176, hce176, hMe176, hcc176⟩ := Kd.V_get HO0.out z36 a1 p176 (by first | exact q176 | exact of_decide_eq_true asm_ | (have e_ := (Kd.V_reads' HO0.out).1; omega))
       obtain ⟨ua176_3, uc176_3, ua176_6, uc176_6, rfl, ul176_3, ge176_3, ul176_6, ge176_6⟩ := k36_openF hMe176
       have hv176_3 := hcc176 3 _ rfl
       rw [add_field _ _ 3 (by omega)] at hv176_3
       replace hv176_3 := Option.some.inj (hv176_3.symm.trans hx176_3)
       injection hv176_3 with hva_ hvn_ hvc_
       rw [hva_] at ge176_3
       rw [hvc_] at ul176_3
       have HL176_3 := Aside0.mk (show Kd.V (Kd.int .i64) 3 _ w.heap.size _ _ ((rd_T36 l0 a1).f3) from Kd.V_mk ul176_3 ge176_3)
       clear hva_ hvn_ hvc_ ge176_3 ul176_3
       have hv176_6 := hcc176 6 _ rfl
       rw [add_field _ _ 6 (by omega)] at hv176_6
       replace hv176_6 := Option.some.inj (hv176_6.symm.trans hx176_6)
       injection hv176_6 with hva_ hvn_ hvc_
       rw [hva_] at ge176_6
       rw [hvc_] at ul176_6
       have HL176_6 := Aside0.mk (show Kd.V k41 41 _ w.heap.size _ _ ((rd_T36 l0 a1).f6) from Kd.V_mk ul176_6 ge176_6)
       clear hva_ hvn_ hvc_ ge176_6 ul176_6
       clear hcc176 hce176
       have HR176_3 := Aside0.mk hi176_3
       have HC176_3 := Aside0.mk hl176_3
       clear hi176_3 hl176_3
       have HR176_6 := Aside0.mk hi176_6
       have HC176_6 := Aside0.mk hl176_6
       clear hi176_6 hl176_6
       replace p176 := eq_true p176
       replace q176 := eq_true q176
       have p177 : 0 ≤ (a1 : Int) := of_decide_eq_true asm_
       have q177 : a1 < (l0.length : Int) := of_decide_eq_true asm_
       obtain ⟨ad177, A177_3, c177_3, A177_6, c177_6, e177, hx177_0, hx177_1, hx177_2, hx177_3, hx177_4, hx177_5, hx177_6, hl177_3, hi177_3, hl177_6, hi177_6⟩ := at_T36 (Kd.V_reads' HO0.out).2.2 a1 p177 q177
       obtain rfl : ad176 = ad177 := (by injection e177)
       obtain ⟨ce177, hce177, hMe177, hcc177⟩ := Kd.V_get HO0.out z36 a1 p177 (by first | exact q177 | exact of_decide_eq_true asm_ | (have e_ := (Kd.V_reads' HO0.out).1; omega))
       obtain ⟨ua177_3, uc177_3, ua177_6, uc177_6, rfl, ul177_3, ge177_3, ul177_6, ge177_6⟩ := k36_openF hMe177
       have hv177_3 := hcc177 3 _ rfl
       rw [add_field _ _ 3 (by omega)] at hv177_3
       replace hv177_3 := Option.some.inj (hv177_3.symm.trans hx177_3)
       injection hv177_3 with hva_ hvn_ hvc_
       rw [hva_] at ge177_3
       rw [hvc_] at ul177_3
       have HL177_3 := Aside0.mk (show Kd.V (Kd.int .i64) 3 _ w.heap.size _ _ ((rd_T36 l0 a1).f3) from Kd.V_mk ul177_3 ge177_3)
       clear hva_ hvn_ hvc_ ge177_3 ul177_3
       have hv177_6 := hcc177 6 _ rfl
       rw [add_field _ _ 6 (by omega)] at hv177_6
       replace hv177_6 := Option.some.inj (hv177_6.symm.trans hx177_6)
       injection hv177_6 with hva_ hvn_ hvc_
       rw [hva_] at ge177_6
       rw [hvc_] at ul177_6
       have HL177_6 := Aside0.mk (show Kd.V k41 41 _ w.heap.size _ _ ((rd_T36 l0 a1).f6) from Kd.V_mk ul177_6 ge177_6)
       clear hva_ hvn_ hvc_ ge177_6 ul177_6
       clear hcc177 hce177
       have HR177_3 := Aside0.mk hi177_3
       have HC177_3 := Aside0.mk hl177_3
       clear hi177_3 hl177_3
       have HR177_6 := Aside0.mk hi177_6
       have HC177_6 := Aside0.mk hl177_6
       clear hi177_6 hl177_6
       replace p177 := eq_true p177
       replace q177 := eq_true q177
       have ea_ := Option.some.inj (hx176_3.symm.trans hx177_3)
       injection ea_ with ea_ en_ ec_
       subst ea_
       subst ec_
       clear en_
       have ea_ := Option.some.inj (hx176_6.symm.trans hx177_6)
       injection ea_ with ea_ en_ ec_
       subst ea_
       subst ec_
       clear en_
       have p182 : 0 ≤ (a1 : Int) := of_decide_eq_true asm_
       have q182 : a1 < (l0.length : Int) := of_decide_eq_true asm_
       obtain ⟨ad182, A182_3, c182_3, A182_6, c182_6, e182, hx182_0, hx182_1, hx182_2, hx182_3, hx182_4, hx182_5, hx182_6, hl182_3, hi182_3, hl182_6, hi182_6⟩ := at_T36 (Kd.V_reads' HO0.out).2.2 a1 p182 q182
       obtain rfl : ad176 = ad182 := (by injection e182)
       obtain ⟨ce182, hce182, hMe182, hcc182⟩ := Kd.V_get HO0.out z36 a1 p182 (by first | exact q182 | exact of_decide_eq_true asm_ | (have e_ := (Kd.V_reads' HO0.out).1; omega))
       obtain ⟨ua182_3, uc182_3, ua182_6, uc182_6, rfl, ul182_3, ge182_3, ul182_6, ge182_6⟩ := k36_openF hMe182
       have hv182_3 := hcc182 3 _ rfl
       rw [add_field _ _ 3 (by omega)] at hv182_3
       replace hv182_3 := Option.some.inj (hv182_3.symm.trans hx182_3)
       injection hv182_3 with hva_ hvn_ hvc_
       rw [hva_] at ge182_3
       rw [hvc_] at ul182_3
       have HL182_3 := Aside0.mk (show Kd.V (Kd.int .i64) 3 _ w.heap.size _ _ ((rd_T36 l0 a1).f3) from Kd.V_mk ul182_3 ge182_3)
       clear hva_ hvn_ hvc_ ge182_3 ul182_3
       have hv182_6 := hcc182 6 _ rfl
       rw [add_field _ _ 6 (by omega)] at hv182_6
       replace hv182_6 := Option.some.inj (hv182_6.symm.trans hx182_6)
       injection hv182_6 with hva_ hvn_ hvc_
       rw [hva_] at ge182_6
       rw [hvc_] at ul182_6
       have HL182_6 := Aside0.mk (show Kd.V k41 41 _ w.heap.size _ _ ((rd_T36 l0 a1).f6) from Kd.V_mk ul182_6 ge182_6)
       clear hva_ hvn_ hvc_ ge182_6 ul182_6
       clear hcc182 hce182
       have HR182_3 := Aside0.mk hi182_3
       have HC182_3 := Aside0.mk hl182_3
       clear hi182_3 hl182_3
       have HR182_6 := Aside0.mk hi182_6
       have HC182_6 := Aside0.mk hl182_6
       clear hi182_6 hl182_6
       replace p182 := eq_true p182
       replace q182 := eq_true q182
       have ea_ := Option.some.inj (hx176_3.symm.trans hx182_3)
       injection ea_ with ea_ en_ ec_
       subst ea_
       subst ec_
       clear en_
       have ea_ := Option.some.inj (hx176_6.symm.trans hx182_6)
       injection ea_ with ea_ en_ ec_
       subst ea_
       subst ec_
       clear en_
       have p183 : 0 ≤ (((rd_T36 l0 a1).f5) : Int) := of_decide_eq_true asm_
       have q183 : ((rd_T36 l0 a1).f5) < (l0.length : Int) := of_decide_eq_true asm_
       obtain ⟨ad183, A183_3, c183_3, A183_6, c183_6, e183, hx183_0, hx183_1, hx183_2, hx183_3, hx183_4, hx183_5, hx183_6, hl183_3, hi183_3, hl183_6, hi183_6⟩ := at_T36 (Kd.V_reads' HO0.out).2.2 ((rd_T36 l0 a1).f5) p183 q183
       obtain rfl : ad176 = ad183 := (by injection e183)
       obtain ⟨ce183, hce183, hMe183, hcc183⟩ := Kd.V_get HO0.out z36 ((rd_T36 l0 a1).f5) p183 (by first | exact q183 | exact of_decide_eq_true asm_ | (have e_ := (Kd.V_reads' HO0.out).1; omega))
       obtain ⟨ua183_3, uc183_3, ua183_6, uc183_6, rfl, ul183_3, ge183_3, ul183_6, ge183_6⟩ := k36_openF hMe183
       have hv183_3 := hcc183 3 _ rfl
       rw [add_field _ _ 3 (by omega)] at hv183_3
       replace hv183_3 := Option.some.inj (hv183_3.symm.trans hx183_3)
       injection hv183_3 with hva_ hvn_ hvc_
       rw [hva_] at ge183_3
       rw [hvc_] at ul183_3
       have HL183_3 := Aside0.mk (show Kd.V (Kd.int .i64) 3 _ w.heap.size _ _ ((rd_T36 l0 ((rd_T36 l0 a1).f5)).f3) from Kd.V_mk ul183_3 ge183_3)
       clear hva_ hvn_ hvc_ ge183_3 ul183_3
       have hv183_6 := hcc183 6 _ rfl
       rw [add_field _ _ 6 (by omega)] at hv183_6
       replace hv183_6 := Option.some.inj (hv183_6.symm.trans hx183_6)
       injection hv183_6 with hva_ hvn_ hvc_
       rw [hva_] at ge183_6
       rw [hvc_] at ul183_6
       have HL183_6 := Aside0.mk (show Kd.V k41 41 _ w.heap.size _ _ ((rd_T36 l0 ((rd_T36 l0 a1).f5)).f6) from Kd.V_mk ul183_6 ge183_6)
       clear hva_ hvn_ hvc_ ge183_6 ul183_6
       clear hcc183 hce183
       have HR183_3 := Aside0.mk hi183_3
       have HC183_3 := Aside0.mk hl183_3
       clear hi183_3 hl183_3
       have HR183_6 := Aside0.mk hi183_6
       have HC183_6 := Aside0.mk hl183_6
       clear hi183_6 hl183_6
       replace p183 := eq_true p183
       replace q183 := eq_true q183
       go_enter Try.func18, Try.ntmps18
       go_wp2
       go_ret
       exact ⟨_, by first | rfl | (simp [errW_none, errW_some] <;> rfl) | (simp [*, errW_none, errW_some] <;> rfl), by (with_reducible repeat (first | apply Kd.V_alloc | apply Kd.V_drewN | apply Kd.V_drew)); exact HL183_3.out, bel_⟩
      ·rw [if_neg c14] at H
       exact absurd H (by simp)
     ·rw [if_neg c13] at H
      exact absurd H (by simp)
  ·rw [if_neg c4] at H
   exact absurd H (by simp)
 ·rw [if_neg c3] at H
  exact absurd H (by simp)

/-! ### limelightref06_Parent: function 19 -/
def limelightref06_Parent.l0 : Nat → List (S36) → Int → Int → Option (Int)
 | 0, _, _, _ => none
 | k + 1, x0, x1, x5 => if x5 < (x0.length : Int) then ((limelightref06_Kids.f k x0 x5).bind fun t184 => ((limelightref03_In.f k t184 x1).bind fun t187 => (if t187 = true then (some x5) else (limelightref06_Parent.l0 k x0 x1 (wrap64 (x5 + 1)))))) else (some (-1))
def limelightref06_Parent.f (k : Nat) (l0 : List (S36)) (a1 : Int) : Option (Int) := limelightref06_Parent.l0 k l0 a1 0
theorem limelightref06_Parent.mono_l : ∀ k, (∀ y0 y1 y2, LeO (limelightref06_Parent.l0 k y0 y1 y2) (limelightref06_Parent.l0 (k + 1) y0 y1 y2))
 | 0 => fun _ _ _ r h => by simp [limelightref06_Parent.l0] at h
 | k + 1 => by
  have ih0 := limelightref06_Parent.mono_l k
  ·intro y0 y1 y2
   unfold limelightref06_Parent.l0
   repeat' first
   | (with_reducible exact ih0 _ _ _)
   | (with_reducible exact limelightref03_In.mono _ _ _)
   | (with_reducible exact limelightref06_Kids.mono _ _ _)
   | (with_reducible exact LeO.refl _)
   | (with_reducible exact LeO.none _)
   | (with_reducible refine LeO.ite ?_ ?_)
   | (with_reducible refine LeO.bind ?_ (fun _ => ?_))
   | exact ih0 _ _ _
   | exact limelightref03_In.mono _ _ _
   | exact limelightref06_Kids.mono _ _ _
   | exact LeO.none _
   | refine LeO.ite ?_ ?_
   | refine LeO.bind ?_ (fun _ => ?_)
theorem limelightref06_Parent.mono : ∀ a0 a1 k, LeO (limelightref06_Parent.f k a0 a1) (limelightref06_Parent.f (k + 1) a0 a1) := by
 intro a0 a1 k
 have ih0 := limelightref06_Parent.mono_l k
 unfold limelightref06_Parent.f
 repeat' first
   | (with_reducible exact ih0 _ _ _)
   | (with_reducible exact limelightref03_In.mono _ _ _)
   | (with_reducible exact limelightref06_Kids.mono _ _ _)
   | (with_reducible exact LeO.refl _)
   | (with_reducible exact LeO.none _)
   | (with_reducible refine LeO.ite ?_ ?_)
   | (with_reducible refine LeO.bind ?_ (fun _ => ?_))
   | exact ih0 _ _ _
   | exact limelightref03_In.mono _ _ _
   | exact limelightref06_Kids.mono _ _ _
   | exact LeO.none _
   | refine LeO.ite ?_ ?_
   | refine LeO.bind ?_ (fun _ => ?_)
set_option maxHeartbeats 8000000 in
set_option maxRecDepth 100000 in
theorem limelightref06_Parent.calls (k : Nat) (A0 : Option Addr) (c0 : Nat) (l0 : List (S36)) (a1 : Int) (r : Int) (w : World) (hr0 : Kd.C k36 w A0 l0.length l0) (hc0 : l0.length ≤ c0) (h : limelightref06_Parent.f k l0 a1 = some r) :
  Calls Try.prog 19 #[.slice A0 l0.length c0, .int .i64 a1] w fun e w' => e = .returned (.int .i64 r) ∧ Below w.heap.size w w' := by
 have HR0 := Aside0.mk hr0
 have HC0 := Aside0.mk hc0
 clear hr0 hc0
 have HB := Aside0.mk (Below.refl w.heap.size w)
 have H : (limelightref06_Parent.l0 k l0 a1 0) = some r := h
 clear h
 have H' := Aside0.mk H
 clear H
 go_enter Try.func19, Try.ntmps19
 go_wp2
 go_loopg [5] k (fun kq v5 w' => ∃ (x5_1 : Int), v5 = .int .i64 x5_1 ∧ Aside0 (limelightref06_Parent.l0 kq l0 a1 x5_1 = some r) ∧ Aside0 (kq ≤ k) ∧ Aside0 (Below w.heap.size w w'))
 case atStart => exact ⟨(0), (by first | rfl | (simp; done) | (simp [*]; done)), H', ⟨Nat.le_refl _⟩, ⟨bel_⟩⟩
 case round =>
  clear H'
  try clear c1
  try clear p2
  obtain ⟨x5_1, rfl, HA, HK1, HB⟩ := hrel
  cases gk with
  | zero => exact absurd HA.out (by simp [limelightref06_Parent.l0])
  | succ k1 =>
   have H := HA.out
   clear HA
   simp only [limelightref06_Parent.l0] at H
   by_cases c3 : x5_1 < (l0.length : Int)
   ·rw [if_pos c3] at H
    have c3b0 : decide (x5_1 < (l0.length : Int)) = true := decide_eq_true c3
    clear c3
    replace H := Option.bind_eq_some_iff.mp H
    obtain ⟨t184, A40, H⟩ := H
    replace H : ((limelightref03_In.f k1 t184 a1).bind fun t187 => (if t187 = true then (some x5_1) else (limelightref06_Parent.l0 k1 l0 a1 (wrap64 (x5_1 + 1))))) = some r := H
    have A4 := Aside0.mk A40
    clear A40
    replace H := Option.bind_eq_some_iff.mp H
    obtain ⟨t187, A50, H⟩ := H
    replace H : (if t187 = true then (some x5_1) else (limelightref06_Parent.l0 k1 l0 a1 (wrap64 (x5_1 + 1)))) = some r := H
    have A5 := Aside0.mk A50
    clear A50
    by_cases c6 : t187 = true
    ·subst c6
     have H1 : (some x5_1) = some r := by rw [if_pos rfl] at H; exact H
     clear H
     have H := H1
     clear H1
     obtain rfl := Option.some.inj H
     go_wp2_with (first | ((with_reducible refine gate_callee (f := 18) rfl ?_); refine goesL_ (some 14) rfl rfl Try.func18 (by kernel_rfl) rfl #[.slice A0 l0.length c0, .int .i64 x5_1] rfl margs_ ?_; (with_reducible refine (limelightref06_Kids.calls k1 (fun k_ => k_ < w.heap.size) _ _ l0 x5_1 t184 _ ?side1 A4.out).mono ?_); (case side1 => exact Kd.V_mk HC0.out (Kd.F_below (Kd.C_F k36_heap HR0.out) bel_)); rintro e w7 ⟨v185, rfl, ho0, hb⟩; refine ⟨_, rfl, ?_⟩; have n0_ := Aside0.mk (Kd.V_lower (Kd.V_mono (ok' := fun k_ => True) ho0 (fun k_ hk_ => trivial)) (below_size bel_)); have n1_ := Aside0.mk (below_step bel_ hb); clear HB; have HO186 := n0_; have HB := n1_; clear n0_ n1_; (try clear hb); (try clear hb2); (try clear hk); (try clear hi); (try clear ho0); obtain ⟨Ao8, co8, eo8⟩ := Kd.V_slice HO186.out; subst eo8) | ((with_reducible refine gate_callee (f := 26) rfl ?_); refine goesL_ (some 16) rfl rfl Try.func26 (by kernel_rfl) rfl #[.slice Ao8 t184.length co8, .int .i64 a1] rfl margs_ ?_; (with_reducible refine (limelightref03_In.calls k1 _ _ t184 a1 true _ ?side1 ?side2 A5.out).mono ?_); (case side1 => exact kcb_ ((Kd.V_reads' HO186.out).2.2)); (case side2 => exact (Kd.V_reads' HO186.out).2.1); rintro e w' ⟨rfl, ⟨nd, rfl⟩⟩; refine ⟨_, rfl, ?_⟩))
     go_ret
     exact ⟨by first | rfl | (simp [errW_none, errW_some] <;> rfl) | (simp [*, errW_none, errW_some] <;> rfl), bel_⟩
    ·replace c6 := Bool.eq_false_iff.mpr c6
     subst c6
     have H1 : (limelightref06_Parent.l0 k1 l0 a1 (wrap64 (x5_1 + 1))) = some r := by rw [if_neg (show ¬ (false = true) by decide)] at H; exact H
     clear H
     have H := H1
     clear H1
     have H' := Aside0.mk H
     clear H
     go_wp2_with (first | ((with_reducible refine gate_callee (f := 18) rfl ?_); refine goesL_ (some 14) rfl rfl Try.func18 (by kernel_rfl) rfl #[.slice A0 l0.length c0, .int .i64 x5_1] rfl margs_ ?_; (with_reducible refine (limelightref06_Kids.calls k1 (fun k_ => k_ < w.heap.size) _ _ l0 x5_1 t184 _ ?side1 A4.out).mono ?_); (case side1 => exact Kd.V_mk HC0.out (Kd.F_below (Kd.C_F k36_heap HR0.out) bel_)); rintro e w9 ⟨v185, rfl, ho0, hb⟩; refine ⟨_, rfl, ?_⟩; have n0_ := Aside0.mk (Kd.V_lower (Kd.V_mono (ok' := fun k_ => True) ho0 (fun k_ hk_ => trivial)) (below_size bel_)); have n1_ := Aside0.mk (below_step bel_ hb); clear HB; have HO186 := n0_; have HB := n1_; clear n0_ n1_; (try clear hb); (try clear hb2); (try clear hk); (try clear hi); (try clear ho0); obtain ⟨Ao10, co10, eo10⟩ := Kd.V_slice HO186.out; subst eo10) | ((with_reducible refine gate_callee (f := 26) rfl ?_); refine goesL_ (some 16) rfl rfl Try.func26 (by kernel_rfl) rfl #[.slice Ao10 t184.length co10, .int .i64 a1] rfl margs_ ?_; (with_reducible refine (limelightref03_In.calls k1 _ _ t184 a1 false _ ?side1 ?side2 A5.out).mono ?_); (case side1 => exact kcb_ ((Kd.V_reads' HO186.out).2.2)); (case side2 => exact (Kd.V_reads' HO186.out).2.1); rintro e w' ⟨rfl, ⟨nd, rfl⟩⟩; refine ⟨_, rfl, ?_⟩))
     go_roundg k1
     case measure => have := HK1.out; omega
     case rel => exact ⟨(wrap64 (x5_1 + 1)), (by first | rfl | (simp; done) | (simp [*]; done)), H', ⟨by have := HK1.out; omega⟩, ⟨bel_⟩⟩
   ·rw [if_neg c3] at H
    have c3b0 : decide (x5_1 < (l0.length : Int)) = false := decide_eq_false c3
    clear c3
    obtain rfl := Option.some.inj H
    go_wp2
    go_ret
    exact ⟨by first | rfl | (simp [errW_none, errW_some] <;> rfl) | (simp [*, errW_none, errW_some] <;> rfl), bel_⟩

/-! ### limelightref06_Up: function 20 -/
def limelightref06_Up.l0 : Nat → List (S36) → Int → List Int → Option (List Int)
 | 0, _, _, _ => none
 | k + 1, x0, x1, x5 => if x1 = (-1) then (some x5) else (if x5.length < 17592186044416 then ((limelightref06_Parent.f k x0 x1).bind fun t191 => (limelightref06_Up.l0 k x0 t191 (x5 ++ [x1]))) else (none))
def limelightref06_Up.f (k : Nat) (l0 : List (S36)) (a1 : Int) : Option (List Int) := limelightref06_Up.l0 k l0 a1 ([] : List Int)
theorem limelightref06_Up.mono_l : ∀ k, (∀ y0 y1 y2, LeO (limelightref06_Up.l0 k y0 y1 y2) (limelightref06_Up.l0 (k + 1) y0 y1 y2))
 | 0 => fun _ _ _ r h => by simp [limelightref06_Up.l0] at h
 | k + 1 => by
  have ih0 := limelightref06_Up.mono_l k
  ·intro y0 y1 y2
   unfold limelightref06_Up.l0
   repeat' first
   | (with_reducible exact ih0 _ _ _)
   | (with_reducible exact limelightref06_Parent.mono _ _ _)
   | (with_reducible exact LeO.refl _)
   | (with_reducible exact LeO.none _)
   | (with_reducible refine LeO.ite ?_ ?_)
   | (with_reducible refine LeO.bind ?_ (fun _ => ?_))
   | exact ih0 _ _ _
   | exact limelightref06_Parent.mono _ _ _
   | exact LeO.none _
   | refine LeO.ite ?_ ?_
   | refine LeO.bind ?_ (fun _ => ?_)
theorem limelightref06_Up.mono : ∀ a0 a1 k, LeO (limelightref06_Up.f k a0 a1) (limelightref06_Up.f (k + 1) a0 a1) := by
 intro a0 a1 k
 have ih0 := limelightref06_Up.mono_l k
 unfold limelightref06_Up.f
 repeat' first
   | (with_reducible exact ih0 _ _ _)
   | (with_reducible exact limelightref06_Parent.mono _ _ _)
   | (with_reducible exact LeO.refl _)
   | (with_reducible exact LeO.none _)
   | (with_reducible refine LeO.ite ?_ ?_)
   | (with_reducible refine LeO.bind ?_ (fun _ => ?_))
   | exact ih0 _ _ _
   | exact limelightref06_Parent.mono _ _ _
   | exact LeO.none _
   | refine LeO.ite ?_ ?_
   | refine LeO.bind ?_ (fun _ => ?_)
set_option maxHeartbeats 8000000 in
set_option maxRecDepth 100000 in
theorem limelightref06_Up.calls (k : Nat) (A0 : Option Addr) (c0 : Nat) (l0 : List (S36)) (a1 : Int) (r : List Int) (w : World) (hr0 : Kd.C k36 w A0 l0.length l0) (hc0 : l0.length ≤ c0) (h : limelightref06_Up.f k l0 a1 = some r) :
  Calls Try.prog 20 #[.slice A0 l0.length c0, .int .i64 a1] w fun e w' => ∃ v0_ : Value, e = .returned (v0_) ∧ Kd.R (Kd.int .i64) 3 w' w.heap.size (fun _ => True) v0_ r ∧ Below w.heap.size w w' := by
 have HR0 := Aside0.mk hr0
 have HC0 := Aside0.mk hc0
 clear hr0 hc0
 have HB := Aside0.mk (Below.refl w.heap.size w)
 have H : (limelightref06_Up.l0 k l0 a1 ([] : List Int)) = some r := h
 clear h
 have H' := Aside0.mk H
 clear H
 go_enter Try.func20, Try.ntmps20
 go_wp2
 go_loopg [1, 5] k (fun kq v1 v5 w' => ∃ (x1_1 : Int) (x5_1 : List Int), v1 = .int .i64 x1_1 ∧ Aside0 (limelightref06_Up.l0 kq l0 x1_1 x5_1 = some r) ∧ Aside0 (kq ≤ k) ∧ Aside0 (Kd.R (Kd.int .i64) 3 w' w.heap.size (fun _ => True) v5 x5_1) ∧ Aside0 (Below w.heap.size w w'))
 case atStart => exact ⟨(a1), (([] : List Int)), (by first | rfl | (simp; done) | (simp [*]; done)), H', ⟨Nat.le_refl _⟩, ⟨by first | exact Kd.R_nil _ _ _ _ _ | exact Kd.N_nil _ _ _ _ _ | exact Kd.V_nil _ _ _ _ _ | exact Kd.Q_nil _ _ _ _ _ | exact Kd.S_nil _ _ _ _ _⟩, ⟨bel_⟩⟩
 case round =>
  clear H'
  try clear c2
  try clear p2
  obtain ⟨x1_1, x5_1, rfl, HA, HK1, HO_5, HB⟩ := hrel
  cases gk with
  | zero => exact absurd HA.out (by simp [limelightref06_Up.l0])
  | succ k1 =>
   have H := HA.out
   clear HA
   simp only [limelightref06_Up.l0] at H
   by_cases c3 : x1_1 = (-1)
   ·rw [if_pos c3] at H
    have c3b0 : (x1_1 == (-1)) = true := beq_iff_eq.mpr c3
    have c3b1 : (x1_1 != (-1)) = false := bne_eq_false_iff_eq.mpr c3
    clear c3
    obtain rfl := Option.some.inj H
    go_wp2
    go_ret
    exact ⟨_, by first | rfl | (simp [errW_none, errW_some] <;> rfl) | (simp [*, errW_none, errW_some] <;> rfl), kra_ HO_5.out, bel_⟩
   ·rw [if_neg c3] at H
    have c3b0 : (x1_1 == (-1)) = false := beq_eq_false_iff_ne.mpr c3
    have c3b1 : (x1_1 != (-1)) = true := bne_iff_ne.mpr c3
    by_cases c4 : x5_1.length < 17592186044416
    ·rw [if_pos c4] at H
     have LMc4 := Aside0.mk c4
     clear c4
     obtain ⟨y188, hy188⟩ : ∃ y_ : List Int, y_ = (x5_1 ++ [x1_1]) := ⟨_, rfl⟩
     replace H : ((limelightref06_Parent.f k1 l0 x1_1).bind fun t191 => (limelightref06_Up.l0 k1 l0 t191 y188)) = some r := by first | (rw [hy188]; with_reducible exact H) | (have H2_ := (Option.bind_some _ _).symm.trans H; rw [hy188]; with_reducible exact H2_) | (have H2_ := (Option.bind_some _ _).symm.trans H; with_reducible exact H2_) | with_reducible exact H | (rw [hy188]; exact H) | exact H
     have Ny188 := Aside0.mk hy188
     clear hy188
     replace H := Option.bind_eq_some_iff.mp H
     obtain ⟨t191, A50, H⟩ := H
     replace H : (limelightref06_Up.l0 k1 l0 t191 y188) = some r := H
     have A5 := Aside0.mk A50
     clear A50
     have H' := Aside0.mk H
     clear H
     go_wp2_with (first | ((with_reducible refine gate_builtin (b := .append) (xs := #[.tmp 8, .tmp 10]) rfl ?_); at_builtin; refine Kd.R_append (Kd.int .i64) (w0 := w) w.heap.size rfl (.tmp 8) (.tmp 10) 27 3 (.int .i64 0) 8 rfl Try.underlying27 info3 rfl (by decide) (by omega) u5 x5_1 x1_1 [.int .i64 x1_1] (fun _ => True) (fun _ => False) rfl rfl ?aP (fun _ hk => hk.elim) ?aF ?aO ?aB ?aS ?aL ?_; (case aP => exact rfl); (case aB => exact bel_); (case aF => exact (fun _ _ => trivial)); (case aO => exact (kra_ HO_5.out)); (case aS => exact (below_size bel_)); (case aL => have := LMc4.out; omega); intro v189 w6 ho hb hg hat; rw [← Ny188.out] at ho; have n0_ := Aside0.mk (hb); have n1_ := Aside0.mk (ho); clear HB; clear HO_5; have HB := n0_; have HO190 := n1_; clear n0_ n1_; clear ho hb hg hat) | ((with_reducible refine gate_callee (f := 19) rfl ?_); refine goesL_ (some 14) rfl rfl Try.func19 (by kernel_rfl) rfl #[.slice A0 l0.length c0, .int .i64 x1_1] rfl margs_ ?_; (with_reducible refine (limelightref06_Parent.calls k1 _ _ l0 x1_1 t191 _ ?side1 ?side2 A5.out).mono ?_); (case side1 => exact kcb_ ((Kd.C_below HR0.out HB.out))); (case side2 => exact HC0.out); rintro e w7 ⟨rfl, hb⟩; refine ⟨_, rfl, ?_⟩; have n0_ := Aside0.mk (Kd.R_below (kra_ HO190.out) hb); have n1_ := Aside0.mk (below_step bel_ hb); clear HO190; clear HB; have HO190 := n0_; have HB := n1_; clear n0_ n1_; (try clear hb); (try clear hb2); (try clear hk); (try clear hi)))
     go_roundg k1
     case measure => have := HK1.out; omega
     case rel => exact ⟨(t191), (y188), (by first | rfl | (simp; done) | (simp [*]; done)), H', ⟨by have := HK1.out; omega⟩, ⟨kra_ HO190.out⟩, ⟨bel_⟩⟩
    ·rw [if_neg c4] at H
     exact absurd H (by simp)

/-! ### limelightref06_Has: function 21 -/
def limelightref06_Has.f (k : Nat) (l0 : List (S36)) (a1 : Int) : Option (Bool) := (limelightref06_Up.f k l0 a1).bind fun t192 => ((limelightref03_In.f k t192 0).bind fun t195 => (some t195))
theorem limelightref06_Has.mono : ∀ a0 a1 k, LeO (limelightref06_Has.f k a0 a1) (limelightref06_Has.f (k + 1) a0 a1) := by
 intro a0 a1 k
 unfold limelightref06_Has.f
 repeat' first
   | (with_reducible exact limelightref03_In.mono _ _ _)
   | (with_reducible exact limelightref06_Up.mono _ _ _)
   | (with_reducible exact LeO.refl _)
   | (with_reducible exact LeO.none _)
   | (with_reducible refine LeO.ite ?_ ?_)
   | (with_reducible refine LeO.bind ?_ (fun _ => ?_))
   | exact limelightref03_In.mono _ _ _
   | exact limelightref06_Up.mono _ _ _
   | exact LeO.none _
   | refine LeO.ite ?_ ?_
   | refine LeO.bind ?_ (fun _ => ?_)
set_option maxHeartbeats 8000000 in
set_option maxRecDepth 100000 in
theorem limelightref06_Has.calls (k : Nat) (A0 : Option Addr) (c0 : Nat) (l0 : List (S36)) (a1 : Int) (r : Bool) (w : World) (hr0 : Kd.C k36 w A0 l0.length l0) (hc0 : l0.length ≤ c0) (h : limelightref06_Has.f k l0 a1 = some r) :
  Calls Try.prog 21 #[.slice A0 l0.length c0, .int .i64 a1] w fun e w' => e = .returned (.bool r) ∧ Below w.heap.size w w' := by
 have HR0 := Aside0.mk hr0
 have HC0 := Aside0.mk hc0
 clear hr0 hc0
 have HB := Aside0.mk (Below.refl w.heap.size w)
 have H : ((limelightref06_Up.f k l0 a1).bind fun t192 => ((limelightref03_In.f k t192 0).bind fun t195 => (some t195))) = some r := h
 clear h
 replace H := Option.bind_eq_some_iff.mp H
 obtain ⟨t192, A30, H⟩ := H
 replace H : ((limelightref03_In.f k t192 0).bind fun t195 => (some t195)) = some r := H
 have A3 := Aside0.mk A30
 clear A30
 replace H := Option.bind_eq_some_iff.mp H
 obtain ⟨t195, A40, H⟩ := H
 replace H : (some t195) = some r := H
 have A4 := Aside0.mk A40
 clear A40
 obtain rfl := Option.some.inj H
 go_enter Try.func21, Try.ntmps21
 go_wp2_with (first | ((with_reducible refine gate_callee (f := 20) rfl ?_); refine goesL_ (some 7) rfl rfl Try.func20 (by kernel_rfl) rfl #[.slice A0 l0.length c0, .int .i64 a1] rfl margs_ ?_; (with_reducible refine (limelightref06_Up.calls k _ _ l0 a1 t192 _ ?side1 ?side2 A3.out).mono ?_); (case side1 => exact kcb_ (HR0.out)); (case side2 => exact HC0.out); rintro e w5 ⟨v193, rfl, ho0, hb⟩; refine ⟨_, rfl, ?_⟩; have n0_ := Aside0.mk (Kd.R_lower ho0 (below_size bel_)); have n1_ := Aside0.mk (below_step bel_ hb); clear HB; have HO194 := n0_; have HB := n1_; clear n0_ n1_; (try clear hb); (try clear hb2); (try clear hk); (try clear hi); (try clear ho0); obtain ⟨Ao6, co6, eo6⟩ := Kd.R_slice HO194.out; subst eo6) | ((with_reducible refine gate_callee (f := 26) rfl ?_); refine goesL_ (some 8) rfl rfl Try.func26 (by kernel_rfl) rfl #[.slice Ao6 t192.length co6, .int .i64 0] rfl margs_ ?_; (with_reducible refine (limelightref03_In.calls k _ _ t192 0 t195 _ ?side1 ?side2 A4.out).mono ?_); (case side1 => exact kcb_ ((Kd.R_reads' HO194.out).2.2)); (case side2 => exact (Kd.R_reads' HO194.out).2.1); rintro e w' ⟨rfl, ⟨nd, rfl⟩⟩; refine ⟨_, rfl, ?_⟩))
 go_ret
 exact ⟨by first | rfl | (simp [errW_none, errW_some] <;> rfl) | (simp [*, errW_none, errW_some] <;> rfl), bel_⟩

/-! ### limelightref06_Above: function 22 -/
def limelightref06_Above.f (k : Nat) (l0 : List (S36)) (a1 : Int) (a2 : Int) : Option (Bool) := (limelightref06_Up.f k l0 a2).bind fun t196 => ((limelightref03_In.f k t196 a1).bind fun t199 => (some t199))
theorem limelightref06_Above.mono : ∀ a0 a1 a2 k, LeO (limelightref06_Above.f k a0 a1 a2) (limelightref06_Above.f (k + 1) a0 a1 a2) := by
 intro a0 a1 a2 k
 unfold limelightref06_Above.f
 repeat' first
   | (with_reducible exact limelightref03_In.mono _ _ _)
   | (with_reducible exact limelightref06_Up.mono _ _ _)
   | (with_reducible exact LeO.refl _)
   | (with_reducible exact LeO.none _)
   | (with_reducible refine LeO.ite ?_ ?_)
   | (with_reducible refine LeO.bind ?_ (fun _ => ?_))
   | exact limelightref03_In.mono _ _ _
   | exact limelightref06_Up.mono _ _ _
   | exact LeO.none _
   | refine LeO.ite ?_ ?_
   | refine LeO.bind ?_ (fun _ => ?_)
set_option maxHeartbeats 8000000 in
set_option maxRecDepth 100000 in
theorem limelightref06_Above.calls (k : Nat) (A0 : Option Addr) (c0 : Nat) (l0 : List (S36)) (a1 : Int) (a2 : Int) (r : Bool) (w : World) (hr0 : Kd.C k36 w A0 l0.length l0) (hc0 : l0.length ≤ c0) (h : limelightref06_Above.f k l0 a1 a2 = some r) :
  Calls Try.prog 22 #[.slice A0 l0.length c0, .int .i64 a1, .int .i64 a2] w fun e w' => e = .returned (.bool r) ∧ Below w.heap.size w w' := by
 have HR0 := Aside0.mk hr0
 have HC0 := Aside0.mk hc0
 clear hr0 hc0
 have HB := Aside0.mk (Below.refl w.heap.size w)
 have H : ((limelightref06_Up.f k l0 a2).bind fun t196 => ((limelightref03_In.f k t196 a1).bind fun t199 => (some t199))) = some r := h
 clear h
 replace H := Option.bind_eq_some_iff.mp H
 obtain ⟨t196, A40, H⟩ := H
 replace H : ((limelightref03_In.f k t196 a1).bind fun t199 => (some t199)) = some r := H
 have A4 := Aside0.mk A40
 clear A40
 replace H := Option.bind_eq_some_iff.mp H
 obtain ⟨t199, A50, H⟩ := H
 replace H : (some t199) = some r := H
 have A5 := Aside0.mk A50
 clear A50
 obtain rfl := Option.some.inj H
 go_enter Try.func22, Try.ntmps22
 go_wp2_with (first | ((with_reducible refine gate_callee (f := 20) rfl ?_); refine goesL_ (some 9) rfl rfl Try.func20 (by kernel_rfl) rfl #[.slice A0 l0.length c0, .int .i64 a2] rfl margs_ ?_; (with_reducible refine (limelightref06_Up.calls k _ _ l0 a2 t196 _ ?side1 ?side2 A4.out).mono ?_); (case side1 => exact kcb_ (HR0.out)); (case side2 => exact HC0.out); rintro e w6 ⟨v197, rfl, ho0, hb⟩; refine ⟨_, rfl, ?_⟩; have n0_ := Aside0.mk (Kd.R_lower ho0 (below_size bel_)); have n1_ := Aside0.mk (below_step bel_ hb); clear HB; have HO198 := n0_; have HB := n1_; clear n0_ n1_; (try clear hb); (try clear hb2); (try clear hk); (try clear hi); (try clear ho0); obtain ⟨Ao7, co7, eo7⟩ := Kd.R_slice HO198.out; subst eo7) | ((with_reducible refine gate_callee (f := 26) rfl ?_); refine goesL_ (some 11) rfl rfl Try.func26 (by kernel_rfl) rfl #[.slice Ao7 t196.length co7, .int .i64 a1] rfl margs_ ?_; (with_reducible refine (limelightref03_In.calls k _ _ t196 a1 t199 _ ?side1 ?side2 A5.out).mono ?_); (case side1 => exact kcb_ ((Kd.R_reads' HO198.out).2.2)); (case side2 => exact (Kd.R_reads' HO198.out).2.1); rintro e w' ⟨rfl, ⟨nd, rfl⟩⟩; refine ⟨_, rfl, ?_⟩))
 go_ret
 exact ⟨by first | rfl | (simp [errW_none, errW_some] <;> rfl) | (simp [*, errW_none, errW_some] <;> rfl), bel_⟩

end Go.Proofs.Ytfdhfnjdafaogaa.P
