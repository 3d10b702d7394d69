import Derived.Test.YtclhmgchllenlaaPx0
import Derived.Test.YtclhmgchllenlaaPx1
import Derived.Test.YtclhmgchllenlaaPx3
import Derived.Test.YtclhmgchllenlaaPx4
import Derived.Test.YtclhmgchllenlaaGMk
import Derived.Test.YtclhmgchllenlaaLiv01
import Derived.Test.YtclhmgchllenlaaME
-- printed by wip/tools/pp.sh (a patched copy of the print's program), for this claim.
namespace Go.Proofs.Ytclhmgchllenlaa.P
open Go.RowKit Go.Proofs.YtclhmgchllenlaaW.PrintWords Go.Proofs.YtclhmgchllenlaaW.PrintLast Go.Proofs.YtclhmgchllenlaaW.PrintMore
attribute [local go_sem] max2_int min2_int max_two min_two max_three min_three max_four min_four   -- for this text's walks alone
set_option linter.unusedVariables false
set_option linter.unusedSimpArgs false

/-! ### limelightlaw01_TreeMakes: function 3 -/
def limelightlaw01_TreeMakes.f (k : Nat) (l0 : List (S49)) (a1 : Int) (a2 : Int) : Option (Bool) := (limelightref01_Small.f l0).bind fun t144 => (if t144 = true then ((tree_Make.f l0 a1 a2).bind fun bt146 => ((limelightref01_Make.f k l0 a1 a2).bind fun bt151 => ((tree_Attach.f l0 a2).bind fun bt156 => ((limelightref01_Attach.f k l0 a2).bind fun bt161 => ((limelightref01_Same.f k bt146.1 bt151.1).bind fun t166 => (if t166 = true then (if bt146.2.1 = bt151.2.1 then (if bt146.2.2 = bt151.2.2 then ((limelightref01_Same.f k bt156.1 bt161.1).bind fun t167 => (if t167 = true then (if bt156.2.1 = bt161.2.1 then (if bt156.2.2 = bt161.2.2 then ((limelightlaw01_live.f).bind fun t168 => (some t168)) else (none)) else (none)) else (none))) else (none)) else (none)) else (none))))))) else ((limelightlaw01_live.f).bind fun t145 => (some t145)))
theorem limelightlaw01_TreeMakes.mono : ∀ a0 a1 a2 k, LeO (limelightlaw01_TreeMakes.f k a0 a1 a2) (limelightlaw01_TreeMakes.f (k + 1) a0 a1 a2) := by
 intro a0 a1 a2 k
 unfold limelightlaw01_TreeMakes.f
 repeat' first
   | (with_reducible exact limelightref01_Attach.mono _ _ _)
   | (with_reducible exact limelightref01_Make.mono _ _ _ _)
   | (with_reducible exact limelightref01_Same.mono _ _ _)
   | (with_reducible exact LeO.refl _)
   | (with_reducible exact LeO.none _)
   | (with_reducible refine LeO.ite ?_ ?_)
   | (with_reducible refine LeO.bind ?_ (fun _ => ?_))
   | exact limelightref01_Attach.mono _ _ _
   | exact limelightref01_Make.mono _ _ _ _
   | exact limelightref01_Same.mono _ _ _
   | exact LeO.none _
   | refine LeO.ite ?_ ?_
   | refine LeO.bind ?_ (fun _ => ?_)
set_option maxHeartbeats 8000000 in
set_option maxRecDepth 100000 in
theorem limelightlaw01_TreeMakes.calls (k : Nat) (A0 : Option Addr) (c0 : Nat) (l0 : List (S49)) (a1 : Int) (a2 : Int) (r : Bool) (w : World) (hr0 : Kd.C k49 w A0 l0.length l0) (hc0 : l0.length ≤ c0) (h : limelightlaw01_TreeMakes.f k l0 a1 a2 = some r) :
  Calls Try.prog 3 #[.slice A0 l0.length c0, .int .i64 a1, .int .i64 a2] w fun e w' => e = .returned (.bool r) ∧ Below w.heap.size w w' := by
 have HR0 := Aside0.mk hr0
 have HC0 := Aside0.mk hc0
 clear hr0 hc0
 have HB := Aside0.mk (Below.refl w.heap.size w)
 have H : ((limelightref01_Small.f l0).bind fun t144 => (if t144 = true then ((tree_Make.f l0 a1 a2).bind fun bt146 => ((limelightref01_Make.f k l0 a1 a2).bind fun bt151 => ((tree_Attach.f l0 a2).bind fun bt156 => ((limelightref01_Attach.f k l0 a2).bind fun bt161 => ((limelightref01_Same.f k bt146.1 bt151.1).bind fun t166 => (if t166 = true then (if bt146.2.1 = bt151.2.1 then (if bt146.2.2 = bt151.2.2 then ((limelightref01_Same.f k bt156.1 bt161.1).bind fun t167 => (if t167 = true then (if bt156.2.1 = bt161.2.1 then (if bt156.2.2 = bt161.2.2 then ((limelightlaw01_live.f).bind fun t168 => (some t168)) else (none)) else (none)) else (none))) else (none)) else (none)) else (none))))))) else ((limelightlaw01_live.f).bind fun t145 => (some t145)))) = some r := h
 clear h
 replace H := Option.bind_eq_some_iff.mp H
 obtain ⟨t144, A40, H⟩ := H
 replace H : (if t144 = true then ((tree_Make.f l0 a1 a2).bind fun bt146 => ((limelightref01_Make.f k l0 a1 a2).bind fun bt151 => ((tree_Attach.f l0 a2).bind fun bt156 => ((limelightref01_Attach.f k l0 a2).bind fun bt161 => ((limelightref01_Same.f k bt146.1 bt151.1).bind fun t166 => (if t166 = true then (if bt146.2.1 = bt151.2.1 then (if bt146.2.2 = bt151.2.2 then ((limelightref01_Same.f k bt156.1 bt161.1).bind fun t167 => (if t167 = true then (if bt156.2.1 = bt161.2.1 then (if bt156.2.2 = bt161.2.2 then ((limelightlaw01_live.f).bind fun t168 => (some t168)) else (none)) else (none)) else (none))) else (none)) else (none)) else (none))))))) else ((limelightlaw01_live.f).bind fun t145 => (some t145))) = some r := H
 have A4 := Aside0.mk A40
 clear A40
 by_cases c5 : t144 = true
 ·subst c5
  have H1 : ((tree_Make.f l0 a1 a2).bind fun bt146 => ((limelightref01_Make.f k l0 a1 a2).bind fun bt151 => ((tree_Attach.f l0 a2).bind fun bt156 => ((limelightref01_Attach.f k l0 a2).bind fun bt161 => ((limelightref01_Same.f k bt146.1 bt151.1).bind fun t166 => (if t166 = true then (if bt146.2.1 = bt151.2.1 then (if bt146.2.2 = bt151.2.2 then ((limelightref01_Same.f k bt156.1 bt161.1).bind fun t167 => (if t167 = true then (if bt156.2.1 = bt161.2.1 then (if bt156.2.2 = bt161.2.2 then ((limelightlaw01_live.f).bind fun t168 => (some t168)) else (none)) else (none)) else (none))) else (none)) else (none)) else (none))))))) = some r := by rw [if_pos rfl] at H; exact H
  clear H
  have H := H1
  clear H1
  replace H := Option.bind_eq_some_iff.mp H
  obtain ⟨⟨t146, t149, t150⟩, A60, H⟩ := H
  replace H : ((limelightref01_Make.f k l0 a1 a2).bind fun bt151 => ((tree_Attach.f l0 a2).bind fun bt156 => ((limelightref01_Attach.f k l0 a2).bind fun bt161 => ((limelightref01_Same.f k t146 bt151.1).bind fun t166 => (if t166 = true then (if t149 = bt151.2.1 then (if t150 = bt151.2.2 then ((limelightref01_Same.f k bt156.1 bt161.1).bind fun t167 => (if t167 = true then (if bt156.2.1 = bt161.2.1 then (if bt156.2.2 = bt161.2.2 then ((limelightlaw01_live.f).bind fun t168 => (some t168)) else (none)) else (none)) else (none))) else (none)) else (none)) else (none)))))) = some r := H
  have A6 := Aside0.mk A60
  clear A60
  replace H := Option.bind_eq_some_iff.mp H
  obtain ⟨⟨t151, t154, t155⟩, A70, H⟩ := H
  replace H : ((tree_Attach.f l0 a2).bind fun bt156 => ((limelightref01_Attach.f k l0 a2).bind fun bt161 => ((limelightref01_Same.f k t146 t151).bind fun t166 => (if t166 = true then (if t149 = t154 then (if t150 = t155 then ((limelightref01_Same.f k bt156.1 bt161.1).bind fun t167 => (if t167 = true then (if bt156.2.1 = bt161.2.1 then (if bt156.2.2 = bt161.2.2 then ((limelightlaw01_live.f).bind fun t168 => (some t168)) else (none)) else (none)) else (none))) else (none)) else (none)) else (none))))) = some r := H
  have A7 := Aside0.mk A70
  clear A70
  replace H := Option.bind_eq_some_iff.mp H
  obtain ⟨⟨t156, t159, t160⟩, A80, H⟩ := H
  replace H : ((limelightref01_Attach.f k l0 a2).bind fun bt161 => ((limelightref01_Same.f k t146 t151).bind fun t166 => (if t166 = true then (if t149 = t154 then (if t150 = t155 then ((limelightref01_Same.f k t156 bt161.1).bind fun t167 => (if t167 = true then (if t159 = bt161.2.1 then (if t160 = bt161.2.2 then ((limelightlaw01_live.f).bind fun t168 => (some t168)) else (none)) else (none)) else (none))) else (none)) else (none)) else (none)))) = some r := H
  have A8 := Aside0.mk A80
  clear A80
  replace H := Option.bind_eq_some_iff.mp H
  obtain ⟨⟨t161, t164, t165⟩, A90, H⟩ := H
  replace H : ((limelightref01_Same.f k t146 t151).bind fun t166 => (if t166 = true then (if t149 = t154 then (if t150 = t155 then ((limelightref01_Same.f k t156 t161).bind fun t167 => (if t167 = true then (if t159 = t164 then (if t160 = t165 then ((limelightlaw01_live.f).bind fun t168 => (some t168)) else (none)) else (none)) else (none))) else (none)) else (none)) else (none))) = some r := H
  have A9 := Aside0.mk A90
  clear A90
  replace H := Option.bind_eq_some_iff.mp H
  obtain ⟨t166, A100, H⟩ := H
  replace H : (if t166 = true then (if t149 = t154 then (if t150 = t155 then ((limelightref01_Same.f k t156 t161).bind fun t167 => (if t167 = true then (if t159 = t164 then (if t160 = t165 then ((limelightlaw01_live.f).bind fun t168 => (some t168)) else (none)) else (none)) else (none))) else (none)) else (none)) else (none)) = some r := H
  have A10 := Aside0.mk A100
  clear A100
  by_cases c11 : t166 = true
  ·subst c11
   have H1 : (if t149 = t154 then (if t150 = t155 then ((limelightref01_Same.f k t156 t161).bind fun t167 => (if t167 = true then (if t159 = t164 then (if t160 = t165 then ((limelightlaw01_live.f).bind fun t168 => (some t168)) else (none)) else (none)) else (none))) else (none)) else (none)) = some r := by rw [if_pos rfl] at H; exact H
   clear H
   have H := H1
   clear H1
   by_cases c12 : t149 = t154
   ·rw [if_pos c12] at H
    have c12b0 : (t149 == t154) = true := beq_iff_eq.mpr c12
    have c12b1 : (t149 != t154) = false := bne_eq_false_iff_eq.mpr c12
    clear c12
    by_cases c13 : t150 = t155
    ·rw [if_pos c13] at H
     have c13b0 : (t150 == t155) = true := beq_iff_eq.mpr c13
     have c13b1 : (t150 != t155) = false := bne_eq_false_iff_eq.mpr c13
     clear c13
     replace H := Option.bind_eq_some_iff.mp H
     obtain ⟨t167, A140, H⟩ := H
     replace H : (if t167 = true then (if t159 = t164 then (if t160 = t165 then ((limelightlaw01_live.f).bind fun t168 => (some t168)) else (none)) else (none)) else (none)) = some r := H
     have A14 := Aside0.mk A140
     clear A140
     by_cases c15 : t167 = true
     ·subst c15
      have H1 : (if t159 = t164 then (if t160 = t165 then ((limelightlaw01_live.f).bind fun t168 => (some t168)) else (none)) else (none)) = some r := by rw [if_pos rfl] at H; exact H
      clear H
      have H := H1
      clear H1
      by_cases c16 : t159 = t164
      ·rw [if_pos c16] at H
       have c16b0 : (t159 == t164) = true := beq_iff_eq.mpr c16
       have c16b1 : (t159 != t164) = false := bne_eq_false_iff_eq.mpr c16
       clear c16
       by_cases c17 : t160 = t165
       ·rw [if_pos c17] at H
        have c17b0 : (t160 == t165) = true := beq_iff_eq.mpr c17
        have c17b1 : (t160 != t165) = false := bne_eq_false_iff_eq.mpr c17
        clear c17
        replace H := Option.bind_eq_some_iff.mp H
        obtain ⟨t168, A180, H⟩ := H
        replace H : (some t168) = some r := H
        have A18 := Aside0.mk A180
        clear A180
        obtain rfl := Option.some.inj H
        go_enter Try.func3, Try.ntmps3
        go_wp2_with (first | ((with_reducible refine gate_callee (f := 9) rfl ?_); refine goesL_ (some 20) rfl rfl Try.func9 (by kernel_rfl) rfl #[.slice A0 l0.length c0] rfl margs_ ?_; (with_reducible refine (limelightref01_Small.calls _ _ l0 true _ ?side1 ?side2 A4.out).mono ?_); (case side1 => exact kcb_ (HR0.out)); (case side2 => exact HC0.out); rintro e w19 ⟨rfl, hb⟩; refine ⟨_, rfl, ?_⟩; have n0_ := Aside0.mk (below_step bel_ hb); clear HB; have HB := n0_; clear n0_; (try clear hb); (try clear hb2); (try clear hk); (try clear hi)) | ((with_reducible refine gate_callee (f := 11) rfl ?_); refine goesL_ (some 27) rfl rfl Try.func11 (by kernel_rfl) rfl #[.slice A0 l0.length c0, .int .i64 a1, .int .i64 a2] rfl margs_ ?_; (with_reducible refine (tree_Make.calls (fun k_ => k_ < w.heap.size) _ _ l0 a1 a2 t146 t149 t150 _ ?side1 A6.out).mono ?_); (case side1 => exact Kd.V_mk HC0.out (Kd.F_below (Kd.C_F k49_heap HR0.out) bel_)); rintro e w20 ⟨v147, rfl, ho0, hb⟩; refine ⟨_, rfl, ?_⟩; have n0_ := Aside0.mk (Kd.V_lower (Kd.V_mono (ok' := fun k_ => True) ho0 (fun k_ hk_ => trivial)) (below_size bel_)); have n1_ := Aside0.mk (below_step bel_ hb); clear HB; have HO148 := n0_; have HB := n1_; clear n0_ n1_; (try clear hb); (try clear hb2); (try clear hk); (try clear hi); (try clear ho0)) | ((with_reducible refine gate_callee (f := 12) rfl ?_); refine goesL_ (some 35) rfl rfl Try.func12 (by kernel_rfl) rfl #[.slice A0 l0.length c0, .int .i64 a1, .int .i64 a2] rfl margs_ ?_; (with_reducible refine (limelightref01_Make.calls k (fun k_ => k_ < w.heap.size) _ _ l0 a1 a2 t151 t154 t155 _ ?side1 A7.out).mono ?_); (case side1 => exact Kd.V_mk HC0.out (Kd.F_below (Kd.C_F k49_heap HR0.out) bel_)); rintro e w21 ⟨v152, rfl, ho0, hb⟩; refine ⟨_, rfl, ?_⟩; have n0_ := Aside0.mk (Kd.V_below (by (with_reducible repeat (first | apply Kd.V_alloc | apply Kd.V_drewN | apply Kd.V_drew)); exact HO148.out) hb); have n1_ := Aside0.mk (Kd.V_lower (Kd.V_mono (ok' := fun k_ => True) ho0 (fun k_ hk_ => trivial)) (below_size bel_)); have n2_ := Aside0.mk (below_step bel_ hb); clear HO148; clear HB; have HO148 := n0_; have HO153 := n1_; have HB := n2_; clear n0_ n1_ n2_; (try clear hb); (try clear hb2); (try clear hk); (try clear hi); (try clear ho0)) | ((with_reducible refine gate_callee (f := 13) rfl ?_); refine goesL_ (some 42) rfl rfl Try.func13 (by kernel_rfl) rfl #[.slice A0 l0.length c0, .int .i64 a2] rfl margs_ ?_; (with_reducible refine (tree_Attach.calls (fun k_ => k_ < w.heap.size) _ _ l0 a2 t156 t159 t160 _ ?side1 A8.out).mono ?_); (case side1 => exact Kd.V_mk HC0.out (Kd.F_below (Kd.C_F k49_heap HR0.out) bel_)); rintro e w22 ⟨v157, rfl, ho0, hb⟩; refine ⟨_, rfl, ?_⟩; have n0_ := Aside0.mk (Kd.V_below (by (with_reducible repeat (first | apply Kd.V_alloc | apply Kd.V_drewN | apply Kd.V_drew)); exact HO148.out) hb); have n1_ := Aside0.mk (Kd.V_below (by (with_reducible repeat (first | apply Kd.V_alloc | apply Kd.V_drewN | apply Kd.V_drew)); exact HO153.out) hb); have n2_ := Aside0.mk (Kd.V_lower (Kd.V_mono (ok' := fun k_ => True) ho0 (fun k_ hk_ => trivial)) (below_size bel_)); have n3_ := Aside0.mk (below_step bel_ hb); clear HO148; clear HO153; clear HB; have HO148 := n0_; have HO153 := n1_; have HO158 := n2_; have HB := n3_; clear n0_ n1_ n2_ n3_; (try clear hb); (try clear hb2); (try clear hk); (try clear hi); (try clear ho0)) | ((with_reducible refine gate_callee (f := 14) rfl ?_); refine goesL_ (some 49) rfl rfl Try.func14 (by kernel_rfl) rfl #[.slice A0 l0.length c0, .int .i64 a2] rfl margs_ ?_; (with_reducible refine (limelightref01_Attach.calls k (fun k_ => k_ < w.heap.size) _ _ l0 a2 t161 t164 t165 _ ?side1 A9.out).mono ?_); (case side1 => exact Kd.V_mk HC0.out (Kd.F_below (Kd.C_F k49_heap HR0.out) bel_)); rintro e w23 ⟨v162, rfl, ho0, hb⟩; refine ⟨_, rfl, ?_⟩; have n0_ := Aside0.mk (Kd.V_below (by (with_reducible repeat (first | apply Kd.V_alloc | apply Kd.V_drewN | apply Kd.V_drew)); exact HO148.out) hb); have n1_ := Aside0.mk (Kd.V_below (by (with_reducible repeat (first | apply Kd.V_alloc | apply Kd.V_drewN | apply Kd.V_drew)); exact HO153.out) hb); have n2_ := Aside0.mk (Kd.V_below (by (with_reducible repeat (first | apply Kd.V_alloc | apply Kd.V_drewN | apply Kd.V_drew)); exact HO158.out) hb); have n3_ := Aside0.mk (Kd.V_lower (Kd.V_mono (ok' := fun k_ => True) ho0 (fun k_ hk_ => trivial)) (below_size bel_)); have n4_ := Aside0.mk (below_step bel_ hb); clear HO148; clear HO153; clear HO158; clear HB; have HO148 := n0_; have HO153 := n1_; have HO158 := n2_; have HO163 := n3_; have HB := n4_; clear n0_ n1_ n2_ n3_ n4_; (try clear hb); (try clear hb2); (try clear hk); (try clear hi); (try clear ho0); obtain ⟨Ao24, co24, eo24⟩ := Kd.V_slice HO148.out; subst eo24; obtain ⟨Ao25, co25, eo25⟩ := Kd.V_slice HO153.out; subst eo25) | ((with_reducible refine gate_callee (f := 15) rfl ?_); refine goesL_ (some 55) rfl rfl Try.func15 (by kernel_rfl) rfl #[.slice Ao24 t146.length co24, .slice Ao25 t151.length co25] rfl margs_ ?_; (with_reducible refine (limelightref01_Same.calls k _ _ t146 _ _ t151 true _ ?side1 ?side2 ?side3 ?side4 A10.out).mono ?_); (case side1 => exact kcb_ ((Kd.V_reads' HO148.out).2.2)); (case side2 => exact (Kd.V_reads' HO148.out).2.1); (case side3 => exact kcb_ ((Kd.V_reads' HO153.out).2.2)); (case side4 => exact (Kd.V_reads' HO153.out).2.1); rintro e w26 ⟨rfl, hb⟩; refine ⟨_, rfl, ?_⟩; have n0_ := Aside0.mk (Kd.V_below (by (with_reducible repeat (first | apply Kd.V_alloc | apply Kd.V_drewN | apply Kd.V_drew)); exact HO148.out) hb); have n1_ := Aside0.mk (Kd.V_below (by (with_reducible repeat (first | apply Kd.V_alloc | apply Kd.V_drewN | apply Kd.V_drew)); exact HO153.out) hb); have n2_ := Aside0.mk (Kd.V_below (by (with_reducible repeat (first | apply Kd.V_alloc | apply Kd.V_drewN | apply Kd.V_drew)); exact HO158.out) hb); have n3_ := Aside0.mk (Kd.V_below (by (with_reducible repeat (first | apply Kd.V_alloc | apply Kd.V_drewN | apply Kd.V_drew)); exact HO163.out) hb); have n4_ := Aside0.mk (below_step bel_ hb); clear HO148; clear HO153; clear HO158; clear HO163; clear HB; have HO148 := n0_; have HO153 := n1_; have HO158 := n2_; have HO163 := n3_; have HB := n4_; clear n0_ n1_ n2_ n3_ n4_; (try clear hb); (try clear hb2); (try clear hk); (try clear hi); obtain ⟨Ao27, co27, eo27⟩ := Kd.V_slice HO158.out; subst eo27; obtain ⟨Ao28, co28, eo28⟩ := Kd.V_slice HO163.out; subst eo28) | (go_at_call 15; (with_reducible refine (limelightref01_Same.calls k _ _ t156 _ _ t161 true _ ?side1 ?side2 ?side3 ?side4 A14.out).mono ?_); (case side1 => exact kcb_ ((Kd.V_reads' HO158.out).2.2)); (case side2 => exact (Kd.V_reads' HO158.out).2.1); (case side3 => exact kcb_ ((Kd.V_reads' HO163.out).2.2)); (case side4 => exact (Kd.V_reads' HO163.out).2.1); rintro e w29 ⟨rfl, hb⟩; have n0_ := Aside0.mk (Kd.V_below (by (with_reducible repeat (first | apply Kd.V_alloc | apply Kd.V_drewN | apply Kd.V_drew)); exact HO148.out) hb); have n1_ := Aside0.mk (Kd.V_below (by (with_reducible repeat (first | apply Kd.V_alloc | apply Kd.V_drewN | apply Kd.V_drew)); exact HO153.out) hb); have n2_ := Aside0.mk (Kd.V_below (by (with_reducible repeat (first | apply Kd.V_alloc | apply Kd.V_drewN | apply Kd.V_drew)); exact HO158.out) hb); have n3_ := Aside0.mk (Kd.V_below (by (with_reducible repeat (first | apply Kd.V_alloc | apply Kd.V_drewN | apply Kd.V_drew)); exact HO163.out) hb); have n4_ := Aside0.mk (below_step bel_ hb); clear HO148; clear HO153; clear HO158; clear HO163; clear HB; have HO148 := n0_; have HO153 := n1_; have HO158 := n2_; have HO163 := n3_; have HB := n4_; clear n0_ n1_ n2_ n3_ n4_; (try clear hb); (try clear hb2); (try clear hk); (try clear hi)) | (go_at_call 10; (with_reducible refine (limelightlaw01_live.calls  t168 _ A18.out).mono ?_); rintro e w30 ⟨rfl, hb⟩; have n0_ := Aside0.mk (Kd.V_below (by (with_reducible repeat (first | apply Kd.V_alloc | apply Kd.V_drewN | apply Kd.V_drew)); exact HO148.out) hb); have n1_ := Aside0.mk (Kd.V_below (by (with_reducible repeat (first | apply Kd.V_alloc | apply Kd.V_drewN | apply Kd.V_drew)); exact HO153.out) hb); have n2_ := Aside0.mk (Kd.V_below (by (with_reducible repeat (first | apply Kd.V_alloc | apply Kd.V_drewN | apply Kd.V_drew)); exact HO158.out) hb); have n3_ := Aside0.mk (Kd.V_below (by (with_reducible repeat (first | apply Kd.V_alloc | apply Kd.V_drewN | apply Kd.V_drew)); exact HO163.out) hb); have n4_ := Aside0.mk (below_step bel_ hb); clear HO148; clear HO153; clear HO158; clear HO163; clear HB; have HO148 := n0_; have HO153 := n1_; have HO158 := n2_; have HO163 := n3_; have HB := n4_; clear n0_ n1_ n2_ n3_ n4_; (try clear hb); (try clear hb2); (try clear hk); (try clear hi)))
        go_ret
        exact ⟨by first | rfl | (simp [errW_none, errW_some] <;> rfl) | (simp [*, errW_none, errW_some] <;> rfl), bel_⟩
       ·rw [if_neg c17] at H
        exact absurd H (by simp)
      ·rw [if_neg c16] at H
       exact absurd H (by simp)
     ·replace c15 := Bool.eq_false_iff.mpr c15
      subst c15
      have H1 : (none) = some r := by rw [if_neg (show ¬ (false = true) by decide)] at H; exact H
      clear H
      have H := H1
      clear H1
      exact absurd H (by simp)
    ·rw [if_neg c13] at H
     exact absurd H (by simp)
   ·rw [if_neg c12] at H
    exact absurd H (by simp)
  ·replace c11 := Bool.eq_false_iff.mpr c11
   subst c11
   have H1 : (none) = some r := by rw [if_neg (show ¬ (false = true) by decide)] at H; exact H
   clear H
   have H := H1
   clear H1
   exact absurd H (by simp)
 ·replace c5 := Bool.eq_false_iff.mpr c5
  subst c5
  have H1 : ((limelightlaw01_live.f).bind fun t145 => (some t145)) = some r := by rw [if_neg (show ¬ (false = true) by decide)] at H; exact H
  clear H
  have H := H1
  clear H1
  replace H := Option.bind_eq_some_iff.mp H
  obtain ⟨t145, A310, H⟩ := H
  replace H : (some t145) = some r := H
  have A31 := Aside0.mk A310
  clear A310
  obtain rfl := Option.some.inj H
  go_enter Try.func3, Try.ntmps3
  go_wp2_with (first | ((with_reducible refine gate_callee (f := 9) rfl ?_); refine goesL_ (some 20) rfl rfl Try.func9 (by kernel_rfl) rfl #[.slice A0 l0.length c0] rfl margs_ ?_; (with_reducible refine (limelightref01_Small.calls _ _ l0 false _ ?side1 ?side2 A4.out).mono ?_); (case side1 => exact kcb_ (HR0.out)); (case side2 => exact HC0.out); rintro e w32 ⟨rfl, hb⟩; refine ⟨_, rfl, ?_⟩; have n0_ := Aside0.mk (below_step bel_ hb); clear HB; have HB := n0_; clear n0_; (try clear hb); (try clear hb2); (try clear hk); (try clear hi)) | ((with_reducible refine gate_callee (f := 10) rfl ?_); refine goesL_ (some 22) rfl rfl Try.func10 (by kernel_rfl) rfl #[] rfl margs_ ?_; (with_reducible refine (limelightlaw01_live.calls  t145 _ A31.out).mono ?_); rintro e w33 ⟨rfl, hb⟩; refine ⟨_, rfl, ?_⟩; have n0_ := Aside0.mk (below_step bel_ hb); clear HB; have HB := n0_; clear n0_; (try clear hb); (try clear hb2); (try clear hk); (try clear hi)))
  go_ret
  exact ⟨by first | rfl | (simp [errW_none, errW_some] <;> rfl) | (simp [*, errW_none, errW_some] <;> rfl), bel_⟩

-- GIVEN: function 17 (tree_Insert): GMk|S

end Go.Proofs.Ytclhmgchllenlaa.P
