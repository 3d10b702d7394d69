-- printed by wip/tools/pp.sh (a patched copy of the print's program), for this claim.
import Derived.Test.YtcmcjfiaemchoaaPx0
import Derived.Test.YtcmcjfiaemchoaaPx1
import Derived.Test.YtcmcjfiaemchoaaPx3
import Derived.Test.YtcmcjfiaemchoaaME
import Derived.Test.YtcmcjfiaemchoaaMT
import Derived.Test.YtcmcjfiaemchoaaMV
namespace Go.Proofs.Ytcmcjfiaemchoaa.P
open Go.RowKit Go.Proofs.YtcmcjfiaemchoaaW.PrintWords Go.Proofs.YtcmcjfiaemchoaaW.PrintLast Go.Proofs.YtcmcjfiaemchoaaW.PrintMore
attribute [local go_sem] max2_int min2_int max_two min_two max_three min_three max_four min_four   -- for this text's walks alone
set_option linter.unusedVariables false
set_option linter.unusedSimpArgs false

/-! ### limelightlaw05_SlotsTell: function 3 -/
def limelightlaw05_SlotsTell.f (k : Nat) (l0 : List (S35)) (a1 : Int) : Option (Bool) := (limelightref01_Few.f l0).bind fun t176 => (if t176 = true then ((limelightref03_Both.f l0 a1 a1).bind fun t178 => (if t178 = true then ((slots_Of.f l0 a1).bind fun t187 => ((limelightref05_Of.f k l0 a1).bind fun t188 => (if t187 = t188 then ((slots_Assigned.f l0 a1).bind fun t189 => ((limelightref05_Assigned.f k l0 a1).bind fun t192 => ((limelightref01_Ints.f t189 t192).bind fun t195 => (if t195 = true then ((slots_All.f l0 a1).bind fun t196 => ((limelightref05_All.f k l0 a1).bind fun t199 => ((limelightref01_Ints.f t196 t199).bind fun t202 => (if t202 = true then ((limelightlaw05_live.f).bind fun t203 => (some t203)) else (none))))) else (none))))) else (none)))) else ((slots_Of.f l0 a1).bind fun t179 => (if t179 = (-1) then ((slots_Assigned.f l0 a1).bind fun t180 => (if (t180.length : Int) = 0 then ((slots_All.f l0 a1).bind fun t183 => (if (t183.length : Int) = 0 then ((limelightlaw05_live.f).bind fun t186 => (some t186)) else (none))) else (none))) else (none))))) else ((limelightlaw05_live.f).bind fun t177 => (some t177)))
theorem limelightlaw05_SlotsTell.mono : ∀ a0 a1 k, LeO (limelightlaw05_SlotsTell.f k a0 a1) (limelightlaw05_SlotsTell.f (k + 1) a0 a1) := by
  intro a0 a1 k
  unfold limelightlaw05_SlotsTell.f
  repeat' first
      | (with_reducible exact limelightref05_All.mono _ _ _)
      | (with_reducible exact limelightref05_Assigned.mono _ _ _)
      | (with_reducible exact limelightref05_Of.mono _ _ _)
      | (with_reducible exact LeO.refl _)
      | (with_reducible exact LeO.none _)
      | (with_reducible refine LeO.ite ?_ ?_)
      | (with_reducible refine LeO.bind ?_ (fun _ => ?_))
      | exact limelightref05_All.mono _ _ _
      | exact limelightref05_Assigned.mono _ _ _
      | exact limelightref05_Of.mono _ _ _
      | exact LeO.none _
      | refine LeO.ite ?_ ?_
      | refine LeO.bind ?_ (fun _ => ?_)
set_option maxHeartbeats 8000000 in
set_option maxRecDepth 100000 in
theorem limelightlaw05_SlotsTell.calls (k : Nat) (A0 : Option Addr) (c0 : Nat) (l0 : List (S35)) (a1 : Int) (r : Bool) (w : World) (hr0 : Kd.C k35 w A0 l0.length l0) (hc0 : l0.length ≤ c0) (h : limelightlaw05_SlotsTell.f k l0 a1 = some r) :
    Calls Try.prog 3 #[.slice A0 l0.length c0, .int .i64 a1] w fun e w' => e = .returned (.bool r) ∧ Below w.heap.size w w' := by
  have HR0 := Aside0.mk hr0
  have HC0 := Aside0.mk hc0
  clear hr0 hc0
  have HB := Aside0.mk (Below.refl w.heap.size w)
  have H : ((limelightref01_Few.f l0).bind fun t176 => (if t176 = true then ((limelightref03_Both.f l0 a1 a1).bind fun t178 => (if t178 = true then ((slots_Of.f l0 a1).bind fun t187 => ((limelightref05_Of.f k l0 a1).bind fun t188 => (if t187 = t188 then ((slots_Assigned.f l0 a1).bind fun t189 => ((limelightref05_Assigned.f k l0 a1).bind fun t192 => ((limelightref01_Ints.f t189 t192).bind fun t195 => (if t195 = true then ((slots_All.f l0 a1).bind fun t196 => ((limelightref05_All.f k l0 a1).bind fun t199 => ((limelightref01_Ints.f t196 t199).bind fun t202 => (if t202 = true then ((limelightlaw05_live.f).bind fun t203 => (some t203)) else (none))))) else (none))))) else (none)))) else ((slots_Of.f l0 a1).bind fun t179 => (if t179 = (-1) then ((slots_Assigned.f l0 a1).bind fun t180 => (if (t180.length : Int) = 0 then ((slots_All.f l0 a1).bind fun t183 => (if (t183.length : Int) = 0 then ((limelightlaw05_live.f).bind fun t186 => (some t186)) else (none))) else (none))) else (none))))) else ((limelightlaw05_live.f).bind fun t177 => (some t177)))) = some r := h
  clear h
  replace H := Option.bind_eq_some_iff.mp H
  obtain ⟨t176, A30, H⟩ := H
  replace H : (if t176 = true then ((limelightref03_Both.f l0 a1 a1).bind fun t178 => (if t178 = true then ((slots_Of.f l0 a1).bind fun t187 => ((limelightref05_Of.f k l0 a1).bind fun t188 => (if t187 = t188 then ((slots_Assigned.f l0 a1).bind fun t189 => ((limelightref05_Assigned.f k l0 a1).bind fun t192 => ((limelightref01_Ints.f t189 t192).bind fun t195 => (if t195 = true then ((slots_All.f l0 a1).bind fun t196 => ((limelightref05_All.f k l0 a1).bind fun t199 => ((limelightref01_Ints.f t196 t199).bind fun t202 => (if t202 = true then ((limelightlaw05_live.f).bind fun t203 => (some t203)) else (none))))) else (none))))) else (none)))) else ((slots_Of.f l0 a1).bind fun t179 => (if t179 = (-1) then ((slots_Assigned.f l0 a1).bind fun t180 => (if (t180.length : Int) = 0 then ((slots_All.f l0 a1).bind fun t183 => (if (t183.length : Int) = 0 then ((limelightlaw05_live.f).bind fun t186 => (some t186)) else (none))) else (none))) else (none))))) else ((limelightlaw05_live.f).bind fun t177 => (some t177))) = some r := H
  have A3 := Aside0.mk A30
  clear A30
  by_cases c4 : t176 = true
  · subst c4
    have H1 : ((limelightref03_Both.f l0 a1 a1).bind fun t178 => (if t178 = true then ((slots_Of.f l0 a1).bind fun t187 => ((limelightref05_Of.f k l0 a1).bind fun t188 => (if t187 = t188 then ((slots_Assigned.f l0 a1).bind fun t189 => ((limelightref05_Assigned.f k l0 a1).bind fun t192 => ((limelightref01_Ints.f t189 t192).bind fun t195 => (if t195 = true then ((slots_All.f l0 a1).bind fun t196 => ((limelightref05_All.f k l0 a1).bind fun t199 => ((limelightref01_Ints.f t196 t199).bind fun t202 => (if t202 = true then ((limelightlaw05_live.f).bind fun t203 => (some t203)) else (none))))) else (none))))) else (none)))) else ((slots_Of.f l0 a1).bind fun t179 => (if t179 = (-1) then ((slots_Assigned.f l0 a1).bind fun t180 => (if (t180.length : Int) = 0 then ((slots_All.f l0 a1).bind fun t183 => (if (t183.length : Int) = 0 then ((limelightlaw05_live.f).bind fun t186 => (some t186)) else (none))) else (none))) else (none))))) = some r := by rw [if_pos rfl] at H; exact H
    clear H
    have H := H1
    clear H1
    replace H := Option.bind_eq_some_iff.mp H
    obtain ⟨t178, A50, H⟩ := H
    replace H : (if t178 = true then ((slots_Of.f l0 a1).bind fun t187 => ((limelightref05_Of.f k l0 a1).bind fun t188 => (if t187 = t188 then ((slots_Assigned.f l0 a1).bind fun t189 => ((limelightref05_Assigned.f k l0 a1).bind fun t192 => ((limelightref01_Ints.f t189 t192).bind fun t195 => (if t195 = true then ((slots_All.f l0 a1).bind fun t196 => ((limelightref05_All.f k l0 a1).bind fun t199 => ((limelightref01_Ints.f t196 t199).bind fun t202 => (if t202 = true then ((limelightlaw05_live.f).bind fun t203 => (some t203)) else (none))))) else (none))))) else (none)))) else ((slots_Of.f l0 a1).bind fun t179 => (if t179 = (-1) then ((slots_Assigned.f l0 a1).bind fun t180 => (if (t180.length : Int) = 0 then ((slots_All.f l0 a1).bind fun t183 => (if (t183.length : Int) = 0 then ((limelightlaw05_live.f).bind fun t186 => (some t186)) else (none))) else (none))) else (none)))) = some r := H
    have A5 := Aside0.mk A50
    clear A50
    by_cases c6 : t178 = true
    · subst c6
      have H1 : ((slots_Of.f l0 a1).bind fun t187 => ((limelightref05_Of.f k l0 a1).bind fun t188 => (if t187 = t188 then ((slots_Assigned.f l0 a1).bind fun t189 => ((limelightref05_Assigned.f k l0 a1).bind fun t192 => ((limelightref01_Ints.f t189 t192).bind fun t195 => (if t195 = true then ((slots_All.f l0 a1).bind fun t196 => ((limelightref05_All.f k l0 a1).bind fun t199 => ((limelightref01_Ints.f t196 t199).bind fun t202 => (if t202 = true then ((limelightlaw05_live.f).bind fun t203 => (some t203)) else (none))))) else (none))))) else (none)))) = some r := by rw [if_pos rfl] at H; exact H
      clear H
      have H := H1
      clear H1
      replace H := Option.bind_eq_some_iff.mp H
      obtain ⟨t187, A70, H⟩ := H
      replace H : ((limelightref05_Of.f k l0 a1).bind fun t188 => (if t187 = t188 then ((slots_Assigned.f l0 a1).bind fun t189 => ((limelightref05_Assigned.f k l0 a1).bind fun t192 => ((limelightref01_Ints.f t189 t192).bind fun t195 => (if t195 = true then ((slots_All.f l0 a1).bind fun t196 => ((limelightref05_All.f k l0 a1).bind fun t199 => ((limelightref01_Ints.f t196 t199).bind fun t202 => (if t202 = true then ((limelightlaw05_live.f).bind fun t203 => (some t203)) else (none))))) else (none))))) else (none))) = some r := H
      have A7 := Aside0.mk A70
      clear A70
      replace H := Option.bind_eq_some_iff.mp H
      obtain ⟨t188, A80, H⟩ := H
      replace H : (if t187 = t188 then ((slots_Assigned.f l0 a1).bind fun t189 => ((limelightref05_Assigned.f k l0 a1).bind fun t192 => ((limelightref01_Ints.f t189 t192).bind fun t195 => (if t195 = true then ((slots_All.f l0 a1).bind fun t196 => ((limelightref05_All.f k l0 a1).bind fun t199 => ((limelightref01_Ints.f t196 t199).bind fun t202 => (if t202 = true then ((limelightlaw05_live.f).bind fun t203 => (some t203)) else (none))))) else (none))))) else (none)) = some r := H
      have A8 := Aside0.mk A80
      clear A80
      by_cases c9 : t187 = t188
      · rw [if_pos c9] at H
        have c9b0 : (t187 == t188) = true := beq_iff_eq.mpr c9
        have c9b1 : (t187 != t188) = false := bne_eq_false_iff_eq.mpr c9
        clear c9
        replace H := Option.bind_eq_some_iff.mp H
        obtain ⟨t189, A100, H⟩ := H
        replace H : ((limelightref05_Assigned.f k l0 a1).bind fun t192 => ((limelightref01_Ints.f t189 t192).bind fun t195 => (if t195 = true then ((slots_All.f l0 a1).bind fun t196 => ((limelightref05_All.f k l0 a1).bind fun t199 => ((limelightref01_Ints.f t196 t199).bind fun t202 => (if t202 = true then ((limelightlaw05_live.f).bind fun t203 => (some t203)) else (none))))) else (none)))) = some r := H
        have A10 := Aside0.mk A100
        clear A100
        replace H := Option.bind_eq_some_iff.mp H
        obtain ⟨t192, A110, H⟩ := H
        replace H : ((limelightref01_Ints.f t189 t192).bind fun t195 => (if t195 = true then ((slots_All.f l0 a1).bind fun t196 => ((limelightref05_All.f k l0 a1).bind fun t199 => ((limelightref01_Ints.f t196 t199).bind fun t202 => (if t202 = true then ((limelightlaw05_live.f).bind fun t203 => (some t203)) else (none))))) else (none))) = some r := H
        have A11 := Aside0.mk A110
        clear A110
        replace H := Option.bind_eq_some_iff.mp H
        obtain ⟨t195, A120, H⟩ := H
        replace H : (if t195 = true then ((slots_All.f l0 a1).bind fun t196 => ((limelightref05_All.f k l0 a1).bind fun t199 => ((limelightref01_Ints.f t196 t199).bind fun t202 => (if t202 = true then ((limelightlaw05_live.f).bind fun t203 => (some t203)) else (none))))) else (none)) = some r := H
        have A12 := Aside0.mk A120
        clear A120
        by_cases c13 : t195 = true
        · subst c13
          have H1 : ((slots_All.f l0 a1).bind fun t196 => ((limelightref05_All.f k l0 a1).bind fun t199 => ((limelightref01_Ints.f t196 t199).bind fun t202 => (if t202 = true then ((limelightlaw05_live.f).bind fun t203 => (some t203)) else (none))))) = some r := by rw [if_pos rfl] at H; exact H
          clear H
          have H := H1
          clear H1
          replace H := Option.bind_eq_some_iff.mp H
          obtain ⟨t196, A140, H⟩ := H
          replace H : ((limelightref05_All.f k l0 a1).bind fun t199 => ((limelightref01_Ints.f t196 t199).bind fun t202 => (if t202 = true then ((limelightlaw05_live.f).bind fun t203 => (some t203)) else (none)))) = some r := H
          have A14 := Aside0.mk A140
          clear A140
          replace H := Option.bind_eq_some_iff.mp H
          obtain ⟨t199, A150, H⟩ := H
          replace H : ((limelightref01_Ints.f t196 t199).bind fun t202 => (if t202 = true then ((limelightlaw05_live.f).bind fun t203 => (some t203)) else (none))) = some r := H
          have A15 := Aside0.mk A150
          clear A150
          replace H := Option.bind_eq_some_iff.mp H
          obtain ⟨t202, A160, H⟩ := H
          replace H : (if t202 = true then ((limelightlaw05_live.f).bind fun t203 => (some t203)) else (none)) = some r := H
          have A16 := Aside0.mk A160
          clear A160
          by_cases c17 : t202 = true
          · subst c17
            have H1 : ((limelightlaw05_live.f).bind fun t203 => (some t203)) = some r := by rw [if_pos rfl] at H; exact H
            clear H
            have H := H1
            clear H1
            replace H := Option.bind_eq_some_iff.mp H
            obtain ⟨t203, A180, H⟩ := H
            replace H : (some t203) = some r := H
            have A18 := Aside0.mk A180
            clear A180
            obtain rfl := Option.some.inj H
            go_enter Try.func3, Try.ntmps3
            go_wp2_with (first | ((with_reducible refine gate_callee (f := 9) rfl ?_); refine goesL_ (some 6) rfl rfl Try.func9 (by kernel_rfl) rfl #[.slice A0 l0.length c0] rfl (by (try simp only [List.map_toArray, List.map_cons, List.map_nil]); first | done | rfl | (simp only [List.length_drop, List.length_take]; rfl)) ?_; (with_reducible refine (limelightref01_Few.calls _ _ l0 true _ ?side1 ?side2 A3.out).mono ?_); (case side1 => repeat (first | exact HR0.out | (with_reducible refine Kd.C_alloc ?_ _) | (with_reducible refine Kd.C_drewN ?_ _) | (with_reducible refine Kd.C_drew ?_))); (case side2 => exact HC0.out); rintro e w19 ⟨rfl, hb⟩; refine ⟨_, rfl, ?_⟩; have n0_ := Aside0.mk (below_step (by repeat (first | (with_reducible first | exact HB.out | apply below_alloc | apply pw_below_drewN | apply below_drew1) | exact HB.out)) hb); clear HB; have HB := n0_; clear n0_; (try clear hb); (try clear hb2); (try clear hk); (try clear hi)) | ((with_reducible refine gate_callee (f := 11) rfl ?_); refine goesL_ (some 12) rfl rfl Try.func11 (by kernel_rfl) rfl #[.slice A0 l0.length c0, .int .i64 a1, .int .i64 a1] rfl (by (try simp only [List.map_toArray, List.map_cons, List.map_nil]); first | done | rfl | (simp only [List.length_drop, List.length_take]; rfl)) ?_; (with_reducible refine (limelightref03_Both.calls _ _ l0 a1 a1 true _ ?side1 ?side2 A5.out).mono ?_); (case side1 => repeat (first | exact (Kd.C_below HR0.out HB.out) | (with_reducible refine Kd.C_alloc ?_ _) | (with_reducible refine Kd.C_drewN ?_ _) | (with_reducible refine Kd.C_drew ?_))); (case side2 => exact HC0.out); rintro e w20 ⟨rfl, hb⟩; refine ⟨_, rfl, ?_⟩; have n0_ := Aside0.mk (below_step (by repeat (first | (with_reducible first | exact HB.out | apply below_alloc | apply pw_below_drewN | apply below_drew1) | exact HB.out)) hb); clear HB; have HB := n0_; clear n0_; (try clear hb); (try clear hb2); (try clear hk); (try clear hi)) | ((with_reducible refine gate_callee (f := 12) rfl ?_); refine goesL_ (some 37) rfl rfl Try.func12 (by kernel_rfl) rfl #[.slice A0 l0.length c0, .int .i64 a1] rfl (by (try simp only [List.map_toArray, List.map_cons, List.map_nil]); first | done | rfl | (simp only [List.length_drop, List.length_take]; rfl)) ?_; (with_reducible refine (slots_Of.calls _ _ l0 a1 t187 _ ?side1 ?side2 A7.out).mono ?_); (case side1 => repeat (first | exact (Kd.C_below HR0.out HB.out) | (with_reducible refine Kd.C_alloc ?_ _) | (with_reducible refine Kd.C_drewN ?_ _) | (with_reducible refine Kd.C_drew ?_))); (case side2 => exact HC0.out); rintro e w21 ⟨rfl, hb⟩; refine ⟨_, rfl, ?_⟩; have n0_ := Aside0.mk (below_step (by repeat (first | (with_reducible first | exact HB.out | apply below_alloc | apply pw_below_drewN | apply below_drew1) | exact HB.out)) hb); clear HB; have HB := n0_; clear n0_; (try clear hb); (try clear hb2); (try clear hk); (try clear hi)) | ((with_reducible refine gate_callee (f := 15) rfl ?_); refine goesL_ (some 40) rfl rfl Try.func15 (by kernel_rfl) rfl #[.slice A0 l0.length c0, .int .i64 a1] rfl (by (try simp only [List.map_toArray, List.map_cons, List.map_nil]); first | done | rfl | (simp only [List.length_drop, List.length_take]; rfl)) ?_; (with_reducible refine (limelightref05_Of.calls k _ _ l0 a1 t188 _ ?side1 ?side2 A8.out).mono ?_); (case side1 => repeat (first | exact (Kd.C_below HR0.out HB.out) | (with_reducible refine Kd.C_alloc ?_ _) | (with_reducible refine Kd.C_drewN ?_ _) | (with_reducible refine Kd.C_drew ?_))); (case side2 => exact HC0.out); rintro e w22 ⟨rfl, hb⟩; refine ⟨_, rfl, ?_⟩; have n0_ := Aside0.mk (below_step (by repeat (first | (with_reducible first | exact HB.out | apply below_alloc | apply pw_below_drewN | apply below_drew1) | exact HB.out)) hb); clear HB; have HB := n0_; clear n0_; (try clear hb); (try clear hb2); (try clear hk); (try clear hi)) | (go_at_call 13; (with_reducible refine (slots_Assigned.calls _ _ l0 a1 t189 _ ?side1 ?side2 A10.out).mono ?_); (case side1 => repeat (first | exact (Kd.C_below HR0.out HB.out) | (with_reducible refine Kd.C_alloc ?_ _) | (with_reducible refine Kd.C_drewN ?_ _) | (with_reducible refine Kd.C_drew ?_))); (case side2 => exact HC0.out); rintro e w23 ⟨v190, rfl, ho0, hb⟩; have n0_ := Aside0.mk (Kd.R_lower ho0 (below_size (by repeat (first | (with_reducible first | exact HB.out | apply below_alloc | apply pw_below_drewN | apply below_drew1) | exact HB.out)))); have n1_ := Aside0.mk (below_step (by repeat (first | (with_reducible first | exact HB.out | apply below_alloc | apply pw_below_drewN | apply below_drew1) | exact HB.out)) hb); clear HB; have HO191 := n0_; have HB := n1_; clear n0_ n1_; (try clear hb); (try clear hb2); (try clear hk); (try clear hi); (try clear ho0)) | (go_at_call 17; (with_reducible refine (limelightref05_Assigned.calls k _ _ l0 a1 t192 _ ?side1 ?side2 A11.out).mono ?_); (case side1 => repeat (first | exact (Kd.C_below HR0.out HB.out) | (with_reducible refine Kd.C_alloc ?_ _) | (with_reducible refine Kd.C_drewN ?_ _) | (with_reducible refine Kd.C_drew ?_))); (case side2 => exact HC0.out); rintro e w24 ⟨v193, rfl, ho0, hb⟩; have n0_ := Aside0.mk (Kd.R_elder' (by (with_reducible repeat (first | apply Kd.R_alloc | apply Kd.R_drewN | apply Kd.R_drew)); exact HO191.out) (Kd.R_base ho0) hb); have n1_ := Aside0.mk (Kd.R_lower (Kd.R_new' ho0 (Kd.R_lt (by (with_reducible repeat (first | apply Kd.R_alloc | apply Kd.R_drewN | apply Kd.R_drew)); exact HO191.out))) (below_size (by repeat (first | (with_reducible first | exact HB.out | apply below_alloc | apply pw_below_drewN | apply below_drew1) | exact HB.out)))); have n2_ := Aside0.mk (below_step (by repeat (first | (with_reducible first | exact HB.out | apply below_alloc | apply pw_below_drewN | apply below_drew1) | exact HB.out)) hb); clear HO191; clear HB; have HO191 := n0_; have HO194 := n1_; have HB := n2_; clear n0_ n1_ n2_; (try clear hb); (try clear hb2); (try clear hk); (try clear hi); (try clear ho0); obtain ⟨Ao25, co25, eo25⟩ := Kd.R_slice HO191.out; subst eo25; obtain ⟨Ao26, co26, eo26⟩ := Kd.R_slice HO194.out; subst eo26) | (go_at_call 16; (with_reducible refine (limelightref01_Ints.calls _ _ t189 _ _ t192 true _ ?side1 ?side2 ?side3 ?side4 A12.out).mono ?_); (case side1 => repeat (first | exact (Kd.R_reads' HO191.out).2.2 | (with_reducible refine Kd.C_alloc ?_ _) | (with_reducible refine Kd.C_drewN ?_ _) | (with_reducible refine Kd.C_drew ?_))); (case side2 => exact (Kd.R_reads' HO191.out).2.1); (case side3 => repeat (first | exact (Kd.R_reads' HO194.out).2.2 | (with_reducible refine Kd.C_alloc ?_ _) | (with_reducible refine Kd.C_drewN ?_ _) | (with_reducible refine Kd.C_drew ?_))); (case side4 => exact (Kd.R_reads' HO194.out).2.1); rintro e w27 ⟨rfl, hb⟩; have n0_ := Aside0.mk (Kd.R_below (by (with_reducible repeat (first | apply Kd.R_alloc | apply Kd.R_drewN | apply Kd.R_drew)); exact HO191.out) hb); have n1_ := Aside0.mk (Kd.R_below (by (with_reducible repeat (first | apply Kd.R_alloc | apply Kd.R_drewN | apply Kd.R_drew)); exact HO194.out) hb); have n2_ := Aside0.mk (below_step (by repeat (first | (with_reducible first | exact HB.out | apply below_alloc | apply pw_below_drewN | apply below_drew1) | exact HB.out)) hb); clear HO191; clear HO194; clear HB; have HO191 := n0_; have HO194 := n1_; have HB := n2_; clear n0_ n1_ n2_; (try clear hb); (try clear hb2); (try clear hk); (try clear hi)) | (go_at_call 14; (with_reducible refine (slots_All.calls _ _ l0 a1 t196 _ ?side1 ?side2 A14.out).mono ?_); (case side1 => repeat (first | exact (Kd.C_below HR0.out HB.out) | (with_reducible refine Kd.C_alloc ?_ _) | (with_reducible refine Kd.C_drewN ?_ _) | (with_reducible refine Kd.C_drew ?_))); (case side2 => exact HC0.out); rintro e w28 ⟨v197, rfl, ho0, hb⟩; have n0_ := Aside0.mk (Kd.R_elder' (by (with_reducible repeat (first | apply Kd.R_alloc | apply Kd.R_drewN | apply Kd.R_drew)); exact HO191.out) (Kd.R_base ho0) hb); have n1_ := Aside0.mk (Kd.R_elder' (by (with_reducible repeat (first | apply Kd.R_alloc | apply Kd.R_drewN | apply Kd.R_drew)); exact HO194.out) (Kd.R_base ho0) hb); have n2_ := Aside0.mk (Kd.R_lower (Kd.R_new' (Kd.R_new' ho0 (Kd.R_lt (by (with_reducible repeat (first | apply Kd.R_alloc | apply Kd.R_drewN | apply Kd.R_drew)); exact HO191.out))) (Kd.R_lt (by (with_reducible repeat (first | apply Kd.R_alloc | apply Kd.R_drewN | apply Kd.R_drew)); exact HO194.out))) (below_size (by repeat (first | (with_reducible first | exact HB.out | apply below_alloc | apply pw_below_drewN | apply below_drew1) | exact HB.out)))); have n3_ := Aside0.mk (below_step (by repeat (first | (with_reducible first | exact HB.out | apply below_alloc | apply pw_below_drewN | apply below_drew1) | exact HB.out)) hb); clear HO191; clear HO194; clear HB; have HO191 := n0_; have HO194 := n1_; have HO198 := n2_; have HB := n3_; clear n0_ n1_ n2_ n3_; (try clear hb); (try clear hb2); (try clear hk); (try clear hi); (try clear ho0)) | (go_at_call 18; (with_reducible refine (limelightref05_All.calls k _ _ l0 a1 t199 _ ?side1 ?side2 A15.out).mono ?_); (case side1 => repeat (first | exact (Kd.C_below HR0.out HB.out) | (with_reducible refine Kd.C_alloc ?_ _) | (with_reducible refine Kd.C_drewN ?_ _) | (with_reducible refine Kd.C_drew ?_))); (case side2 => exact HC0.out); rintro e w29 ⟨v200, rfl, ho0, hb⟩; have n0_ := Aside0.mk (Kd.R_elder' (by (with_reducible repeat (first | apply Kd.R_alloc | apply Kd.R_drewN | apply Kd.R_drew)); exact HO191.out) (Kd.R_base ho0) hb); have n1_ := Aside0.mk (Kd.R_elder' (by (with_reducible repeat (first | apply Kd.R_alloc | apply Kd.R_drewN | apply Kd.R_drew)); exact HO194.out) (Kd.R_base ho0) hb); have n2_ := Aside0.mk (Kd.R_elder' (by (with_reducible repeat (first | apply Kd.R_alloc | apply Kd.R_drewN | apply Kd.R_drew)); exact HO198.out) (Kd.R_base ho0) hb); have n3_ := Aside0.mk (Kd.R_lower (Kd.R_new' (Kd.R_new' (Kd.R_new' ho0 (Kd.R_lt (by (with_reducible repeat (first | apply Kd.R_alloc | apply Kd.R_drewN | apply Kd.R_drew)); exact HO191.out))) (Kd.R_lt (by (with_reducible repeat (first | apply Kd.R_alloc | apply Kd.R_drewN | apply Kd.R_drew)); exact HO194.out))) (Kd.R_lt (by (with_reducible repeat (first | apply Kd.R_alloc | apply Kd.R_drewN | apply Kd.R_drew)); exact HO198.out))) (below_size (by repeat (first | (with_reducible first | exact HB.out | apply below_alloc | apply pw_below_drewN | apply below_drew1) | exact HB.out)))); have n4_ := Aside0.mk (below_step (by repeat (first | (with_reducible first | exact HB.out | apply below_alloc | apply pw_below_drewN | apply below_drew1) | exact HB.out)) hb); clear HO191; clear HO194; clear HO198; clear HB; have HO191 := n0_; have HO194 := n1_; have HO198 := n2_; have HO201 := n3_; have HB := n4_; clear n0_ n1_ n2_ n3_ n4_; (try clear hb); (try clear hb2); (try clear hk); (try clear hi); (try clear ho0); obtain ⟨Ao30, co30, eo30⟩ := Kd.R_slice HO198.out; subst eo30; obtain ⟨Ao31, co31, eo31⟩ := Kd.R_slice HO201.out; subst eo31) | (go_at_call 16; (with_reducible refine (limelightref01_Ints.calls _ _ t196 _ _ t199 true _ ?side1 ?side2 ?side3 ?side4 A16.out).mono ?_); (case side1 => repeat (first | exact (Kd.R_reads' HO198.out).2.2 | (with_reducible refine Kd.C_alloc ?_ _) | (with_reducible refine Kd.C_drewN ?_ _) | (with_reducible refine Kd.C_drew ?_))); (case side2 => exact (Kd.R_reads' HO198.out).2.1); (case side3 => repeat (first | exact (Kd.R_reads' HO201.out).2.2 | (with_reducible refine Kd.C_alloc ?_ _) | (with_reducible refine Kd.C_drewN ?_ _) | (with_reducible refine Kd.C_drew ?_))); (case side4 => exact (Kd.R_reads' HO201.out).2.1); rintro e w32 ⟨rfl, hb⟩; have n0_ := Aside0.mk (Kd.R_below (by (with_reducible repeat (first | apply Kd.R_alloc | apply Kd.R_drewN | apply Kd.R_drew)); exact HO191.out) hb); have n1_ := Aside0.mk (Kd.R_below (by (with_reducible repeat (first | apply Kd.R_alloc | apply Kd.R_drewN | apply Kd.R_drew)); exact HO194.out) hb); have n2_ := Aside0.mk (Kd.R_below (by (with_reducible repeat (first | apply Kd.R_alloc | apply Kd.R_drewN | apply Kd.R_drew)); exact HO198.out) hb); have n3_ := Aside0.mk (Kd.R_below (by (with_reducible repeat (first | apply Kd.R_alloc | apply Kd.R_drewN | apply Kd.R_drew)); exact HO201.out) hb); have n4_ := Aside0.mk (below_step (by repeat (first | (with_reducible first | exact HB.out | apply below_alloc | apply pw_below_drewN | apply below_drew1) | exact HB.out)) hb); clear HO191; clear HO194; clear HO198; clear HO201; clear HB; have HO191 := n0_; have HO194 := n1_; have HO198 := n2_; have HO201 := n3_; have HB := n4_; clear n0_ n1_ n2_ n3_ n4_; (try clear hb); (try clear hb2); (try clear hk); (try clear hi)) | (go_at_call 10; (with_reducible refine (limelightlaw05_live.calls  t203 _ A18.out).mono ?_); rintro e w33 ⟨rfl, hb⟩; have n0_ := Aside0.mk (Kd.R_below (by (with_reducible repeat (first | apply Kd.R_alloc | apply Kd.R_drewN | apply Kd.R_drew)); exact HO191.out) hb); have n1_ := Aside0.mk (Kd.R_below (by (with_reducible repeat (first | apply Kd.R_alloc | apply Kd.R_drewN | apply Kd.R_drew)); exact HO194.out) hb); have n2_ := Aside0.mk (Kd.R_below (by (with_reducible repeat (first | apply Kd.R_alloc | apply Kd.R_drewN | apply Kd.R_drew)); exact HO198.out) hb); have n3_ := Aside0.mk (Kd.R_below (by (with_reducible repeat (first | apply Kd.R_alloc | apply Kd.R_drewN | apply Kd.R_drew)); exact HO201.out) hb); have n4_ := Aside0.mk (below_step (by repeat (first | (with_reducible first | exact HB.out | apply below_alloc | apply pw_below_drewN | apply below_drew1) | exact HB.out)) hb); clear HO191; clear HO194; clear HO198; clear HO201; clear HB; have HO191 := n0_; have HO194 := n1_; have HO198 := n2_; have HO201 := n3_; have HB := n4_; clear n0_ n1_ n2_ n3_ n4_; (try clear hb); (try clear hb2); (try clear hk); (try clear hi)))
            go_ret
            exact ⟨by first | rfl | (simp [errW_none, errW_some] <;> rfl) | (simp [*, errW_none, errW_some] <;> rfl), by repeat (first | (with_reducible first | exact HB.out | apply below_alloc | apply pw_below_drewN | apply below_drew1) | exact HB.out)⟩
          · replace c17 := Bool.eq_false_iff.mpr c17
            subst c17
            have H1 : (none) = some r := by rw [if_neg (show ¬ (false = true) by decide)] at H; exact H
            clear H
            have H := H1
            clear H1
            exact absurd H (by simp)
        · replace c13 := Bool.eq_false_iff.mpr c13
          subst c13
          have H1 : (none) = some r := by rw [if_neg (show ¬ (false = true) by decide)] at H; exact H
          clear H
          have H := H1
          clear H1
          exact absurd H (by simp)
      · rw [if_neg c9] at H
        exact absurd H (by simp)
    · replace c6 := Bool.eq_false_iff.mpr c6
      subst c6
      have H1 : ((slots_Of.f l0 a1).bind fun t179 => (if t179 = (-1) then ((slots_Assigned.f l0 a1).bind fun t180 => (if (t180.length : Int) = 0 then ((slots_All.f l0 a1).bind fun t183 => (if (t183.length : Int) = 0 then ((limelightlaw05_live.f).bind fun t186 => (some t186)) else (none))) else (none))) else (none))) = some r := by rw [if_neg (show ¬ (false = true) by decide)] at H; exact H
      clear H
      have H := H1
      clear H1
      replace H := Option.bind_eq_some_iff.mp H
      obtain ⟨t179, A340, H⟩ := H
      replace H : (if t179 = (-1) then ((slots_Assigned.f l0 a1).bind fun t180 => (if (t180.length : Int) = 0 then ((slots_All.f l0 a1).bind fun t183 => (if (t183.length : Int) = 0 then ((limelightlaw05_live.f).bind fun t186 => (some t186)) else (none))) else (none))) else (none)) = some r := H
      have A34 := Aside0.mk A340
      clear A340
      by_cases c35 : t179 = (-1)
      · rw [if_pos c35] at H
        have c35b0 : (t179 == (-1)) = true := beq_iff_eq.mpr c35
        have c35b1 : (t179 != (-1)) = false := bne_eq_false_iff_eq.mpr c35
        clear c35
        replace H := Option.bind_eq_some_iff.mp H
        obtain ⟨t180, A360, H⟩ := H
        replace H : (if (t180.length : Int) = 0 then ((slots_All.f l0 a1).bind fun t183 => (if (t183.length : Int) = 0 then ((limelightlaw05_live.f).bind fun t186 => (some t186)) else (none))) else (none)) = some r := H
        have A36 := Aside0.mk A360
        clear A360
        by_cases c37 : (t180.length : Int) = 0
        · rw [if_pos c37] at H
          have c37b0 : ((t180.length : Int) == 0) = true := beq_iff_eq.mpr c37
          have c37b1 : ((t180.length : Int) != 0) = false := bne_eq_false_iff_eq.mpr c37
          clear c37
          replace H := Option.bind_eq_some_iff.mp H
          obtain ⟨t183, A380, H⟩ := H
          replace H : (if (t183.length : Int) = 0 then ((limelightlaw05_live.f).bind fun t186 => (some t186)) else (none)) = some r := H
          have A38 := Aside0.mk A380
          clear A380
          by_cases c39 : (t183.length : Int) = 0
          · rw [if_pos c39] at H
            have c39b0 : ((t183.length : Int) == 0) = true := beq_iff_eq.mpr c39
            have c39b1 : ((t183.length : Int) != 0) = false := bne_eq_false_iff_eq.mpr c39
            clear c39
            replace H := Option.bind_eq_some_iff.mp H
            obtain ⟨t186, A400, H⟩ := H
            replace H : (some t186) = some r := H
            have A40 := Aside0.mk A400
            clear A400
            obtain rfl := Option.some.inj H
            go_enter Try.func3, Try.ntmps3
            go_wp2_with (first | ((with_reducible refine gate_callee (f := 9) rfl ?_); refine goesL_ (some 6) rfl rfl Try.func9 (by kernel_rfl) rfl #[.slice A0 l0.length c0] rfl (by (try simp only [List.map_toArray, List.map_cons, List.map_nil]); first | done | rfl | (simp only [List.length_drop, List.length_take]; rfl)) ?_; (with_reducible refine (limelightref01_Few.calls _ _ l0 true _ ?side1 ?side2 A3.out).mono ?_); (case side1 => repeat (first | exact HR0.out | (with_reducible refine Kd.C_alloc ?_ _) | (with_reducible refine Kd.C_drewN ?_ _) | (with_reducible refine Kd.C_drew ?_))); (case side2 => exact HC0.out); rintro e w41 ⟨rfl, hb⟩; refine ⟨_, rfl, ?_⟩; have n0_ := Aside0.mk (below_step (by repeat (first | (with_reducible first | exact HB.out | apply below_alloc | apply pw_below_drewN | apply below_drew1) | exact HB.out)) hb); clear HB; have HB := n0_; clear n0_; (try clear hb); (try clear hb2); (try clear hk); (try clear hi)) | ((with_reducible refine gate_callee (f := 11) rfl ?_); refine goesL_ (some 12) rfl rfl Try.func11 (by kernel_rfl) rfl #[.slice A0 l0.length c0, .int .i64 a1, .int .i64 a1] rfl (by (try simp only [List.map_toArray, List.map_cons, List.map_nil]); first | done | rfl | (simp only [List.length_drop, List.length_take]; rfl)) ?_; (with_reducible refine (limelightref03_Both.calls _ _ l0 a1 a1 false _ ?side1 ?side2 A5.out).mono ?_); (case side1 => repeat (first | exact (Kd.C_below HR0.out HB.out) | (with_reducible refine Kd.C_alloc ?_ _) | (with_reducible refine Kd.C_drewN ?_ _) | (with_reducible refine Kd.C_drew ?_))); (case side2 => exact HC0.out); rintro e w42 ⟨rfl, hb⟩; refine ⟨_, rfl, ?_⟩; have n0_ := Aside0.mk (below_step (by repeat (first | (with_reducible first | exact HB.out | apply below_alloc | apply pw_below_drewN | apply below_drew1) | exact HB.out)) hb); clear HB; have HB := n0_; clear n0_; (try clear hb); (try clear hb2); (try clear hk); (try clear hi)) | ((with_reducible refine gate_callee (f := 12) rfl ?_); refine goesL_ (some 16) rfl rfl Try.func12 (by kernel_rfl) rfl #[.slice A0 l0.length c0, .int .i64 a1] rfl (by (try simp only [List.map_toArray, List.map_cons, List.map_nil]); first | done | rfl | (simp only [List.length_drop, List.length_take]; rfl)) ?_; (with_reducible refine (slots_Of.calls _ _ l0 a1 t179 _ ?side1 ?side2 A34.out).mono ?_); (case side1 => repeat (first | exact (Kd.C_below HR0.out HB.out) | (with_reducible refine Kd.C_alloc ?_ _) | (with_reducible refine Kd.C_drewN ?_ _) | (with_reducible refine Kd.C_drew ?_))); (case side2 => exact HC0.out); rintro e w43 ⟨rfl, hb⟩; refine ⟨_, rfl, ?_⟩; have n0_ := Aside0.mk (below_step (by repeat (first | (with_reducible first | exact HB.out | apply below_alloc | apply pw_below_drewN | apply below_drew1) | exact HB.out)) hb); clear HB; have HB := n0_; clear n0_; (try clear hb); (try clear hb2); (try clear hk); (try clear hi)) | (go_at_call 13; (with_reducible refine (slots_Assigned.calls _ _ l0 a1 t180 _ ?side1 ?side2 A36.out).mono ?_); (case side1 => repeat (first | exact (Kd.C_below HR0.out HB.out) | (with_reducible refine Kd.C_alloc ?_ _) | (with_reducible refine Kd.C_drewN ?_ _) | (with_reducible refine Kd.C_drew ?_))); (case side2 => exact HC0.out); rintro e w44 ⟨v181, rfl, ho0, hb⟩; have n0_ := Aside0.mk (Kd.R_lower ho0 (below_size (by repeat (first | (with_reducible first | exact HB.out | apply below_alloc | apply pw_below_drewN | apply below_drew1) | exact HB.out)))); have n1_ := Aside0.mk (below_step (by repeat (first | (with_reducible first | exact HB.out | apply below_alloc | apply pw_below_drewN | apply below_drew1) | exact HB.out)) hb); clear HB; have HO182 := n0_; have HB := n1_; clear n0_ n1_; (try clear hb); (try clear hb2); (try clear hk); (try clear hi); (try clear ho0); obtain ⟨Ao45, co45, eo45⟩ := Kd.R_slice HO182.out; subst eo45) | (go_at_call 14; (with_reducible refine (slots_All.calls _ _ l0 a1 t183 _ ?side1 ?side2 A38.out).mono ?_); (case side1 => repeat (first | exact (Kd.C_below HR0.out HB.out) | (with_reducible refine Kd.C_alloc ?_ _) | (with_reducible refine Kd.C_drewN ?_ _) | (with_reducible refine Kd.C_drew ?_))); (case side2 => exact HC0.out); rintro e w46 ⟨v184, rfl, ho0, hb⟩; have n0_ := Aside0.mk (Kd.R_elder' (by (with_reducible repeat (first | apply Kd.R_alloc | apply Kd.R_drewN | apply Kd.R_drew)); exact HO182.out) (Kd.R_base ho0) hb); have n1_ := Aside0.mk (Kd.R_lower (Kd.R_new' ho0 (Kd.R_lt (by (with_reducible repeat (first | apply Kd.R_alloc | apply Kd.R_drewN | apply Kd.R_drew)); exact HO182.out))) (below_size (by repeat (first | (with_reducible first | exact HB.out | apply below_alloc | apply pw_below_drewN | apply below_drew1) | exact HB.out)))); have n2_ := Aside0.mk (below_step (by repeat (first | (with_reducible first | exact HB.out | apply below_alloc | apply pw_below_drewN | apply below_drew1) | exact HB.out)) hb); clear HO182; clear HB; have HO182 := n0_; have HO185 := n1_; have HB := n2_; clear n0_ n1_ n2_; (try clear hb); (try clear hb2); (try clear hk); (try clear hi); (try clear ho0); obtain ⟨Ao47, co47, eo47⟩ := Kd.R_slice HO185.out; subst eo47) | (go_at_call 10; (with_reducible refine (limelightlaw05_live.calls  t186 _ A40.out).mono ?_); rintro e w48 ⟨rfl, hb⟩; have n0_ := Aside0.mk (Kd.R_below (by (with_reducible repeat (first | apply Kd.R_alloc | apply Kd.R_drewN | apply Kd.R_drew)); exact HO182.out) hb); have n1_ := Aside0.mk (Kd.R_below (by (with_reducible repeat (first | apply Kd.R_alloc | apply Kd.R_drewN | apply Kd.R_drew)); exact HO185.out) hb); have n2_ := Aside0.mk (below_step (by repeat (first | (with_reducible first | exact HB.out | apply below_alloc | apply pw_below_drewN | apply below_drew1) | exact HB.out)) hb); clear HO182; clear HO185; clear HB; have HO182 := n0_; have HO185 := n1_; have HB := n2_; clear n0_ n1_ n2_; (try clear hb); (try clear hb2); (try clear hk); (try clear hi)))
            go_ret
            exact ⟨by first | rfl | (simp [errW_none, errW_some] <;> rfl) | (simp [*, errW_none, errW_some] <;> rfl), by repeat (first | (with_reducible first | exact HB.out | apply below_alloc | apply pw_below_drewN | apply below_drew1) | exact HB.out)⟩
          · rw [if_neg c39] at H
            exact absurd H (by simp)
        · rw [if_neg c37] at H
          exact absurd H (by simp)
      · rw [if_neg c35] at H
        exact absurd H (by simp)
  · replace c4 := Bool.eq_false_iff.mpr c4
    subst c4
    have H1 : ((limelightlaw05_live.f).bind fun t177 => (some t177)) = some r := by rw [if_neg (show ¬ (false = true) by decide)] at H; exact H
    clear H
    have H := H1
    clear H1
    replace H := Option.bind_eq_some_iff.mp H
    obtain ⟨t177, A490, H⟩ := H
    replace H : (some t177) = some r := H
    have A49 := Aside0.mk A490
    clear A490
    obtain rfl := Option.some.inj H
    go_enter Try.func3, Try.ntmps3
    go_wp2_with (first | ((with_reducible refine gate_callee (f := 9) rfl ?_); refine goesL_ (some 6) rfl rfl Try.func9 (by kernel_rfl) rfl #[.slice A0 l0.length c0] rfl (by (try simp only [List.map_toArray, List.map_cons, List.map_nil]); first | done | rfl | (simp only [List.length_drop, List.length_take]; rfl)) ?_; (with_reducible refine (limelightref01_Few.calls _ _ l0 false _ ?side1 ?side2 A3.out).mono ?_); (case side1 => repeat (first | exact HR0.out | (with_reducible refine Kd.C_alloc ?_ _) | (with_reducible refine Kd.C_drewN ?_ _) | (with_reducible refine Kd.C_drew ?_))); (case side2 => exact HC0.out); rintro e w50 ⟨rfl, hb⟩; refine ⟨_, rfl, ?_⟩; have n0_ := Aside0.mk (below_step (by repeat (first | (with_reducible first | exact HB.out | apply below_alloc | apply pw_below_drewN | apply below_drew1) | exact HB.out)) hb); clear HB; have HB := n0_; clear n0_; (try clear hb); (try clear hb2); (try clear hk); (try clear hi)) | ((with_reducible refine gate_callee (f := 10) rfl ?_); refine goesL_ (some 8) rfl rfl Try.func10 (by kernel_rfl) rfl #[] rfl (by (try simp only [List.map_toArray, List.map_cons, List.map_nil]); first | done | rfl | (simp only [List.length_drop, List.length_take]; rfl)) ?_; (with_reducible refine (limelightlaw05_live.calls  t177 _ A49.out).mono ?_); rintro e w51 ⟨rfl, hb⟩; refine ⟨_, rfl, ?_⟩; have n0_ := Aside0.mk (below_step (by repeat (first | (with_reducible first | exact HB.out | apply below_alloc | apply pw_below_drewN | apply below_drew1) | exact HB.out)) hb); clear HB; have HB := n0_; clear n0_; (try clear hb); (try clear hb2); (try clear hk); (try clear hi)))
    go_ret
    exact ⟨by first | rfl | (simp [errW_none, errW_some] <;> rfl) | (simp [*, errW_none, errW_some] <;> rfl), by repeat (first | (with_reducible first | exact HB.out | apply below_alloc | apply pw_below_drewN | apply below_drew1) | exact HB.out)⟩

end Go.Proofs.Ytcmcjfiaemchoaa.P
