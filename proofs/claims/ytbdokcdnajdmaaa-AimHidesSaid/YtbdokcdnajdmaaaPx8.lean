import Derived.Test.YtbdokcdnajdmaaaPx0
import Derived.Test.YtbdokcdnajdmaaaPx1
import Derived.Test.YtbdokcdnajdmaaaPx2
import Derived.Test.YtbdokcdnajdmaaaPx3
-- printed by wip/tools/pp.sh (a patched copy of the print's program), for this claim.
namespace Go.Proofs.Ytbdokcdnajdmaaa.P
open Go.RowKit Go.Proofs.YtbdokcdnajdmaaaW.PrintWords Go.Proofs.YtbdokcdnajdmaaaW.PrintLast Go.Proofs.YtbdokcdnajdmaaaW.PrintMore
attribute [local go_sem] max2_int min2_int max_two min_two max_three min_three max_four min_four   -- for this text's walks alone
set_option linter.unusedVariables false
set_option linter.unusedSimpArgs false

attribute [local go_sem high] eqA36 eqA35
/-! ### limelightlaw07_hidden: function 19 -/
def limelightlaw07_hidden.f (k : Nat) (l0 : List (S53)) (a1 : Int) (a2 : Int) : Option (Bool) := (limelightref03_Top.f k l0 a1).bind fun t244 => (if 0 ≤ t244 then (if t244 < (l0.length : Int) then (if ((rd_T53 l0 t244).f0) = 3 then ((limelightref04_Above.f k l0 t244 a2).bind fun t246 => (some (!t246))) else (some false)) else (none)) else (none))
theorem limelightlaw07_hidden.mono : ∀ a0 a1 a2 k, LeO (limelightlaw07_hidden.f k a0 a1 a2) (limelightlaw07_hidden.f (k + 1) a0 a1 a2) := by
 intro a0 a1 a2 k
 unfold limelightlaw07_hidden.f
 repeat' first
   | (with_reducible exact limelightref03_Top.mono _ _ _)
   | (with_reducible exact limelightref04_Above.mono _ _ _ _)
   | (with_reducible exact LeO.refl _)
   | (with_reducible exact LeO.none _)
   | (with_reducible refine LeO.ite ?_ ?_)
   | (with_reducible refine LeO.bind ?_ (fun _ => ?_))
   | exact limelightref03_Top.mono _ _ _
   | exact limelightref04_Above.mono _ _ _ _
   | exact LeO.none _
   | refine LeO.ite ?_ ?_
   | refine LeO.bind ?_ (fun _ => ?_)
set_option maxHeartbeats 8000000 in
set_option maxRecDepth 100000 in
theorem limelightlaw07_hidden.calls (k : Nat) (A0 : Option Addr) (c0 : Nat) (l0 : List (S53)) (a1 : Int) (a2 : Int) (r : Bool) (w : World) (hr0 : Kd.C k53 w A0 l0.length l0) (hc0 : l0.length ≤ c0) (h : limelightlaw07_hidden.f k l0 a1 a2 = some r) :
  Calls Try.prog 19 #[.slice A0 l0.length c0, .int .i64 a1, .int .i64 a2] w fun e w' => e = .returned (.bool r) ∧ Below w.heap.size w w' := by
 have HR0 := Aside0.mk hr0
 have HC0 := Aside0.mk hc0
 clear hr0 hc0
 have HB := Aside0.mk (Below.refl w.heap.size w)
 have H : ((limelightref03_Top.f k l0 a1).bind fun t244 => (if 0 ≤ t244 then (if t244 < (l0.length : Int) then (if ((rd_T53 l0 t244).f0) = 3 then ((limelightref04_Above.f k l0 t244 a2).bind fun t246 => (some (!t246))) else (some false)) else (none)) else (none))) = some r := h
 clear h
 replace H := Option.bind_eq_some_iff.mp H
 obtain ⟨t244, A40, H⟩ := H
 replace H : (if 0 ≤ t244 then (if t244 < (l0.length : Int) then (if ((rd_T53 l0 t244).f0) = 3 then ((limelightref04_Above.f k l0 t244 a2).bind fun t246 => (some (!t246))) else (some false)) else (none)) else (none)) = some r := H
 have A4 := Aside0.mk A40
 clear A40
 by_cases c5 : 0 ≤ t244
 ·rw [if_pos c5] at H
  have c5b0 : decide (0 ≤ t244) = true := decide_eq_true c5
  clear c5
  by_cases c6 : t244 < (l0.length : Int)
  ·rw [if_pos c6] at H
   have c6b0 : decide (t244 < (l0.length : Int)) = true := decide_eq_true c6
   clear c6
   by_cases c7 : ((rd_T53 l0 t244).f0) = 3
   ·rw [if_pos c7] at H
    have c7b0 : (((rd_T53 l0 t244).f0) == 3) = true := beq_iff_eq.mpr c7
    have c7b1 : (((rd_T53 l0 t244).f0) != 3) = false := bne_eq_false_iff_eq.mpr c7
    clear c7
    replace H := Option.bind_eq_some_iff.mp H
    obtain ⟨t246, A80, H⟩ := H
    replace H : (some (!t246)) = some r := H
    have A8 := Aside0.mk A80
    clear A80
    obtain rfl := Option.some.inj H
    go_enter Try.func19, Try.ntmps19
    go_wp2_with (first | ((with_reducible refine gate_callee (f := 20) rfl ?_); refine goesL_ (some 10) rfl rfl Try.func20 (by kernel_rfl) rfl #[.slice A0 l0.length c0, .int .i64 a1] rfl margs_ ?_; (with_reducible refine (limelightref03_Top.calls k _ _ l0 a1 t244 _ ?side1 ?side2 A4.out).mono ?_); (case side1 => exact kcb_ (HR0.out)); (case side2 => exact HC0.out); rintro e w9 ⟨rfl, hb⟩; refine ⟨_, rfl, ?_⟩; have n0_ := Aside0.mk (below_step bel_ hb); clear HB; have HB := n0_; clear n0_; (try clear hb); (try clear hb2); (try clear hk); (try clear hi); have p245 : 0 ≤ (t244 : Int) := of_decide_eq_true asm_; have q245 : t244 < (l0.length : Int) := of_decide_eq_true asm_; obtain ⟨ad245, A245_3, c245_3, A245_6, c245_6, e245, hx245_0, hx245_1, hx245_2, hx245_3, hx245_4, hx245_5, hx245_6, hl245_3, hi245_3, hl245_6, hi245_6⟩ := at_T53 HR0.out t244 p245 q245; cases e245; replace hx245_0 := (HB.out.cell (World.block_lt_of_cell? w _ hx245_0)).trans hx245_0; replace hx245_1 := (HB.out.cell (World.block_lt_of_cell? w _ hx245_1)).trans hx245_1; replace hx245_2 := (HB.out.cell (World.block_lt_of_cell? w _ hx245_2)).trans hx245_2; replace hx245_3 := (HB.out.cell (World.block_lt_of_cell? w _ hx245_3)).trans hx245_3; replace hx245_4 := (HB.out.cell (World.block_lt_of_cell? w _ hx245_4)).trans hx245_4; replace hx245_5 := (HB.out.cell (World.block_lt_of_cell? w _ hx245_5)).trans hx245_5; replace hx245_6 := (HB.out.cell (World.block_lt_of_cell? w _ hx245_6)).trans hx245_6; have HR245_3 := Aside0.mk hi245_3; have HC245_3 := Aside0.mk hl245_3; clear hi245_3 hl245_3; have HR245_6 := Aside0.mk hi245_6; have HC245_6 := Aside0.mk hl245_6; clear hi245_6 hl245_6; replace p245 := eq_true p245; replace q245 := eq_true q245) | (go_at_call 21; (with_reducible refine (limelightref04_Above.calls k _ _ l0 t244 a2 t246 _ ?side1 ?side2 A8.out).mono ?_); (case side1 => exact kcb_ ((Kd.C_below HR0.out HB.out))); (case side2 => exact HC0.out); rintro e w10 ⟨rfl, hb⟩; have n0_ := Aside0.mk (below_step bel_ hb); clear HB; have HB := n0_; clear n0_; (try clear hb); (try clear hb2); (try clear hk); (try clear hi)))
    go_ret
    exact ⟨by first | rfl | (simp [errW_none, errW_some] <;> rfl) | (simp [*, errW_none, errW_some] <;> rfl), bel_⟩
   ·rw [if_neg c7] at H
    have c7b0 : (((rd_T53 l0 t244).f0) == 3) = false := beq_eq_false_iff_ne.mpr c7
    have c7b1 : (((rd_T53 l0 t244).f0) != 3) = true := bne_iff_ne.mpr c7
    obtain rfl := Option.some.inj H
    go_enter Try.func19, Try.ntmps19
    go_wp2_with (first | ((with_reducible refine gate_callee (f := 20) rfl ?_); refine goesL_ (some 10) rfl rfl Try.func20 (by kernel_rfl) rfl #[.slice A0 l0.length c0, .int .i64 a1] rfl margs_ ?_; (with_reducible refine (limelightref03_Top.calls k _ _ l0 a1 t244 _ ?side1 ?side2 A4.out).mono ?_); (case side1 => exact kcb_ (HR0.out)); (case side2 => exact HC0.out); rintro e w11 ⟨rfl, hb⟩; refine ⟨_, rfl, ?_⟩; have n0_ := Aside0.mk (below_step bel_ hb); clear HB; have HB := n0_; clear n0_; (try clear hb); (try clear hb2); (try clear hk); (try clear hi); have p245 : 0 ≤ (t244 : Int) := of_decide_eq_true asm_; have q245 : t244 < (l0.length : Int) := of_decide_eq_true asm_; obtain ⟨ad245, A245_3, c245_3, A245_6, c245_6, e245, hx245_0, hx245_1, hx245_2, hx245_3, hx245_4, hx245_5, hx245_6, hl245_3, hi245_3, hl245_6, hi245_6⟩ := at_T53 HR0.out t244 p245 q245; cases e245; replace hx245_0 := (HB.out.cell (World.block_lt_of_cell? w _ hx245_0)).trans hx245_0; replace hx245_1 := (HB.out.cell (World.block_lt_of_cell? w _ hx245_1)).trans hx245_1; replace hx245_2 := (HB.out.cell (World.block_lt_of_cell? w _ hx245_2)).trans hx245_2; replace hx245_3 := (HB.out.cell (World.block_lt_of_cell? w _ hx245_3)).trans hx245_3; replace hx245_4 := (HB.out.cell (World.block_lt_of_cell? w _ hx245_4)).trans hx245_4; replace hx245_5 := (HB.out.cell (World.block_lt_of_cell? w _ hx245_5)).trans hx245_5; replace hx245_6 := (HB.out.cell (World.block_lt_of_cell? w _ hx245_6)).trans hx245_6; have HR245_3 := Aside0.mk hi245_3; have HC245_3 := Aside0.mk hl245_3; clear hi245_3 hl245_3; have HR245_6 := Aside0.mk hi245_6; have HC245_6 := Aside0.mk hl245_6; clear hi245_6 hl245_6; replace p245 := eq_true p245; replace q245 := eq_true q245))
    go_ret
    exact ⟨by first | rfl | (simp [errW_none, errW_some] <;> rfl) | (simp [*, errW_none, errW_some] <;> rfl), bel_⟩
  ·rw [if_neg c6] at H
   exact absurd H (by simp)
 ·rw [if_neg c5] at H
  exact absurd H (by simp)

end Go.Proofs.Ytbdokcdnajdmaaa.P
