-- printed by wip/tools/pp.sh (a patched copy of the print's program), for this claim.
import Derived.Test.YtfdhfnjdafaogaaPx0
import Derived.Test.YtfdhfnjdafaogaaPx1
import Derived.Test.YtfdhfnjdafaogaaPx3
import Derived.Test.YtfdhfnjdafaogaaME
import Derived.Test.YtfdhfnjdafaogaaMU
namespace Go.Proofs.Ytfdhfnjdafaogaa.P
open Go.RowKit Go.Proofs.YtfdhfnjdafaogaaW.PrintWords Go.Proofs.YtfdhfnjdafaogaaW.PrintLast Go.Proofs.YtfdhfnjdafaogaaW.PrintMore
attribute [local go_sem] max2_int min2_int max_two min_two max_three min_three max_four min_four   -- for this text's walks alone
set_option linter.unusedVariables false
set_option linter.unusedSimpArgs false

/-! ### limelightlaw06_FlatHosts: function 8 -/
mutual
def limelightlaw06_FlatHosts.j0 : Nat → List (S36) → Bool → Option (Bool)
 | 0, _, _ => none
 | k + 1, x0, x18 => if x18 = true then ((limelightlaw06_live.f).bind fun t342 => (some t342)) else (limelightlaw06_FlatHosts.l0 k x0 0)
def limelightlaw06_FlatHosts.l0 : Nat → List (S36) → Int → Option (Bool)
 | 0, _, _ => none
 | k + 1, x0, x3 => if x3 < (x0.length : Int) then (if 0 ≤ x3 then (if ((rd_T36 x0 x3).f5) = (-1) then (limelightlaw06_FlatHosts.l0 k x0 (wrap64 (x3 + 1))) else ((flat_Kids.f x0 x3).bind fun t345 => (if 0 ≤ ((rd_T36 x0 x3).f5) then (if ((rd_T36 x0 x3).f5) < (x0.length : Int) then ((limelightref01_Ints.f t345 ((rd_T36 x0 ((rd_T36 x0 x3).f5)).f3)).bind fun t350 => (if t350 = true then (limelightlaw06_FlatHosts.l1 k x0 x3 0) else (none))) else (none)) else (none)))) else (none)) else ((limelightlaw06_live.f).bind fun t343 => (some t343))
def limelightlaw06_FlatHosts.l1 : Nat → List (S36) → Int → Int → Option (Bool)
 | 0, _, _, _ => none
 | k + 1, x0, x3, x4 => if 0 ≤ x3 then (if x3 < (x0.length : Int) then (if x4 < (((rd_T36 x0 x3).f3).length : Int) then (if 0 ≤ x4 then ((limelightref05_Of.f k x0 (rd ((rd_T36 x0 x3).f3) x4)).bind fun t354 => (if t354 = (-1) then ((flat_Parent.f x0 (rd ((rd_T36 x0 x3).f3) x4)).bind fun t355 => (if t355 = (-1) then ((flat_Has.f x0 (rd ((rd_T36 x0 x3).f3) x4)).bind fun t356 => (if t356 = true then (none) else (limelightlaw06_FlatHosts.l1 k x0 x3 (wrap64 (x4 + 1))))) else (none))) else (limelightlaw06_FlatHosts.l1 k x0 x3 (wrap64 (x4 + 1))))) else (none)) else (limelightlaw06_FlatHosts.l0 k x0 (wrap64 (x3 + 1)))) else (none)) else (none)
end
def limelightlaw06_FlatHosts.f (k : Nat) (l0 : List (S36)) : Option (Bool) := (limelightref01_Few.f l0).bind fun t340 => (if t340 = true then (if (l0.length : Int) > 16 then (limelightlaw06_FlatHosts.j0 k l0 true) else ((limelightref01_May.f l0).bind fun t341 => (limelightlaw06_FlatHosts.j0 k l0 (!t341)))) else (limelightlaw06_FlatHosts.j0 k l0 true))
theorem limelightlaw06_FlatHosts.mono_l : ∀ k, (∀ y0 y1, LeO (limelightlaw06_FlatHosts.j0 k y0 y1) (limelightlaw06_FlatHosts.j0 (k + 1) y0 y1)) ∧ (∀ y0 y1, LeO (limelightlaw06_FlatHosts.l0 k y0 y1) (limelightlaw06_FlatHosts.l0 (k + 1) y0 y1)) ∧ (∀ y0 y1 y2, LeO (limelightlaw06_FlatHosts.l1 k y0 y1 y2) (limelightlaw06_FlatHosts.l1 (k + 1) y0 y1 y2))
 | 0 => ⟨fun _ _ r h => by simp [limelightlaw06_FlatHosts.j0] at h, fun _ _ r h => by simp [limelightlaw06_FlatHosts.l0] at h, fun _ _ _ r h => by simp [limelightlaw06_FlatHosts.l1] at h⟩
 | k + 1 => by
  obtain ⟨ih0, ih1, ih2⟩ := limelightlaw06_FlatHosts.mono_l k
  refine ⟨?_, ?_, ?_⟩
  ·intro y0 y1
   unfold limelightlaw06_FlatHosts.j0
   repeat' first
   | (with_reducible exact ih0 _ _)
   | (with_reducible exact ih1 _ _)
   | (with_reducible exact ih2 _ _ _)
   | (with_reducible exact limelightref05_Of.mono _ _ _)
   | (with_reducible exact LeO.refl _)
   | (with_reducible exact LeO.none _)
   | (with_reducible refine LeO.ite ?_ ?_)
   | (with_reducible refine LeO.bind ?_ (fun _ => ?_))
   | exact ih0 _ _
   | exact ih1 _ _
   | exact ih2 _ _ _
   | exact limelightref05_Of.mono _ _ _
   | exact LeO.none _
   | refine LeO.ite ?_ ?_
   | refine LeO.bind ?_ (fun _ => ?_)
  ·intro y0 y1
   unfold limelightlaw06_FlatHosts.l0
   repeat' first
   | (with_reducible exact ih0 _ _)
   | (with_reducible exact ih1 _ _)
   | (with_reducible exact ih2 _ _ _)
   | (with_reducible exact limelightref05_Of.mono _ _ _)
   | (with_reducible exact LeO.refl _)
   | (with_reducible exact LeO.none _)
   | (with_reducible refine LeO.ite ?_ ?_)
   | (with_reducible refine LeO.bind ?_ (fun _ => ?_))
   | exact ih0 _ _
   | exact ih1 _ _
   | exact ih2 _ _ _
   | exact limelightref05_Of.mono _ _ _
   | exact LeO.none _
   | refine LeO.ite ?_ ?_
   | refine LeO.bind ?_ (fun _ => ?_)
  ·intro y0 y1 y2
   unfold limelightlaw06_FlatHosts.l1
   repeat' first
   | (with_reducible exact ih0 _ _)
   | (with_reducible exact ih1 _ _)
   | (with_reducible exact ih2 _ _ _)
   | (with_reducible exact limelightref05_Of.mono _ _ _)
   | (with_reducible exact LeO.refl _)
   | (with_reducible exact LeO.none _)
   | (with_reducible refine LeO.ite ?_ ?_)
   | (with_reducible refine LeO.bind ?_ (fun _ => ?_))
   | exact ih0 _ _
   | exact ih1 _ _
   | exact ih2 _ _ _
   | exact limelightref05_Of.mono _ _ _
   | exact LeO.none _
   | refine LeO.ite ?_ ?_
   | refine LeO.bind ?_ (fun _ => ?_)
theorem limelightlaw06_FlatHosts.mono : ∀ a0 k, LeO (limelightlaw06_FlatHosts.f k a0) (limelightlaw06_FlatHosts.f (k + 1) a0) := by
 intro a0 k
 obtain ⟨ih0, ih1, ih2⟩ := limelightlaw06_FlatHosts.mono_l k
 unfold limelightlaw06_FlatHosts.f
 repeat' first
   | (with_reducible exact ih0 _ _)
   | (with_reducible exact ih1 _ _)
   | (with_reducible exact ih2 _ _ _)
   | (with_reducible exact limelightref05_Of.mono _ _ _)
   | (with_reducible exact LeO.refl _)
   | (with_reducible exact LeO.none _)
   | (with_reducible refine LeO.ite ?_ ?_)
   | (with_reducible refine LeO.bind ?_ (fun _ => ?_))
   | exact ih0 _ _
   | exact ih1 _ _
   | exact ih2 _ _ _
   | exact limelightref05_Of.mono _ _ _
   | exact LeO.none _
   | refine LeO.ite ?_ ?_
   | refine LeO.bind ?_ (fun _ => ?_)
def limelightlaw06_FlatHosts.T7 : Bool × List (List Nat × List Nat) := (true, [([], []), ([], []), ([0, 1], [0, 1]), ([], []), ([], []), ([], []), ([4, 5], [4, 5]), ([6], [6]), ([7], [7]), ([3, 8], [3, 8]), ([9], [9]), ([10], [10]), ([2, 11, 2], [2, 11]), ([12], [12])])
def limelightlaw06_FlatHosts.B7 : List Nat := [0, 0, 3, 0, 0, 0, 48, 112, 240, 504, 1016, 2040, 4095, 8191]
theorem limelightlaw06_FlatHosts.tab7 : rtab .any (opsOf Try.f8 7) = limelightlaw06_FlatHosts.T7 := by kernel_rfl
theorem limelightlaw06_FlatHosts.bits7 : waitsOk limelightlaw06_FlatHosts.T7.2 limelightlaw06_FlatHosts.B7 = true := by kernel_rfl
set_option maxHeartbeats 8000000 in
set_option maxRecDepth 100000 in
theorem limelightlaw06_FlatHosts.calls (k : Nat) (A0 : Option Addr) (c0 : Nat) (l0 : List (S36)) (r : Bool) (w : World) (hr0 : Kd.C k36 w A0 l0.length l0) (hc0 : l0.length ≤ c0) (h : limelightlaw06_FlatHosts.f k l0 = some r) :
  Calls Try.prog 8 #[.slice A0 l0.length c0] w fun e w' => e = .returned (.bool r) ∧ Below w.heap.size w w' := by
 have HR0 := Aside0.mk hr0
 have HC0 := Aside0.mk hc0
 clear hr0 hc0
 have HB := Aside0.mk (Below.refl w.heap.size w)
 have H : ((limelightref01_Few.f l0).bind fun t340 => (if t340 = true then (if (l0.length : Int) > 16 then (limelightlaw06_FlatHosts.j0 k l0 true) else ((limelightref01_May.f l0).bind fun t341 => (limelightlaw06_FlatHosts.j0 k l0 (!t341)))) else (limelightlaw06_FlatHosts.j0 k l0 true))) = some r := h
 clear h
 have HC2 := Aside0.mk H
 clear H
 go_enter Try.func8, Try.ntmps8
 go_upto_region 1 with (fail)
 go_cut [18] (fun v18 wc => ∃ (kq : Nat) (x18_1 : Bool), v18 = .bool x18_1 ∧ Aside0 (limelightlaw06_FlatHosts.j0 kq l0 x18_1 = some r) ∧ Aside0 (kq ≤ k) ∧ Aside0 (Below w.heap.size w wc))
 case first =>
  have H := HC2.out
  clear HC2
  replace H := Option.bind_eq_some_iff.mp H
  obtain ⟨t340, A30, H⟩ := H
  replace H : (if t340 = true then (if (l0.length : Int) > 16 then (limelightlaw06_FlatHosts.j0 k l0 true) else ((limelightref01_May.f l0).bind fun t341 => (limelightlaw06_FlatHosts.j0 k l0 (!t341)))) else (limelightlaw06_FlatHosts.j0 k l0 true)) = some r := H
  have A3 := Aside0.mk A30
  clear A30
  by_cases c4 : t340 = true
  ·subst c4
   have H1 : (if (l0.length : Int) > 16 then (limelightlaw06_FlatHosts.j0 k l0 true) else ((limelightref01_May.f l0).bind fun t341 => (limelightlaw06_FlatHosts.j0 k l0 (!t341)))) = some r := by rw [if_pos rfl] at H; exact H
   clear H
   have H := H1
   clear H1
   by_cases c5 : (l0.length : Int) > 16
   ·rw [if_pos c5] at H
    have c5b0 : decide (16 < (l0.length : Int)) = true := decide_eq_true c5
    have c5b1 : decide (16 < l0.length) = true := decide_eq_true (by omega)
    clear c5
    (first | rw [c5b0] | (simp only [i64_w, i32_w]; rw [c5b0]) | skip)
    have H' := Aside0.mk H
    clear H
    go_wp2_with (first | ((with_reducible refine gate_callee (f := 9) rfl ?_); refine goesL_ (some 7) rfl rfl Try.func9 (by kernel_rfl) rfl #[.slice A0 l0.length c0] rfl margs_ ?_; (with_reducible refine (limelightref01_Few.calls _ _ l0 true _ ?side1 ?side2 A3.out).mono ?_); (case side1 => exact kcb_ ((Kd.C_below HR0.out HB.out))); (case side2 => exact HC0.out); rintro e w6 ⟨rfl, hb⟩; refine ⟨_, rfl, ?_⟩; have n0_ := Aside0.mk (below_step bel_ hb); clear HB; have HB := n0_; clear n0_; (try clear hb); (try clear hb2); (try clear hk); (try clear hi)))
    go_meet
    case rel => exact ⟨_, (true), (by first | rfl | (simp; done) | (simp [*]; done)), H', ⟨by first | omega | exact Nat.le_refl _⟩, ⟨bel_⟩⟩
   ·rw [if_neg c5] at H
    have c5b0 : decide (16 < (l0.length : Int)) = false := decide_eq_false c5
    have c5b1 : decide (16 < l0.length) = false := decide_eq_false (by omega)
    clear c5
    (first | rw [c5b0] | (simp only [i64_w, i32_w]; rw [c5b0]) | skip)
    replace H := Option.bind_eq_some_iff.mp H
    obtain ⟨t341, A70, H⟩ := H
    replace H : (limelightlaw06_FlatHosts.j0 k l0 (!t341)) = some r := H
    have A7 := Aside0.mk A70
    clear A70
    have H' := Aside0.mk H
    clear H
    go_wp2_with (first | ((with_reducible refine gate_callee (f := 9) rfl ?_); refine goesL_ (some 7) rfl rfl Try.func9 (by kernel_rfl) rfl #[.slice A0 l0.length c0] rfl margs_ ?_; (with_reducible refine (limelightref01_Few.calls _ _ l0 true _ ?side1 ?side2 A3.out).mono ?_); (case side1 => exact kcb_ ((Kd.C_below HR0.out HB.out))); (case side2 => exact HC0.out); rintro e w8 ⟨rfl, hb⟩; refine ⟨_, rfl, ?_⟩; have n0_ := Aside0.mk (below_step bel_ hb); clear HB; have HB := n0_; clear n0_; (try clear hb); (try clear hb2); (try clear hk); (try clear hi)) | (go_at_call 23; (with_reducible refine (limelightref01_May.calls _ _ l0 t341 _ ?side1 ?side2 A7.out).mono ?_); (case side1 => exact kcb_ ((Kd.C_below HR0.out HB.out))); (case side2 => exact HC0.out); rintro e w9 ⟨rfl, hb⟩; have n0_ := Aside0.mk (below_step bel_ hb); clear HB; have HB := n0_; clear n0_; (try clear hb); (try clear hb2); (try clear hk); (try clear hi)))
    go_meet
    case rel => exact ⟨_, (!t341), (by first | rfl | (simp; done) | (simp [*]; done)), H', ⟨by first | omega | exact Nat.le_refl _⟩, ⟨bel_⟩⟩
  ·replace c4 := Bool.eq_false_iff.mpr c4
   subst c4
   have H1 : (limelightlaw06_FlatHosts.j0 k l0 true) = some r := by rw [if_neg (show ¬ (false = true) by decide)] at H; exact H
   clear H
   have H := H1
   clear H1
   have H' := Aside0.mk H
   clear H
   go_wp2_with (first | ((with_reducible refine gate_callee (f := 9) rfl ?_); refine goesL_ (some 7) rfl rfl Try.func9 (by kernel_rfl) rfl #[.slice A0 l0.length c0] rfl margs_ ?_; (with_reducible refine (limelightref01_Few.calls _ _ l0 false _ ?side1 ?side2 A3.out).mono ?_); (case side1 => exact kcb_ ((Kd.C_below HR0.out HB.out))); (case side2 => exact HC0.out); rintro e w10 ⟨rfl, hb⟩; refine ⟨_, rfl, ?_⟩; have n0_ := Aside0.mk (below_step bel_ hb); clear HB; have HB := n0_; clear n0_; (try clear hb); (try clear hb2); (try clear hk); (try clear hi)))
   go_meet
   case rel => exact ⟨_, (true), (by first | rfl | (simp; done) | (simp [*]; done)), H', ⟨by first | omega | exact Nat.le_refl _⟩, ⟨bel_⟩⟩
 case rest =>
  clear HC2
  try clear p2
  try clear c4
  try clear c5
  try clear c5b0
  try clear c5b1
  try clear c8
  try clear c9
  obtain ⟨kq, x18_1, rfl, HA, HJ1, HB⟩ := hcut
  cases kq with
  | zero => exact absurd HA.out (by simp [limelightlaw06_FlatHosts.j0])
  | succ kj1 =>
   have H := HA.out
   clear HA
   simp only [limelightlaw06_FlatHosts.j0] at H
   by_cases c11 : x18_1 = true
   ·subst c11
    have H1 : ((limelightlaw06_live.f).bind fun t342 => (some t342)) = some r := by rw [if_pos rfl] at H; exact H
    clear H
    have H := H1
    clear H1
    replace H := Option.bind_eq_some_iff.mp H
    obtain ⟨t342, A120, H⟩ := H
    replace H : (some t342) = some r := H
    have A12 := Aside0.mk A120
    clear A120
    obtain rfl := Option.some.inj H
    go_wp2_with (first | ((with_reducible refine gate_callee (f := 10) rfl ?_); refine goesL_ (some 19) rfl rfl Try.func10 (by kernel_rfl) rfl #[] rfl margs_ ?_; (with_reducible refine (limelightlaw06_live.calls  t342 _ A12.out).mono ?_); rintro e w13 ⟨rfl, hb⟩; refine ⟨_, rfl, ?_⟩; have n0_ := Aside0.mk (below_step bel_ hb); clear HB; have HB := n0_; clear n0_; (try clear hb); (try clear hb2); (try clear hk); (try clear hi)))
    go_ret
    exact ⟨by first | rfl | (simp [errW_none, errW_some] <;> rfl) | (simp [*, errW_none, errW_some] <;> rfl), bel_⟩
   ·replace c11 := Bool.eq_false_iff.mpr c11
    subst c11
    have H1 : (limelightlaw06_FlatHosts.l0 kj1 l0 0) = some r := by rw [if_neg (show ¬ (false = true) by decide)] at H; exact H
    clear H
    have H := H1
    clear H1
    have H' := Aside0.mk H
    clear H
    go_wp2
    go_loopg [3] kj1 (fun kq v3 w' => ∃ (x3_2 : Int), v3 = .int .i64 x3_2 ∧ Aside0 (limelightlaw06_FlatHosts.l0 kq l0 x3_2 = some r) ∧ Aside0 (kq ≤ kj1) ∧ Aside0 (Below w.heap.size w w'))
    case atStart => exact ⟨(0), (by first | rfl | (simp; done) | (simp [*]; done)), H', ⟨Nat.le_refl _⟩, ⟨bel_⟩⟩
    case round =>
     clear H'
     try clear c1
     try clear p2
     try clear c4
     try clear c5
     try clear c5b0
     try clear c5b1
     try clear c8
     try clear c9
     try clear c10
     try clear c11
     try clear p2
     obtain ⟨x3_2, rfl, HA, HK2, HB⟩ := hrel
     cases gk with
     | zero => exact absurd HA.out (by simp [limelightlaw06_FlatHosts.l0])
     | succ k2 =>
      have H := HA.out
      clear HA
      simp only [limelightlaw06_FlatHosts.l0] at H
      by_cases c14 : x3_2 < (l0.length : Int)
      ·rw [if_pos c14] at H
       have c14b0 : decide (x3_2 < (l0.length : Int)) = true := decide_eq_true c14
       clear c14
       by_cases c15 : 0 ≤ x3_2
       ·rw [if_pos c15] at H
        have c15b0 : decide (0 ≤ x3_2) = true := decide_eq_true c15
        clear c15
        by_cases c16 : ((rd_T36 l0 x3_2).f5) = (-1)
        ·rw [if_pos c16] at H
         have c16b0 : (((rd_T36 l0 x3_2).f5) == (-1)) = true := beq_iff_eq.mpr c16
         have c16b1 : (((rd_T36 l0 x3_2).f5) != (-1)) = false := bne_eq_false_iff_eq.mpr c16
         clear c16
         have H' := Aside0.mk H
         clear H
         have p344 : 0 ≤ (x3_2 : Int) := of_decide_eq_true asm_
         have q344 : x3_2 < (l0.length : Int) := of_decide_eq_true asm_
         obtain ⟨ad344, A344_3, c344_3, A344_6, c344_6, e344, hx344_0, hx344_1, hx344_2, hx344_3, hx344_4, hx344_5, hx344_6, hl344_3, hi344_3, hl344_6, hi344_6⟩ := at_T36 HR0.out x3_2 p344 q344
         cases e344
         replace hx344_0 := (HB.out.cell (World.block_lt_of_cell? w _ hx344_0)).trans hx344_0
         replace hx344_1 := (HB.out.cell (World.block_lt_of_cell? w _ hx344_1)).trans hx344_1
         replace hx344_2 := (HB.out.cell (World.block_lt_of_cell? w _ hx344_2)).trans hx344_2
         replace hx344_3 := (HB.out.cell (World.block_lt_of_cell? w _ hx344_3)).trans hx344_3
         replace hx344_4 := (HB.out.cell (World.block_lt_of_cell? w _ hx344_4)).trans hx344_4
         replace hx344_5 := (HB.out.cell (World.block_lt_of_cell? w _ hx344_5)).trans hx344_5
         replace hx344_6 := (HB.out.cell (World.block_lt_of_cell? w _ hx344_6)).trans hx344_6
         have HR344_3 := Aside0.mk hi344_3
         have HC344_3 := Aside0.mk hl344_3
         clear hi344_3 hl344_3
         have HR344_6 := Aside0.mk hi344_6
         have HC344_6 := Aside0.mk hl344_6
         clear hi344_6 hl344_6
         replace p344 := eq_true p344
         replace q344 := eq_true q344
         go_wp2
         go_roundg k2
         case measure => have := HJ1.out; have := HK2.out; omega
         case rel => exact ⟨(wrap64 (x3_2 + 1)), (by first | rfl | (simp; done) | (simp [*]; done)), H', ⟨by have := HJ1.out; have := HK2.out; omega⟩, ⟨bel_⟩⟩
        ·rw [if_neg c16] at H
         have c16b0 : (((rd_T36 l0 x3_2).f5) == (-1)) = false := beq_eq_false_iff_ne.mpr c16
         have c16b1 : (((rd_T36 l0 x3_2).f5) != (-1)) = true := bne_iff_ne.mpr c16
         replace H := Option.bind_eq_some_iff.mp H
         obtain ⟨t345, A170, H⟩ := H
         replace H : (if 0 ≤ ((rd_T36 l0 x3_2).f5) then (if ((rd_T36 l0 x3_2).f5) < (l0.length : Int) then ((limelightref01_Ints.f t345 ((rd_T36 l0 ((rd_T36 l0 x3_2).f5)).f3)).bind fun t350 => (if t350 = true then (limelightlaw06_FlatHosts.l1 k2 l0 x3_2 0) else (none))) else (none)) else (none)) = some r := H
         have A17 := Aside0.mk A170
         clear A170
         by_cases c18 : 0 ≤ ((rd_T36 l0 x3_2).f5)
         ·rw [if_pos c18] at H
          have c18b0 : decide (0 ≤ ((rd_T36 l0 x3_2).f5)) = true := decide_eq_true c18
          clear c18
          by_cases c19 : ((rd_T36 l0 x3_2).f5) < (l0.length : Int)
          ·rw [if_pos c19] at H
           have c19b0 : decide (((rd_T36 l0 x3_2).f5) < (l0.length : Int)) = true := decide_eq_true c19
           clear c19
           replace H := Option.bind_eq_some_iff.mp H
           obtain ⟨t350, A200, H⟩ := H
           replace H : (if t350 = true then (limelightlaw06_FlatHosts.l1 k2 l0 x3_2 0) else (none)) = some r := H
           have A20 := Aside0.mk A200
           clear A200
           by_cases c21 : t350 = true
           ·subst c21
            have H1 : (limelightlaw06_FlatHosts.l1 k2 l0 x3_2 0) = some r := by rw [if_pos rfl] at H; exact H
            clear H
            have H := H1
            clear H1
            have H' := Aside0.mk H
            clear H
            have p344 : 0 ≤ (x3_2 : Int) := of_decide_eq_true asm_
            have q344 : x3_2 < (l0.length : Int) := of_decide_eq_true asm_
            obtain ⟨ad344, A344_3, c344_3, A344_6, c344_6, e344, hx344_0, hx344_1, hx344_2, hx344_3, hx344_4, hx344_5, hx344_6, hl344_3, hi344_3, hl344_6, hi344_6⟩ := at_T36 HR0.out x3_2 p344 q344
            cases e344
            replace hx344_0 := (HB.out.cell (World.block_lt_of_cell? w _ hx344_0)).trans hx344_0
            replace hx344_1 := (HB.out.cell (World.block_lt_of_cell? w _ hx344_1)).trans hx344_1
            replace hx344_2 := (HB.out.cell (World.block_lt_of_cell? w _ hx344_2)).trans hx344_2
            replace hx344_3 := (HB.out.cell (World.block_lt_of_cell? w _ hx344_3)).trans hx344_3
            replace hx344_4 := (HB.out.cell (World.block_lt_of_cell? w _ hx344_4)).trans hx344_4
            replace hx344_5 := (HB.out.cell (World.block_lt_of_cell? w _ hx344_5)).trans hx344_5
            replace hx344_6 := (HB.out.cell (World.block_lt_of_cell? w _ hx344_6)).trans hx344_6
            have HR344_3 := Aside0.mk hi344_3
            have HC344_3 := Aside0.mk hl344_3
            clear hi344_3 hl344_3
            have HR344_6 := Aside0.mk hi344_6
            have HC344_6 := Aside0.mk hl344_6
            clear hi344_6 hl344_6
            replace p344 := eq_true p344
            replace q344 := eq_true q344
            try go_wp2
            have n0_ := Aside0.mk (below_drew1 HB.out)
            clear HB
            have HB := n0_
            clear n0_
            have p348 : 0 ≤ (x3_2 : Int) := of_decide_eq_true asm_
            have q348 : x3_2 < (l0.length : Int) := of_decide_eq_true asm_
            obtain ⟨ad348, A348_3, c348_3, A348_6, c348_6, e348, hx348_0, hx348_1, hx348_2, hx348_3, hx348_4, hx348_5, hx348_6, hl348_3, hi348_3, hl348_6, hi348_6⟩ := at_T36 HR0.out x3_2 p348 q348
            have hw348_6 := hx348_6
            have hw348_5 := hx348_5
            have hw348_4 := hx348_4
            have hw348_3 := hx348_3
            have hw348_2 := hx348_2
            have hw348_1 := hx348_1
            have hw348_0 := hx348_0
            obtain rfl : ad344 = ad348 := (by injection e348)
            replace hx348_0 := (HB.out.cell (World.block_lt_of_cell? w _ hx348_0)).trans hx348_0
            replace hx348_1 := (HB.out.cell (World.block_lt_of_cell? w _ hx348_1)).trans hx348_1
            replace hx348_2 := (HB.out.cell (World.block_lt_of_cell? w _ hx348_2)).trans hx348_2
            replace hx348_3 := (HB.out.cell (World.block_lt_of_cell? w _ hx348_3)).trans hx348_3
            replace hx348_4 := (HB.out.cell (World.block_lt_of_cell? w _ hx348_4)).trans hx348_4
            replace hx348_5 := (HB.out.cell (World.block_lt_of_cell? w _ hx348_5)).trans hx348_5
            replace hx348_6 := (HB.out.cell (World.block_lt_of_cell? w _ hx348_6)).trans hx348_6
            have HR348_3 := Aside0.mk hi348_3
            have HC348_3 := Aside0.mk hl348_3
            clear hi348_3 hl348_3
            have HR348_6 := Aside0.mk hi348_6
            have HC348_6 := Aside0.mk hl348_6
            clear hi348_6 hl348_6
            replace p348 := eq_true p348
            replace q348 := eq_true q348
            have p349 : 0 ≤ (((rd_T36 l0 x3_2).f5) : Int) := of_decide_eq_true asm_
            have q349 : ((rd_T36 l0 x3_2).f5) < (l0.length : Int) := of_decide_eq_true asm_
            obtain ⟨ad349, A349_3, c349_3, A349_6, c349_6, e349, hx349_0, hx349_1, hx349_2, hx349_3, hx349_4, hx349_5, hx349_6, hl349_3, hi349_3, hl349_6, hi349_6⟩ := at_T36 HR0.out ((rd_T36 l0 x3_2).f5) p349 q349
            have hw349_6 := hx349_6
            have hw349_5 := hx349_5
            have hw349_4 := hx349_4
            have hw349_3 := hx349_3
            have hw349_2 := hx349_2
            have hw349_1 := hx349_1
            have hw349_0 := hx349_0
            obtain rfl : ad344 = ad349 := (by injection e349)
            replace hx349_0 := (HB.out.cell (World.block_lt_of_cell? w _ hx349_0)).trans hx349_0
            replace hx349_1 := (HB.out.cell (World.block_lt_of_cell? w _ hx349_1)).trans hx349_1
            replace hx349_2 := (HB.out.cell (World.block_lt_of_cell? w _ hx349_2)).trans hx349_2
            replace hx349_3 := (HB.out.cell (World.block_lt_of_cell? w _ hx349_3)).trans hx349_3
            replace hx349_4 := (HB.out.cell (World.block_lt_of_cell? w _ hx349_4)).trans hx349_4
            replace hx349_5 := (HB.out.cell (World.block_lt_of_cell? w _ hx349_5)).trans hx349_5
            replace hx349_6 := (HB.out.cell (World.block_lt_of_cell? w _ hx349_6)).trans hx349_6
            have HR349_3 := Aside0.mk hi349_3
            have HC349_3 := Aside0.mk hl349_3
            clear hi349_3 hl349_3
            have HR349_6 := Aside0.mk hi349_6
            have HC349_6 := Aside0.mk hl349_6
            clear hi349_6 hl349_6
            replace p349 := eq_true p349
            replace q349 := eq_true q349
            refine start_ (n := 14) (S := fun w' => w'.cell? (ad344.add ((x3_2).toNat * 7)) = some (.int .i64 ((rd_T36 l0 x3_2).f0)) ∧ w'.cell? ⟨(ad344.add ((x3_2).toNat * 7)).block, (ad344.add ((x3_2).toNat * 7)).off + 1, none⟩ = some (.int .i64 ((rd_T36 l0 x3_2).f1)) ∧ w'.cell? ⟨(ad344.add ((x3_2).toNat * 7)).block, (ad344.add ((x3_2).toNat * 7)).off + 2, none⟩ = some (.int .i64 ((rd_T36 l0 x3_2).f2)) ∧ w'.cell? ⟨(ad344.add ((x3_2).toNat * 7)).block, (ad344.add ((x3_2).toNat * 7)).off + 3, none⟩ = some (.slice A348_3 ((rd_T36 l0 x3_2).f3).length c348_3) ∧ w'.cell? ⟨(ad344.add ((x3_2).toNat * 7)).block, (ad344.add ((x3_2).toNat * 7)).off + 4, none⟩ = some (.int .i64 ((rd_T36 l0 x3_2).f4)) ∧ w'.cell? ⟨(ad344.add ((x3_2).toNat * 7)).block, (ad344.add ((x3_2).toNat * 7)).off + 5, none⟩ = some (.int .i64 ((rd_T36 l0 x3_2).f5)) ∧ w'.cell? ⟨(ad344.add ((x3_2).toNat * 7)).block, (ad344.add ((x3_2).toNat * 7)).off + 6, none⟩ = some (.slice A348_6 ((rd_T36 l0 x3_2).f6).length c348_6) ∧ w'.cell? (ad344.add ((((rd_T36 l0 x3_2).f5)).toNat * 7)) = some (.int .i64 ((rd_T36 l0 ((rd_T36 l0 x3_2).f5)).f0)) ∧ w'.cell? ⟨(ad344.add ((((rd_T36 l0 x3_2).f5)).toNat * 7)).block, (ad344.add ((((rd_T36 l0 x3_2).f5)).toNat * 7)).off + 1, none⟩ = some (.int .i64 ((rd_T36 l0 ((rd_T36 l0 x3_2).f5)).f1)) ∧ w'.cell? ⟨(ad344.add ((((rd_T36 l0 x3_2).f5)).toNat * 7)).block, (ad344.add ((((rd_T36 l0 x3_2).f5)).toNat * 7)).off + 2, none⟩ = some (.int .i64 ((rd_T36 l0 ((rd_T36 l0 x3_2).f5)).f2)) ∧ w'.cell? ⟨(ad344.add ((((rd_T36 l0 x3_2).f5)).toNat * 7)).block, (ad344.add ((((rd_T36 l0 x3_2).f5)).toNat * 7)).off + 3, none⟩ = some (.slice A349_3 ((rd_T36 l0 ((rd_T36 l0 x3_2).f5)).f3).length c349_3) ∧ w'.cell? ⟨(ad344.add ((((rd_T36 l0 x3_2).f5)).toNat * 7)).block, (ad344.add ((((rd_T36 l0 x3_2).f5)).toNat * 7)).off + 4, none⟩ = some (.int .i64 ((rd_T36 l0 ((rd_T36 l0 x3_2).f5)).f4)) ∧ w'.cell? ⟨(ad344.add ((((rd_T36 l0 x3_2).f5)).toNat * 7)).block, (ad344.add ((((rd_T36 l0 x3_2).f5)).toNat * 7)).off + 5, none⟩ = some (.int .i64 ((rd_T36 l0 ((rd_T36 l0 x3_2).f5)).f5)) ∧ w'.cell? ⟨(ad344.add ((((rd_T36 l0 x3_2).f5)).toNat * 7)).block, (ad344.add ((((rd_T36 l0 x3_2).f5)).toNat * 7)).off + 6, none⟩ = some (.slice A349_6 ((rd_T36 l0 ((rd_T36 l0 x3_2).f5)).f6).length c349_6)) (ds := []) #[false, false, false, false, false, false, false, false, false, false, false, false, false, false] (by kernel_rfl) rfl rfl ⟨((HB.out.cell (World.block_lt_of_cell? w _ hw348_0)).trans hw348_0), ((HB.out.cell (World.block_lt_of_cell? w _ hw348_1)).trans hw348_1), ((HB.out.cell (World.block_lt_of_cell? w _ hw348_2)).trans hw348_2), ((HB.out.cell (World.block_lt_of_cell? w _ hw348_3)).trans hw348_3), ((HB.out.cell (World.block_lt_of_cell? w _ hw348_4)).trans hw348_4), ((HB.out.cell (World.block_lt_of_cell? w _ hw348_5)).trans hw348_5), ((HB.out.cell (World.block_lt_of_cell? w _ hw348_6)).trans hw348_6), ((HB.out.cell (World.block_lt_of_cell? w _ hw349_0)).trans hw349_0), ((HB.out.cell (World.block_lt_of_cell? w _ hw349_1)).trans hw349_1), ((HB.out.cell (World.block_lt_of_cell? w _ hw349_2)).trans hw349_2), ((HB.out.cell (World.block_lt_of_cell? w _ hw349_3)).trans hw349_3), ((HB.out.cell (World.block_lt_of_cell? w _ hw349_4)).trans hw349_4), ((HB.out.cell (World.block_lt_of_cell? w _ hw349_5)).trans hw349_5), ((HB.out.cell (World.block_lt_of_cell? w _ hw349_6)).trans hw349_6)⟩ (fun hHeld => ?_); refine with_tabW limelightlaw06_FlatHosts.tab7 limelightlaw06_FlatHosts.bits7 (fun HT_ HW_ => ?_)
            generalize wr.drew = w22 at HB HR348_3 HR348_6 HR349_3 HR349_6 hx348_0 hx348_1 hx348_2 hx348_3 hx348_4 hx348_5 hx348_6 hx349_0 hx349_1 hx349_2 hx349_3 hx349_4 hx349_5 hx349_6 hHeld ⊢
            refine pure_ (i := 0) (N := some 32) (v := ?_) (a' := ?_) #[true, false, false, false, false, false, false, false, false, false, false, false, false, false] rfl rfl (any_of HT_.out (by kernel_rfl)) (fun _ _ _ h => h) (Or.inl ⟨by rfl, ?_⟩) ?_ ?_
            rotate_left
            ·intro w'
             go_simp
             with_reducible rfl
            rotate_left
            ·simp only [Act.put, List.setIfInBounds_toArray, List.set_cons_zero, List.set_cons_succ, i64_w, i32_w]
             rfl
            refine pure_ (i := 1) (N := some 33) (v := ?_) (a' := ?_) #[true, true, false, false, false, false, false, false, false, false, false, false, false, false] rfl rfl (any_of HT_.out (by kernel_rfl)) (fun _ _ _ h => h) (Or.inl ⟨by rfl, ?_⟩) ?_ ?_
            rotate_left
            ·intro w'
             go_simp
             with_reducible rfl
            rotate_left
            ·simp only [Act.put, List.setIfInBounds_toArray, List.set_cons_zero, List.set_cons_succ, i64_w, i32_w]
             rfl
            refine pure_ (i := 3) (N := some 35) (v := ?_) (a' := ?_) #[true, true, false, true, false, false, false, false, false, false, false, false, false, false] rfl rfl (any_of HT_.out (by kernel_rfl)) (fun _ _ _ h => h) (Or.inl ⟨by rfl, ?_⟩) ?_ ?_
            rotate_left
            ·intro w'
             go_simp
             with_reducible rfl
            rotate_left
            ·simp only [Act.put, List.setIfInBounds_toArray, List.set_cons_zero, List.set_cons_succ, i64_w, i32_w]
             rfl
            refine pure_ (i := 4) (N := some 36) (v := ?_) (a' := ?_) #[true, true, false, true, true, false, false, false, false, false, false, false, false, false] rfl rfl (any_of HT_.out (by kernel_rfl)) (fun _ _ _ h => h) (Or.inl ⟨by rfl, ?_⟩) ?_ ?_
            rotate_left
            ·intro w'
             go_simp
             with_reducible rfl
            rotate_left
            ·simp only [Act.put, List.setIfInBounds_toArray, List.set_cons_zero, List.set_cons_succ, i64_w, i32_w]
             rfl
            refine pure_ (i := 5) (N := some 37) (v := ?_) (a' := ?_) #[true, true, false, true, true, true, false, false, false, false, false, false, false, false] rfl rfl (any_of HT_.out (by kernel_rfl)) (fun _ _ _ h => h) (Or.inl ⟨by rfl, ?_⟩) ?_ ?_
            rotate_left
            ·intro w'
             go_simp
             with_reducible rfl
            rotate_left
            ·simp only [Act.put, List.setIfInBounds_toArray, List.set_cons_zero, List.set_cons_succ, i64_w, i32_w]
             rfl
            refine pure_ (i := 6) (N := some 38) (v := ?_) (a' := ?_) #[true, true, false, true, true, true, true, false, false, false, false, false, false, false] rfl rfl (any_of HT_.out (by kernel_rfl)) (fun _ _ _ h => h) (Or.inl ⟨by rfl, ?_⟩) ?_ ?_
            rotate_left
            ·intro w'
             go_simp
             with_reducible rfl
            rotate_left
            ·simp only [Act.put, List.setIfInBounds_toArray, List.set_cons_zero, List.set_cons_succ, i64_w, i32_w]
             rfl
            refine pure_ (i := 7) (N := some 39) (v := ?_) (a' := ?_) #[true, true, false, true, true, true, true, true, false, false, false, false, false, false] rfl rfl (any_of HT_.out (by kernel_rfl)) (fun _ _ _ h => h) (Or.inl ⟨by rfl, ?_⟩) ?_ ?_
            rotate_left
            ·intro w'
             go_simp
             with_reducible rfl
            rotate_left
            ·simp only [Act.put, List.setIfInBounds_toArray, List.set_cons_zero, List.set_cons_succ, i64_w, i32_w]
             rfl
            refine take_ (i := 8) (N := some 40) (v := ?_) (a' := ?_) #[true, true, false, true, true, true, true, true, true, false, false, false, false, false] rfl rfl (take_ofW HT_.out HW_.out (by kernel_rfl)) (fun _ _ _ h => h) (Or.inl ⟨by rfl, ?_⟩) hHeld ?_ ?_
            rotate_left
            ·rintro w' ⟨s0, s1, s2, s3, s4, s5, s6, s7, s8, s9, s10, s11, s12, s13⟩
             go_simp
             with_reducible rfl
            rotate_left
            ·simp only [Act.put, List.setIfInBounds_toArray, List.set_cons_zero, List.set_cons_succ, i64_w, i32_w]
             rfl
            refine pure_ (i := 9) (N := some 41) (v := ?_) (a' := ?_) #[true, true, false, true, true, true, true, true, true, true, false, false, false, false] rfl rfl (any_of HT_.out (by kernel_rfl)) (fun _ _ _ h => h) (Or.inl ⟨by rfl, ?_⟩) ?_ ?_
            rotate_left
            ·intro w'
             go_simp
             with_reducible rfl
            rotate_left
            ·simp only [Act.put, List.setIfInBounds_toArray, List.set_cons_zero, List.set_cons_succ, i64_w, i32_w]
             rfl
            refine pure_ (i := 10) (N := some 42) (v := ?_) (a' := ?_) #[true, true, false, true, true, true, true, true, true, true, true, false, false, false] rfl rfl (any_of HT_.out (by kernel_rfl)) (fun _ _ _ h => h) (Or.inl ⟨by rfl, ?_⟩) ?_ ?_
            rotate_left
            ·intro w'
             go_simp
             with_reducible rfl
            rotate_left
            ·simp only [Act.put, List.setIfInBounds_toArray, List.set_cons_zero, List.set_cons_succ, i64_w, i32_w]
             rfl
            refine take_ (i := 11) (N := some 43) (v := ?_) (a' := ?_) #[true, true, false, true, true, true, true, true, true, true, true, true, false, false] rfl rfl (take_ofW HT_.out HW_.out (by kernel_rfl)) (fun _ _ _ h => h) (Or.inl ⟨by rfl, ?_⟩) hHeld ?_ ?_
            rotate_left
            ·rintro w' ⟨s0, s1, s2, s3, s4, s5, s6, s7, s8, s9, s10, s11, s12, s13⟩
             go_simp
             with_reducible rfl
            rotate_left
            ·simp only [Act.put, List.setIfInBounds_toArray, List.set_cons_zero, List.set_cons_succ, i64_w, i32_w]
             rfl
            refine one_ (i := 2) (N := some 34) #[true, true, true, true, true, true, true, true, true, true, true, true, false, false] rfl rfl (one_of HT_.out (by kernel_rfl)) (by decide) (fun K hK => ?_)
            refine goes_ Try.func13 (by kernel_rfl) rfl #[.slice (some ad344) l0.length c0, .int .i64 x3_2] (by rfl) rfl rfl margs_ ?_
            with_reducible refine (flat_Kids.calls _ _ l0 x3_2 t345 _ ?side1 ?side2 A17.out).mono ?_
            (case side1 => exact kcb_ ((Kd.C_below HR0.out HB.out)))
            (case side2 => exact HC0.out)
            rintro e w23 ⟨v346, rfl, ho0, hb⟩
            refine ⟨_, rfl, ?_⟩
            have n0_ := Aside0.mk (Kd.R_lower ho0 (below_size bel_))
            have n1_ := Aside0.mk (below_step bel_ hb)
            clear HB
            have HO347 := n0_
            have HB := n1_
            clear n0_ n1_
            (try clear hb)
            (try clear hb2)
            (try clear hk)
            (try clear hi)
            (try clear ho0)
            obtain ⟨Ao24, co24, eo24⟩ := Kd.R_slice HO347.out
            (first | subst eo24 | (injection eo24 with f1_ f2_ f3_; have f4_ := f1_.symm; have f5_ := f3_.symm; clear f1_ f2_ f3_; subst f4_; subst f5_))
            refine hK.out _ _ ⟨((HB.out.cell (World.block_lt_of_cell? w _ hw348_0)).trans hw348_0), ((HB.out.cell (World.block_lt_of_cell? w _ hw348_1)).trans hw348_1), ((HB.out.cell (World.block_lt_of_cell? w _ hw348_2)).trans hw348_2), ((HB.out.cell (World.block_lt_of_cell? w _ hw348_3)).trans hw348_3), ((HB.out.cell (World.block_lt_of_cell? w _ hw348_4)).trans hw348_4), ((HB.out.cell (World.block_lt_of_cell? w _ hw348_5)).trans hw348_5), ((HB.out.cell (World.block_lt_of_cell? w _ hw348_6)).trans hw348_6), ((HB.out.cell (World.block_lt_of_cell? w _ hw349_0)).trans hw349_0), ((HB.out.cell (World.block_lt_of_cell? w _ hw349_1)).trans hw349_1), ((HB.out.cell (World.block_lt_of_cell? w _ hw349_2)).trans hw349_2), ((HB.out.cell (World.block_lt_of_cell? w _ hw349_3)).trans hw349_3), ((HB.out.cell (World.block_lt_of_cell? w _ hw349_4)).trans hw349_4), ((HB.out.cell (World.block_lt_of_cell? w _ hw349_5)).trans hw349_5), ((HB.out.cell (World.block_lt_of_cell? w _ hw349_6)).trans hw349_6)⟩ (fun hHeld => ?_)
            clear hK K
            refine norm_ (a' := ?_) ?_ ?_
            rotate_left
            ·show Act.put _ (some 34) _ = _
             simp only [Act.put, List.setIfInBounds_toArray, List.set_cons_zero, List.set_cons_succ, i64_w, i32_w]
             rfl
            refine one_ (i := 12) (N := some 44) #[true, true, true, true, true, true, true, true, true, true, true, true, true, false] rfl rfl (one_of HT_.out (by kernel_rfl)) (by decide) (fun K hK => ?_)
            refine goes_ Try.func17 (by kernel_rfl) rfl #[.slice Ao24 t345.length co24, .slice A349_3 ((rd_T36 l0 ((rd_T36 l0 x3_2).f5)).f3).length c349_3] (by rfl) rfl rfl margs_ ?_
            with_reducible refine (limelightref01_Ints.calls _ _ t345 _ _ ((rd_T36 l0 ((rd_T36 l0 x3_2).f5)).f3) true _ ?side1 ?side2 ?side3 ?side4 A20.out).mono ?_
            (case side1 => exact kcb_ ((Kd.R_reads' HO347.out).2.2))
            (case side2 => exact (Kd.R_reads' HO347.out).2.1)
            (case side3 => exact kcb_ ((Kd.C_below HR349_3.out HB.out)))
            (case side4 => exact HC349_3.out)
            rintro e w25 ⟨rfl, hb⟩
            refine ⟨_, rfl, ?_⟩
            have n0_ := Aside0.mk (Kd.R_below (kra_ HO347.out) hb)
            have n1_ := Aside0.mk (below_step bel_ hb)
            clear HO347
            clear HB
            have HO347 := n0_
            have HB := n1_
            clear n0_ n1_
            (try clear hb)
            (try clear hb2)
            (try clear hk)
            (try clear hi)
            refine hK.out _ _ ⟨((HB.out.cell (World.block_lt_of_cell? w _ hw348_0)).trans hw348_0), ((HB.out.cell (World.block_lt_of_cell? w _ hw348_1)).trans hw348_1), ((HB.out.cell (World.block_lt_of_cell? w _ hw348_2)).trans hw348_2), ((HB.out.cell (World.block_lt_of_cell? w _ hw348_3)).trans hw348_3), ((HB.out.cell (World.block_lt_of_cell? w _ hw348_4)).trans hw348_4), ((HB.out.cell (World.block_lt_of_cell? w _ hw348_5)).trans hw348_5), ((HB.out.cell (World.block_lt_of_cell? w _ hw348_6)).trans hw348_6), ((HB.out.cell (World.block_lt_of_cell? w _ hw349_0)).trans hw349_0), ((HB.out.cell (World.block_lt_of_cell? w _ hw349_1)).trans hw349_1), ((HB.out.cell (World.block_lt_of_cell? w _ hw349_2)).trans hw349_2), ((HB.out.cell (World.block_lt_of_cell? w _ hw349_3)).trans hw349_3), ((HB.out.cell (World.block_lt_of_cell? w _ hw349_4)).trans hw349_4), ((HB.out.cell (World.block_lt_of_cell? w _ hw349_5)).trans hw349_5), ((HB.out.cell (World.block_lt_of_cell? w _ hw349_6)).trans hw349_6)⟩ (fun hHeld => ?_)
            clear hK K
            refine norm_ (a' := ?_) ?_ ?_
            rotate_left
            ·show Act.put _ (some 44) _ = _
             simp only [Act.put, List.setIfInBounds_toArray, List.set_cons_zero, List.set_cons_succ, i64_w, i32_w]
             rfl
            refine pure_ (i := 13) (N := some 45) (v := ?_) (a' := ?_) #[true, true, true, true, true, true, true, true, true, true, true, true, true, true] rfl rfl (any_of HT_.out (by kernel_rfl)) (fun _ _ _ h => h) (Or.inl ⟨by rfl, ?_⟩) ?_ ?_
            rotate_left
            ·intro w'
             go_simp
             with_reducible rfl
            rotate_left
            ·simp only [Act.put, List.setIfInBounds_toArray, List.set_cons_zero, List.set_cons_succ, i64_w, i32_w]
             rfl
            refine done_ (done_of HT_.out (by kernel_rfl)) ?_
            try go_wp2
            go_loopg [4] k2 (fun kq v4 w' => ∃ (x4_3 : Int), v4 = .int .i64 x4_3 ∧ Aside0 (limelightlaw06_FlatHosts.l1 kq l0 x3_2 x4_3 = some r) ∧ Aside0 (kq ≤ k2) ∧ Aside0 (Below w.heap.size w w'))
            case atStart => exact ⟨(0), (by first | rfl | (simp; done) | (simp [*]; done)), H', ⟨Nat.le_refl _⟩, ⟨bel_⟩⟩
            case round =>
             clear H'
             try clear c1
             try clear c2
             try clear p2
             try clear c3
             try clear p3
             try clear q3
             try clear hx3
             try clear c4
             try clear c5
             try clear c5b0
             try clear c5b1
             try clear p6
             try clear c8
             try clear c9
             try clear c10
             try clear c11
             try clear c13
             try clear c14
             try clear c14b0
             try clear c15
             try clear c15b0
             try clear c16
             try clear c16b0
             try clear c16b1
             try clear c17
             try clear c18
             try clear c18b0
             try clear c19
             try clear c19b0
             try clear c21
             try clear hx344_0
             try clear hx344_1
             try clear hx344_2
             try clear hx344_3
             try clear hx344_4
             try clear hx344_5
             try clear hx344_6
             try clear hx348_0
             try clear hx348_1
             try clear hx348_2
             try clear hx348_3
             try clear hx348_4
             try clear hx348_5
             try clear hx348_6
             try clear hx349_0
             try clear hx349_1
             try clear hx349_2
             try clear hx349_3
             try clear hx349_4
             try clear hx349_5
             try clear hx349_6
             try clear p2
             try clear p344
             try clear p348
             try clear p349
             try clear q344
             try clear q348
             try clear q349
             obtain ⟨x4_3, rfl, HA, HK3, HB⟩ := hrel
             cases gk with
             | zero => exact absurd HA.out (by simp [limelightlaw06_FlatHosts.l1])
             | succ k3 =>
              have H := HA.out
              clear HA
              simp only [limelightlaw06_FlatHosts.l1] at H
              by_cases c26 : 0 ≤ x3_2
              ·rw [if_pos c26] at H
               have c26b0 : decide (0 ≤ x3_2) = true := decide_eq_true c26
               clear c26
               by_cases c27 : x3_2 < (l0.length : Int)
               ·rw [if_pos c27] at H
                have c27b0 : decide (x3_2 < (l0.length : Int)) = true := decide_eq_true c27
                clear c27
                by_cases c28 : x4_3 < (((rd_T36 l0 x3_2).f3).length : Int)
                ·rw [if_pos c28] at H
                 have c28b0 : decide (x4_3 < (((rd_T36 l0 x3_2).f3).length : Int)) = true := decide_eq_true c28
                 clear c28
                 by_cases c29 : 0 ≤ x4_3
                 ·rw [if_pos c29] at H
                  have c29b0 : decide (0 ≤ x4_3) = true := decide_eq_true c29
                  clear c29
                  replace H := Option.bind_eq_some_iff.mp H
                  obtain ⟨t354, A300, H⟩ := H
                  replace H : (if t354 = (-1) then ((flat_Parent.f l0 (rd ((rd_T36 l0 x3_2).f3) x4_3)).bind fun t355 => (if t355 = (-1) then ((flat_Has.f l0 (rd ((rd_T36 l0 x3_2).f3) x4_3)).bind fun t356 => (if t356 = true then (none) else (limelightlaw06_FlatHosts.l1 k3 l0 x3_2 (wrap64 (x4_3 + 1))))) else (none))) else (limelightlaw06_FlatHosts.l1 k3 l0 x3_2 (wrap64 (x4_3 + 1)))) = some r := H
                  have A30 := Aside0.mk A300
                  clear A300
                  by_cases c31 : t354 = (-1)
                  ·rw [if_pos c31] at H
                   have c31b0 : (t354 == (-1)) = true := beq_iff_eq.mpr c31
                   have c31b1 : (t354 != (-1)) = false := bne_eq_false_iff_eq.mpr c31
                   clear c31
                   replace H := Option.bind_eq_some_iff.mp H
                   obtain ⟨t355, A320, H⟩ := H
                   replace H : (if t355 = (-1) then ((flat_Has.f l0 (rd ((rd_T36 l0 x3_2).f3) x4_3)).bind fun t356 => (if t356 = true then (none) else (limelightlaw06_FlatHosts.l1 k3 l0 x3_2 (wrap64 (x4_3 + 1))))) else (none)) = some r := H
                   have A32 := Aside0.mk A320
                   clear A320
                   by_cases c33 : t355 = (-1)
                   ·rw [if_pos c33] at H
                    have c33b0 : (t355 == (-1)) = true := beq_iff_eq.mpr c33
                    have c33b1 : (t355 != (-1)) = false := bne_eq_false_iff_eq.mpr c33
                    clear c33
                    replace H := Option.bind_eq_some_iff.mp H
                    obtain ⟨t356, A340, H⟩ := H
                    replace H : (if t356 = true then (none) else (limelightlaw06_FlatHosts.l1 k3 l0 x3_2 (wrap64 (x4_3 + 1)))) = some r := H
                    have A34 := Aside0.mk A340
                    clear A340
                    by_cases c35 : t356 = true
                    ·subst c35
                     have H1 : (none) = some r := by rw [if_pos rfl] at H; exact H
                     clear H
                     have H := H1
                     clear H1
                     exact absurd H (by simp)
                    ·replace c35 := Bool.eq_false_iff.mpr c35
                     subst c35
                     have H1 : (limelightlaw06_FlatHosts.l1 k3 l0 x3_2 (wrap64 (x4_3 + 1))) = some r := by rw [if_neg (show ¬ (false = true) by decide)] at H; exact H
                     clear H
                     have H := H1
                     clear H1
                     have H' := Aside0.mk H
                     clear H
                     have p351 : 0 ≤ (x3_2 : Int) := of_decide_eq_true asm_
                     have q351 : x3_2 < (l0.length : Int) := of_decide_eq_true asm_
                     obtain ⟨ad351, A351_3, c351_3, A351_6, c351_6, e351, hx351_0, hx351_1, hx351_2, hx351_3, hx351_4, hx351_5, hx351_6, hl351_3, hi351_3, hl351_6, hi351_6⟩ := at_T36 HR0.out x3_2 p351 q351
                     obtain rfl : ad344 = ad351 := (by injection e351)
                     replace hx351_0 := (HB.out.cell (World.block_lt_of_cell? w _ hx351_0)).trans hx351_0
                     replace hx351_1 := (HB.out.cell (World.block_lt_of_cell? w _ hx351_1)).trans hx351_1
                     replace hx351_2 := (HB.out.cell (World.block_lt_of_cell? w _ hx351_2)).trans hx351_2
                     replace hx351_3 := (HB.out.cell (World.block_lt_of_cell? w _ hx351_3)).trans hx351_3
                     replace hx351_4 := (HB.out.cell (World.block_lt_of_cell? w _ hx351_4)).trans hx351_4
                     replace hx351_5 := (HB.out.cell (World.block_lt_of_cell? w _ hx351_5)).trans hx351_5
                     replace hx351_6 := (HB.out.cell (World.block_lt_of_cell? w _ hx351_6)).trans hx351_6
                     have HR351_3 := Aside0.mk hi351_3
                     have HC351_3 := Aside0.mk hl351_3
                     clear hi351_3 hl351_3
                     have HR351_6 := Aside0.mk hi351_6
                     have HC351_6 := Aside0.mk hl351_6
                     clear hi351_6 hl351_6
                     replace p351 := eq_true p351
                     replace q351 := eq_true q351
                     have p352 : 0 ≤ (x3_2 : Int) := of_decide_eq_true asm_
                     have q352 : x3_2 < (l0.length : Int) := of_decide_eq_true asm_
                     obtain ⟨ad352, A352_3, c352_3, A352_6, c352_6, e352, hx352_0, hx352_1, hx352_2, hx352_3, hx352_4, hx352_5, hx352_6, hl352_3, hi352_3, hl352_6, hi352_6⟩ := at_T36 HR0.out x3_2 p352 q352
                     obtain rfl : ad344 = ad352 := (by injection e352)
                     replace hx352_0 := (HB.out.cell (World.block_lt_of_cell? w _ hx352_0)).trans hx352_0
                     replace hx352_1 := (HB.out.cell (World.block_lt_of_cell? w _ hx352_1)).trans hx352_1
                     replace hx352_2 := (HB.out.cell (World.block_lt_of_cell? w _ hx352_2)).trans hx352_2
                     replace hx352_3 := (HB.out.cell (World.block_lt_of_cell? w _ hx352_3)).trans hx352_3
                     replace hx352_4 := (HB.out.cell (World.block_lt_of_cell? w _ hx352_4)).trans hx352_4
                     replace hx352_5 := (HB.out.cell (World.block_lt_of_cell? w _ hx352_5)).trans hx352_5
                     replace hx352_6 := (HB.out.cell (World.block_lt_of_cell? w _ hx352_6)).trans hx352_6
                     have HR352_3 := Aside0.mk hi352_3
                     have HC352_3 := Aside0.mk hl352_3
                     clear hi352_3 hl352_3
                     have HR352_6 := Aside0.mk hi352_6
                     have HC352_6 := Aside0.mk hl352_6
                     clear hi352_6 hl352_6
                     replace p352 := eq_true p352
                     replace q352 := eq_true q352
                     have ea_ := Option.some.inj (hx351_3.symm.trans hx352_3)
                     injection ea_ with ea_ en_ ec_
                     subst ea_
                     subst ec_
                     clear en_
                     have ea_ := Option.some.inj (hx351_6.symm.trans hx352_6)
                     injection ea_ with ea_ en_ ec_
                     subst ea_
                     subst ec_
                     clear en_
                     have p353 : 0 ≤ (x4_3 : Int) := of_decide_eq_true asm_
                     have q353 : x4_3 < (((rd_T36 l0 x3_2).f3).length : Int) := of_decide_eq_true asm_
                     obtain ⟨ad353, e353, hx353_0⟩ := Kd.at_int HR352_3.out x4_3 p353 q353
                     cases e353
                     replace hx353_0 := (HB.out.cell (World.block_lt_of_cell? w _ hx353_0)).trans hx353_0
                     replace p353 := eq_true p353
                     replace q353 := eq_true q353
                     go_wp2_with (first | ((with_reducible refine gate_callee (f := 30) rfl ?_); refine goesL_ (some 66) rfl rfl Try.func30 (by kernel_rfl) rfl #[.slice (some ad344) l0.length c0, .int .i64 (rd ((rd_T36 l0 x3_2).f3) x4_3)] rfl margs_ ?_; (with_reducible refine (limelightref05_Of.calls k3 _ _ l0 (rd ((rd_T36 l0 x3_2).f3) x4_3) t354 _ ?side1 ?side2 A30.out).mono ?_); (case side1 => exact kcb_ ((Kd.C_below HR0.out HB.out))); (case side2 => exact HC0.out); rintro e w36 ⟨rfl, hb⟩; refine ⟨_, rfl, ?_⟩; have n0_ := Aside0.mk (below_step bel_ hb); clear HB; have HB := n0_; clear n0_; (try clear hb); (try clear hb2); (try clear hk); (try clear hi)) | (go_at_call 14; (with_reducible refine (flat_Parent.calls _ _ l0 (rd ((rd_T36 l0 x3_2).f3) x4_3) t355 _ ?side1 ?side2 A32.out).mono ?_); (case side1 => exact kcb_ ((Kd.C_below HR0.out HB.out))); (case side2 => exact HC0.out); rintro e w37 ⟨rfl, hb⟩; have n0_ := Aside0.mk (below_step bel_ hb); clear HB; have HB := n0_; clear n0_; (try clear hb); (try clear hb2); (try clear hk); (try clear hi)) | (go_at_call 16; (with_reducible refine (flat_Has.calls _ _ l0 (rd ((rd_T36 l0 x3_2).f3) x4_3) false _ ?side1 ?side2 A34.out).mono ?_); (case side1 => exact kcb_ ((Kd.C_below HR0.out HB.out))); (case side2 => exact HC0.out); rintro e w38 ⟨rfl, hb⟩; have n0_ := Aside0.mk (below_step bel_ hb); clear HB; have HB := n0_; clear n0_; (try clear hb); (try clear hb2); (try clear hk); (try clear hi)))
                     go_roundg k3
                     case measure => have := HJ1.out; have := HK2.out; have := HK3.out; omega
                     case rel => exact ⟨(wrap64 (x4_3 + 1)), (by first | rfl | (simp; done) | (simp [*]; done)), H', ⟨by have := HJ1.out; have := HK2.out; have := HK3.out; omega⟩, ⟨bel_⟩⟩
                   ·rw [if_neg c33] at H
                    exact absurd H (by simp)
                  ·rw [if_neg c31] at H
                   have c31b0 : (t354 == (-1)) = false := beq_eq_false_iff_ne.mpr c31
                   have c31b1 : (t354 != (-1)) = true := bne_iff_ne.mpr c31
                   have H' := Aside0.mk H
                   clear H
                   have p351 : 0 ≤ (x3_2 : Int) := of_decide_eq_true asm_
                   have q351 : x3_2 < (l0.length : Int) := of_decide_eq_true asm_
                   obtain ⟨ad351, A351_3, c351_3, A351_6, c351_6, e351, hx351_0, hx351_1, hx351_2, hx351_3, hx351_4, hx351_5, hx351_6, hl351_3, hi351_3, hl351_6, hi351_6⟩ := at_T36 HR0.out x3_2 p351 q351
                   obtain rfl : ad344 = ad351 := (by injection e351)
                   replace hx351_0 := (HB.out.cell (World.block_lt_of_cell? w _ hx351_0)).trans hx351_0
                   replace hx351_1 := (HB.out.cell (World.block_lt_of_cell? w _ hx351_1)).trans hx351_1
                   replace hx351_2 := (HB.out.cell (World.block_lt_of_cell? w _ hx351_2)).trans hx351_2
                   replace hx351_3 := (HB.out.cell (World.block_lt_of_cell? w _ hx351_3)).trans hx351_3
                   replace hx351_4 := (HB.out.cell (World.block_lt_of_cell? w _ hx351_4)).trans hx351_4
                   replace hx351_5 := (HB.out.cell (World.block_lt_of_cell? w _ hx351_5)).trans hx351_5
                   replace hx351_6 := (HB.out.cell (World.block_lt_of_cell? w _ hx351_6)).trans hx351_6
                   have HR351_3 := Aside0.mk hi351_3
                   have HC351_3 := Aside0.mk hl351_3
                   clear hi351_3 hl351_3
                   have HR351_6 := Aside0.mk hi351_6
                   have HC351_6 := Aside0.mk hl351_6
                   clear hi351_6 hl351_6
                   replace p351 := eq_true p351
                   replace q351 := eq_true q351
                   have p352 : 0 ≤ (x3_2 : Int) := of_decide_eq_true asm_
                   have q352 : x3_2 < (l0.length : Int) := of_decide_eq_true asm_
                   obtain ⟨ad352, A352_3, c352_3, A352_6, c352_6, e352, hx352_0, hx352_1, hx352_2, hx352_3, hx352_4, hx352_5, hx352_6, hl352_3, hi352_3, hl352_6, hi352_6⟩ := at_T36 HR0.out x3_2 p352 q352
                   obtain rfl : ad344 = ad352 := (by injection e352)
                   replace hx352_0 := (HB.out.cell (World.block_lt_of_cell? w _ hx352_0)).trans hx352_0
                   replace hx352_1 := (HB.out.cell (World.block_lt_of_cell? w _ hx352_1)).trans hx352_1
                   replace hx352_2 := (HB.out.cell (World.block_lt_of_cell? w _ hx352_2)).trans hx352_2
                   replace hx352_3 := (HB.out.cell (World.block_lt_of_cell? w _ hx352_3)).trans hx352_3
                   replace hx352_4 := (HB.out.cell (World.block_lt_of_cell? w _ hx352_4)).trans hx352_4
                   replace hx352_5 := (HB.out.cell (World.block_lt_of_cell? w _ hx352_5)).trans hx352_5
                   replace hx352_6 := (HB.out.cell (World.block_lt_of_cell? w _ hx352_6)).trans hx352_6
                   have HR352_3 := Aside0.mk hi352_3
                   have HC352_3 := Aside0.mk hl352_3
                   clear hi352_3 hl352_3
                   have HR352_6 := Aside0.mk hi352_6
                   have HC352_6 := Aside0.mk hl352_6
                   clear hi352_6 hl352_6
                   replace p352 := eq_true p352
                   replace q352 := eq_true q352
                   have ea_ := Option.some.inj (hx351_3.symm.trans hx352_3)
                   injection ea_ with ea_ en_ ec_
                   subst ea_
                   subst ec_
                   clear en_
                   have ea_ := Option.some.inj (hx351_6.symm.trans hx352_6)
                   injection ea_ with ea_ en_ ec_
                   subst ea_
                   subst ec_
                   clear en_
                   have p353 : 0 ≤ (x4_3 : Int) := of_decide_eq_true asm_
                   have q353 : x4_3 < (((rd_T36 l0 x3_2).f3).length : Int) := of_decide_eq_true asm_
                   obtain ⟨ad353, e353, hx353_0⟩ := Kd.at_int HR352_3.out x4_3 p353 q353
                   cases e353
                   replace hx353_0 := (HB.out.cell (World.block_lt_of_cell? w _ hx353_0)).trans hx353_0
                   replace p353 := eq_true p353
                   replace q353 := eq_true q353
                   go_wp2_with (first | ((with_reducible refine gate_callee (f := 30) rfl ?_); refine goesL_ (some 66) rfl rfl Try.func30 (by kernel_rfl) rfl #[.slice (some ad344) l0.length c0, .int .i64 (rd ((rd_T36 l0 x3_2).f3) x4_3)] rfl margs_ ?_; (with_reducible refine (limelightref05_Of.calls k3 _ _ l0 (rd ((rd_T36 l0 x3_2).f3) x4_3) t354 _ ?side1 ?side2 A30.out).mono ?_); (case side1 => exact kcb_ ((Kd.C_below HR0.out HB.out))); (case side2 => exact HC0.out); rintro e w39 ⟨rfl, hb⟩; refine ⟨_, rfl, ?_⟩; have n0_ := Aside0.mk (below_step bel_ hb); clear HB; have HB := n0_; clear n0_; (try clear hb); (try clear hb2); (try clear hk); (try clear hi)))
                   go_roundg k3
                   case measure => have := HJ1.out; have := HK2.out; have := HK3.out; omega
                   case rel => exact ⟨(wrap64 (x4_3 + 1)), (by first | rfl | (simp; done) | (simp [*]; done)), H', ⟨by have := HJ1.out; have := HK2.out; have := HK3.out; omega⟩, ⟨bel_⟩⟩
                 ·rw [if_neg c29] at H
                  exact absurd H (by simp)
                ·rw [if_neg c28] at H
                 have c28b0 : decide (x4_3 < (((rd_T36 l0 x3_2).f3).length : Int)) = false := decide_eq_false c28
                 clear c28
                 have H' := Aside0.mk H
                 clear H
                 have p351 : 0 ≤ (x3_2 : Int) := of_decide_eq_true asm_
                 have q351 : x3_2 < (l0.length : Int) := of_decide_eq_true asm_
                 obtain ⟨ad351, A351_3, c351_3, A351_6, c351_6, e351, hx351_0, hx351_1, hx351_2, hx351_3, hx351_4, hx351_5, hx351_6, hl351_3, hi351_3, hl351_6, hi351_6⟩ := at_T36 HR0.out x3_2 p351 q351
                 obtain rfl : ad344 = ad351 := (by injection e351)
                 replace hx351_0 := (HB.out.cell (World.block_lt_of_cell? w _ hx351_0)).trans hx351_0
                 replace hx351_1 := (HB.out.cell (World.block_lt_of_cell? w _ hx351_1)).trans hx351_1
                 replace hx351_2 := (HB.out.cell (World.block_lt_of_cell? w _ hx351_2)).trans hx351_2
                 replace hx351_3 := (HB.out.cell (World.block_lt_of_cell? w _ hx351_3)).trans hx351_3
                 replace hx351_4 := (HB.out.cell (World.block_lt_of_cell? w _ hx351_4)).trans hx351_4
                 replace hx351_5 := (HB.out.cell (World.block_lt_of_cell? w _ hx351_5)).trans hx351_5
                 replace hx351_6 := (HB.out.cell (World.block_lt_of_cell? w _ hx351_6)).trans hx351_6
                 have HR351_3 := Aside0.mk hi351_3
                 have HC351_3 := Aside0.mk hl351_3
                 clear hi351_3 hl351_3
                 have HR351_6 := Aside0.mk hi351_6
                 have HC351_6 := Aside0.mk hl351_6
                 clear hi351_6 hl351_6
                 replace p351 := eq_true p351
                 replace q351 := eq_true q351
                 go_wp2
                 go_roundg k3
                 case measure => have := HJ1.out; have := HK2.out; have := HK3.out; omega
                 case rel => exact ⟨(wrap64 (x3_2 + 1)), (by first | rfl | (simp; done) | (simp [*]; done)), H', ⟨by have := HJ1.out; have := HK2.out; have := HK3.out; omega⟩, ⟨bel_⟩⟩
               ·rw [if_neg c27] at H
                exact absurd H (by simp)
              ·rw [if_neg c26] at H
               exact absurd H (by simp)
           ·replace c21 := Bool.eq_false_iff.mpr c21
            subst c21
            have H1 : (none) = some r := by rw [if_neg (show ¬ (false = true) by decide)] at H; exact H
            clear H
            have H := H1
            clear H1
            exact absurd H (by simp)
          ·rw [if_neg c19] at H
           exact absurd H (by simp)
         ·rw [if_neg c18] at H
          exact absurd H (by simp)
       ·rw [if_neg c15] at H
        exact absurd H (by simp)
      ·rw [if_neg c14] at H
       have c14b0 : decide (x3_2 < (l0.length : Int)) = false := decide_eq_false c14
       clear c14
       replace H := Option.bind_eq_some_iff.mp H
       obtain ⟨t343, A400, H⟩ := H
       replace H : (some t343) = some r := H
       have A40 := Aside0.mk A400
       clear A400
       obtain rfl := Option.some.inj H
       go_wp2_with (first | ((with_reducible refine gate_callee (f := 10) rfl ?_); refine goesL_ (some 79) rfl rfl Try.func10 (by kernel_rfl) rfl #[] rfl margs_ ?_; (with_reducible refine (limelightlaw06_live.calls  t343 _ A40.out).mono ?_); rintro e w41 ⟨rfl, hb⟩; refine ⟨_, rfl, ?_⟩; have n0_ := Aside0.mk (below_step bel_ hb); clear HB; have HB := n0_; clear n0_; (try clear hb); (try clear hb2); (try clear hk); (try clear hi)))
       go_ret
       exact ⟨by first | rfl | (simp [errW_none, errW_some] <;> rfl) | (simp [*, errW_none, errW_some] <;> rfl), bel_⟩

end Go.Proofs.Ytfdhfnjdafaogaa.P
