-- printed by wip/tools/pp.sh (a patched copy of the print's program), for this claim.
import Derived.Test.YtfdhfnjdafaogaaPx0
import Derived.Test.YtfdhfnjdafaogaaME
namespace Go.Proofs.Ytfdhfnjdafaogaa.P
open Go.RowKit Go.Proofs.YtfdhfnjdafaogaaW.PrintWords Go.Proofs.YtfdhfnjdafaogaaW.PrintLast Go.Proofs.YtfdhfnjdafaogaaW.PrintMore
attribute [local go_sem] max2_int min2_int max_two min_two max_three min_three max_four min_four   -- for this text's walks alone
set_option linter.unusedVariables false
set_option linter.unusedSimpArgs false

-- GIVEN: function 31 (limelightref01_Small): ME

/-! ### limelightref01_Few: function 9 -/
def limelightref01_Few.f (l0 : List (S36)) : Option (Bool) := (limelightref01_Small.f l0).bind fun t101 => (if t101 = true then (some (decide ((l0.length : Int) ≤ 30))) else (some false))
set_option maxHeartbeats 8000000 in
set_option maxRecDepth 100000 in
theorem limelightref01_Few.calls (A0 : Option Addr) (c0 : Nat) (l0 : List (S36)) (r : Bool) (w : World) (hr0 : Kd.C k36 w A0 l0.length l0) (hc0 : l0.length ≤ c0) (h : limelightref01_Few.f l0 = some r) :
  Calls Try.prog 9 #[.slice A0 l0.length c0] w fun e w' => e = .returned (.bool r) ∧ Below w.heap.size w w' := by
 have HR0 := Aside0.mk hr0
 have HC0 := Aside0.mk hc0
 clear hr0 hc0
 have HB := Aside0.mk (Below.refl w.heap.size w)
 have H : ((limelightref01_Small.f l0).bind fun t101 => (if t101 = true then (some (decide ((l0.length : Int) ≤ 30))) else (some false))) = some r := h
 clear h
 replace H := Option.bind_eq_some_iff.mp H
 obtain ⟨t101, A20, H⟩ := H
 replace H : (if t101 = true then (some (decide ((l0.length : Int) ≤ 30))) else (some false)) = some r := H
 have A2 := Aside0.mk A20
 clear A20
 by_cases c3 : t101 = true
 ·subst c3
  have H1 : (some (decide ((l0.length : Int) ≤ 30))) = some r := by rw [if_pos rfl] at H; exact H
  clear H
  have H := H1
  clear H1
  obtain rfl := Option.some.inj H
  go_enter Try.func9, Try.ntmps9
  go_wp2_with (first | ((with_reducible refine gate_callee (f := 31) rfl ?_); refine goesL_ (some 4) rfl rfl Try.func31 (by kernel_rfl) rfl #[.slice A0 l0.length c0] rfl margs_ ?_; (with_reducible refine (limelightref01_Small.calls _ _ l0 true _ ?side1 ?side2 A2.out).mono ?_); (case side1 => exact kcb_ (HR0.out)); (case side2 => exact HC0.out); rintro e w4 ⟨rfl, hb⟩; refine ⟨_, rfl, ?_⟩; have n0_ := Aside0.mk (below_step bel_ hb); clear HB; have HB := n0_; clear n0_; (try clear hb); (try clear hb2); (try clear hk); (try clear hi)))
  go_ret
  exact ⟨by first | rfl | (simp [errW_none, errW_some] <;> rfl) | (simp [*, errW_none, errW_some] <;> rfl), bel_⟩
 ·replace c3 := Bool.eq_false_iff.mpr c3
  subst c3
  have H1 : (some false) = some r := by rw [if_neg (show ¬ (false = true) by decide)] at H; exact H
  clear H
  have H := H1
  clear H1
  obtain rfl := Option.some.inj H
  go_enter Try.func9, Try.ntmps9
  go_wp2_with (first | ((with_reducible refine gate_callee (f := 31) rfl ?_); refine goesL_ (some 4) rfl rfl Try.func31 (by kernel_rfl) rfl #[.slice A0 l0.length c0] rfl margs_ ?_; (with_reducible refine (limelightref01_Small.calls _ _ l0 false _ ?side1 ?side2 A2.out).mono ?_); (case side1 => exact kcb_ (HR0.out)); (case side2 => exact HC0.out); rintro e w5 ⟨rfl, hb⟩; refine ⟨_, rfl, ?_⟩; have n0_ := Aside0.mk (below_step bel_ hb); clear HB; have HB := n0_; clear n0_; (try clear hb); (try clear hb2); (try clear hk); (try clear hi)))
  go_ret
  exact ⟨by first | rfl | (simp [errW_none, errW_some] <;> rfl) | (simp [*, errW_none, errW_some] <;> rfl), bel_⟩

-- GIVEN: function 10 (limelightlaw06_live): MU

-- GIVEN: function 23 (limelightref01_May): ME

-- GIVEN: function 32 (limelightref01_Is): ME

/-! ### limelightref03_Both: function 11 -/
def limelightref03_Both.f (l0 : List (S36)) (a1 : Int) (a2 : Int) : Option (Bool) := (limelightref01_May.f l0).bind fun t102 => (if t102 = true then ((limelightref01_Is.f l0 a1).bind fun t103 => (if t103 = true then ((limelightref01_Is.f l0 a2).bind fun t104 => (some t104)) else (some false))) else (some false))
set_option maxHeartbeats 8000000 in
set_option maxRecDepth 100000 in
theorem limelightref03_Both.calls (A0 : Option Addr) (c0 : Nat) (l0 : List (S36)) (a1 : Int) (a2 : Int) (r : Bool) (w : World) (hr0 : Kd.C k36 w A0 l0.length l0) (hc0 : l0.length ≤ c0) (h : limelightref03_Both.f l0 a1 a2 = some r) :
  Calls Try.prog 11 #[.slice A0 l0.length c0, .int .i64 a1, .int .i64 a2] w fun e w' => e = .returned (.bool r) ∧ Below w.heap.size w w' := by
 have HR0 := Aside0.mk hr0
 have HC0 := Aside0.mk hc0
 clear hr0 hc0
 have HB := Aside0.mk (Below.refl w.heap.size w)
 have H : ((limelightref01_May.f l0).bind fun t102 => (if t102 = true then ((limelightref01_Is.f l0 a1).bind fun t103 => (if t103 = true then ((limelightref01_Is.f l0 a2).bind fun t104 => (some t104)) else (some false))) else (some false))) = some r := h
 clear h
 replace H := Option.bind_eq_some_iff.mp H
 obtain ⟨t102, A40, H⟩ := H
 replace H : (if t102 = true then ((limelightref01_Is.f l0 a1).bind fun t103 => (if t103 = true then ((limelightref01_Is.f l0 a2).bind fun t104 => (some t104)) else (some false))) else (some false)) = some r := H
 have A4 := Aside0.mk A40
 clear A40
 by_cases c5 : t102 = true
 ·subst c5
  have H1 : ((limelightref01_Is.f l0 a1).bind fun t103 => (if t103 = true then ((limelightref01_Is.f l0 a2).bind fun t104 => (some t104)) else (some false))) = some r := by rw [if_pos rfl] at H; exact H
  clear H
  have H := H1
  clear H1
  replace H := Option.bind_eq_some_iff.mp H
  obtain ⟨t103, A60, H⟩ := H
  replace H : (if t103 = true then ((limelightref01_Is.f l0 a2).bind fun t104 => (some t104)) else (some false)) = some r := H
  have A6 := Aside0.mk A60
  clear A60
  by_cases c7 : t103 = true
  ·subst c7
   have H1 : ((limelightref01_Is.f l0 a2).bind fun t104 => (some t104)) = some r := by rw [if_pos rfl] at H; exact H
   clear H
   have H := H1
   clear H1
   replace H := Option.bind_eq_some_iff.mp H
   obtain ⟨t104, A80, H⟩ := H
   replace H : (some t104) = some r := H
   have A8 := Aside0.mk A80
   clear A80
   obtain rfl := Option.some.inj H
   go_enter Try.func11, Try.ntmps11
   go_wp2_with (first | ((with_reducible refine gate_callee (f := 23) rfl ?_); refine goesL_ (some 8) rfl rfl Try.func23 (by kernel_rfl) rfl #[.slice A0 l0.length c0] rfl margs_ ?_; (with_reducible refine (limelightref01_May.calls _ _ l0 true _ ?side1 ?side2 A4.out).mono ?_); (case side1 => exact kcb_ (HR0.out)); (case side2 => exact HC0.out); rintro e w9 ⟨rfl, hb⟩; refine ⟨_, rfl, ?_⟩; have n0_ := Aside0.mk (below_step bel_ hb); clear HB; have HB := n0_; clear n0_; (try clear hb); (try clear hb2); (try clear hk); (try clear hi)) | (go_at_call 32; (with_reducible refine (limelightref01_Is.calls _ _ l0 a1 true _ ?side1 ?side2 A6.out).mono ?_); (case side1 => exact kcb_ ((Kd.C_below HR0.out HB.out))); (case side2 => exact HC0.out); rintro e w10 ⟨rfl, hb⟩; have n0_ := Aside0.mk (below_step bel_ hb); clear HB; have HB := n0_; clear n0_; (try clear hb); (try clear hb2); (try clear hk); (try clear hi)) | (go_at_call 32; (with_reducible refine (limelightref01_Is.calls _ _ l0 a2 t104 _ ?side1 ?side2 A8.out).mono ?_); (case side1 => exact kcb_ ((Kd.C_below HR0.out HB.out))); (case side2 => exact HC0.out); rintro e w11 ⟨rfl, hb⟩; have n0_ := Aside0.mk (below_step bel_ hb); clear HB; have HB := n0_; clear n0_; (try clear hb); (try clear hb2); (try clear hk); (try clear hi)))
   go_ret
   exact ⟨by first | rfl | (simp [errW_none, errW_some] <;> rfl) | (simp [*, errW_none, errW_some] <;> rfl), bel_⟩
  ·replace c7 := Bool.eq_false_iff.mpr c7
   subst c7
   have H1 : (some false) = some r := by rw [if_neg (show ¬ (false = true) by decide)] at H; exact H
   clear H
   have H := H1
   clear H1
   obtain rfl := Option.some.inj H
   go_enter Try.func11, Try.ntmps11
   go_wp2_with (first | ((with_reducible refine gate_callee (f := 23) rfl ?_); refine goesL_ (some 8) rfl rfl Try.func23 (by kernel_rfl) rfl #[.slice A0 l0.length c0] rfl margs_ ?_; (with_reducible refine (limelightref01_May.calls _ _ l0 true _ ?side1 ?side2 A4.out).mono ?_); (case side1 => exact kcb_ (HR0.out)); (case side2 => exact HC0.out); rintro e w12 ⟨rfl, hb⟩; refine ⟨_, rfl, ?_⟩; have n0_ := Aside0.mk (below_step bel_ hb); clear HB; have HB := n0_; clear n0_; (try clear hb); (try clear hb2); (try clear hk); (try clear hi)) | (go_at_call 32; (with_reducible refine (limelightref01_Is.calls _ _ l0 a1 false _ ?side1 ?side2 A6.out).mono ?_); (case side1 => exact kcb_ ((Kd.C_below HR0.out HB.out))); (case side2 => exact HC0.out); rintro e w13 ⟨rfl, hb⟩; have n0_ := Aside0.mk (below_step bel_ hb); clear HB; have HB := n0_; clear n0_; (try clear hb); (try clear hb2); (try clear hk); (try clear hi)))
   go_ret
   exact ⟨by first | rfl | (simp [errW_none, errW_some] <;> rfl) | (simp [*, errW_none, errW_some] <;> rfl), bel_⟩
 ·replace c5 := Bool.eq_false_iff.mpr c5
  subst c5
  have H1 : (some false) = some r := by rw [if_neg (show ¬ (false = true) by decide)] at H; exact H
  clear H
  have H := H1
  clear H1
  obtain rfl := Option.some.inj H
  go_enter Try.func11, Try.ntmps11
  go_wp2_with (first | ((with_reducible refine gate_callee (f := 23) rfl ?_); refine goesL_ (some 8) rfl rfl Try.func23 (by kernel_rfl) rfl #[.slice A0 l0.length c0] rfl margs_ ?_; (with_reducible refine (limelightref01_May.calls _ _ l0 false _ ?side1 ?side2 A4.out).mono ?_); (case side1 => exact kcb_ (HR0.out)); (case side2 => exact HC0.out); rintro e w14 ⟨rfl, hb⟩; refine ⟨_, rfl, ?_⟩; have n0_ := Aside0.mk (below_step bel_ hb); clear HB; have HB := n0_; clear n0_; (try clear hb); (try clear hb2); (try clear hk); (try clear hi)))
  go_ret
  exact ⟨by first | rfl | (simp [errW_none, errW_some] <;> rfl) | (simp [*, errW_none, errW_some] <;> rfl), bel_⟩

-- GIVEN: function 12 (flat_Above): MU

-- GIVEN: function 13 (flat_Kids): MU

-- GIVEN: function 14 (flat_Parent): MU

-- GIVEN: function 15 (flat_Up): MU

-- GIVEN: function 16 (flat_Has): MU

-- GIVEN: function 17 (limelightref01_Ints): ME

/-! ### limelightref03_Place: function 27 -/
def limelightref03_Place.l0 : Nat → List Int → Int → Int → Option (Int)
 | 0, _, _, _ => none
 | k + 1, x0, x1, x5 => if x5 < (x0.length : Int) then (if 0 ≤ x5 then (if (rd x0 x5) = x1 then (some x5) else (limelightref03_Place.l0 k x0 x1 (wrap64 (x5 + 1)))) else (none)) else (some (-1))
def limelightref03_Place.f (k : Nat) (l0 : List Int) (a1 : Int) : Option (Int) := limelightref03_Place.l0 k l0 a1 0
theorem limelightref03_Place.mono_l : ∀ k, (∀ y0 y1 y2, LeO (limelightref03_Place.l0 k y0 y1 y2) (limelightref03_Place.l0 (k + 1) y0 y1 y2))
 | 0 => fun _ _ _ r h => by simp [limelightref03_Place.l0] at h
 | k + 1 => by
  have ih0 := limelightref03_Place.mono_l k
  ·intro y0 y1 y2
   unfold limelightref03_Place.l0
   repeat' first
   | (with_reducible exact ih0 _ _ _)
   | (with_reducible exact LeO.refl _)
   | (with_reducible exact LeO.none _)
   | (with_reducible refine LeO.ite ?_ ?_)
   | (with_reducible refine LeO.bind ?_ (fun _ => ?_))
   | exact ih0 _ _ _
   | exact LeO.none _
   | refine LeO.ite ?_ ?_
   | refine LeO.bind ?_ (fun _ => ?_)
theorem limelightref03_Place.mono : ∀ a0 a1 k, LeO (limelightref03_Place.f k a0 a1) (limelightref03_Place.f (k + 1) a0 a1) := by
 intro a0 a1 k
 have ih0 := limelightref03_Place.mono_l k
 unfold limelightref03_Place.f
 repeat' first
   | (with_reducible exact ih0 _ _ _)
   | (with_reducible exact LeO.refl _)
   | (with_reducible exact LeO.none _)
   | (with_reducible refine LeO.ite ?_ ?_)
   | (with_reducible refine LeO.bind ?_ (fun _ => ?_))
   | exact ih0 _ _ _
   | exact LeO.none _
   | refine LeO.ite ?_ ?_
   | refine LeO.bind ?_ (fun _ => ?_)
set_option maxHeartbeats 8000000 in
set_option maxRecDepth 100000 in
theorem limelightref03_Place.calls (k : Nat) (A0 : Option Addr) (c0 : Nat) (l0 : List Int) (a1 : Int) (r : Int) (w : World) (hr0 : Kd.C (Kd.int .i64) w A0 l0.length l0) (hc0 : l0.length ≤ c0) (h : limelightref03_Place.f k l0 a1 = some r) :
  Calls Try.prog 27 #[.slice A0 l0.length c0, .int .i64 a1] w fun e w' => e = .returned (.int .i64 r) ∧ Drawn0 w w' := by
 have HR0 := Aside0.mk hr0
 have HC0 := Aside0.mk hc0
 clear hr0 hc0
 have H : (limelightref03_Place.l0 k l0 a1 0) = some r := h
 clear h
 have H' := Aside0.mk H
 clear H
 go_enter Try.func27, Try.ntmps27
 go_wp2
 go_loopg [5] k (fun kq v5 w' => ∃ (x5_1 : Int), v5 = .int .i64 x5_1 ∧ Aside0 (limelightref03_Place.l0 kq l0 a1 x5_1 = some r) ∧ Aside0 (kq ≤ k) ∧ Drawn0 w w')
 case atStart => exact ⟨(0), (by first | rfl | (simp; done) | (simp [*]; done)), H', ⟨Nat.le_refl _⟩, by repeat (first | exact Drawn0.refl _ | apply Drawn0.step)⟩
 case round =>
  clear H'
  try clear c2
  try clear p2
  obtain ⟨x5_1, rfl, HA, HK1, ⟨m1, rfl⟩⟩ := hrel
  cases gk with
  | zero => exact absurd HA.out (by simp [limelightref03_Place.l0])
  | succ k1 =>
   have H := HA.out
   clear HA
   simp only [limelightref03_Place.l0] at H
   by_cases c3 : x5_1 < (l0.length : Int)
   ·rw [if_pos c3] at H
    have c3b0 : decide (x5_1 < (l0.length : Int)) = true := decide_eq_true c3
    clear c3
    by_cases c4 : 0 ≤ x5_1
    ·rw [if_pos c4] at H
     have c4b0 : decide (0 ≤ x5_1) = true := decide_eq_true c4
     clear c4
     by_cases c5 : (rd l0 x5_1) = a1
     ·rw [if_pos c5] at H
      have c5b0 : ((rd l0 x5_1) == a1) = true := beq_iff_eq.mpr c5
      have c5b1 : ((rd l0 x5_1) != a1) = false := bne_eq_false_iff_eq.mpr c5
      clear c5
      obtain rfl := Option.some.inj H
      have p105 : 0 ≤ (x5_1 : Int) := of_decide_eq_true asm_
      have q105 : x5_1 < (l0.length : Int) := of_decide_eq_true asm_
      obtain ⟨ad105, e105, hx105_0⟩ := Kd.at_int HR0.out x5_1 p105 q105
      cases e105
      replace p105 := eq_true p105
      replace q105 := eq_true q105
      go_wp2
      go_ret
      exact ⟨by first | rfl | (simp; done) | (simp [*]; done), by repeat (first | exact Drawn0.refl _ | apply Drawn0.step)⟩
     ·rw [if_neg c5] at H
      have c5b0 : ((rd l0 x5_1) == a1) = false := beq_eq_false_iff_ne.mpr c5
      have c5b1 : ((rd l0 x5_1) != a1) = true := bne_iff_ne.mpr c5
      have H' := Aside0.mk H
      clear H
      have p105 : 0 ≤ (x5_1 : Int) := of_decide_eq_true asm_
      have q105 : x5_1 < (l0.length : Int) := of_decide_eq_true asm_
      obtain ⟨ad105, e105, hx105_0⟩ := Kd.at_int HR0.out x5_1 p105 q105
      cases e105
      replace p105 := eq_true p105
      replace q105 := eq_true q105
      go_wp2
      go_roundg k1
      case measure => have := HK1.out; omega
      case rel => exact ⟨(wrap64 (x5_1 + 1)), (by first | rfl | (simp; done) | (simp [*]; done)), H', ⟨by have := HK1.out; omega⟩, by repeat (first | exact Drawn0.refl _ | apply Drawn0.step)⟩
    ·rw [if_neg c4] at H
     exact absurd H (by simp)
   ·rw [if_neg c3] at H
    have c3b0 : decide (x5_1 < (l0.length : Int)) = false := decide_eq_false c3
    clear c3
    obtain rfl := Option.some.inj H
    go_wp2
    go_ret
    exact ⟨by first | rfl | (simp; done) | (simp [*]; done), by repeat (first | exact Drawn0.refl _ | apply Drawn0.step)⟩

/-! ### limelightref03_In: function 26 -/
def limelightref03_In.f (k : Nat) (l0 : List Int) (a1 : Int) : Option (Bool) := (limelightref03_Place.f k l0 a1).bind fun t106 => (some (decide (t106 ≥ 0)))
theorem limelightref03_In.mono : ∀ a0 a1 k, LeO (limelightref03_In.f k a0 a1) (limelightref03_In.f (k + 1) a0 a1) := by
 intro a0 a1 k
 unfold limelightref03_In.f
 repeat' first
   | (with_reducible exact limelightref03_Place.mono _ _ _)
   | (with_reducible exact LeO.refl _)
   | (with_reducible exact LeO.none _)
   | (with_reducible refine LeO.ite ?_ ?_)
   | (with_reducible refine LeO.bind ?_ (fun _ => ?_))
   | exact limelightref03_Place.mono _ _ _
   | exact LeO.none _
   | refine LeO.ite ?_ ?_
   | refine LeO.bind ?_ (fun _ => ?_)
set_option maxHeartbeats 8000000 in
set_option maxRecDepth 100000 in
theorem limelightref03_In.calls (k : Nat) (A0 : Option Addr) (c0 : Nat) (l0 : List Int) (a1 : Int) (r : Bool) (w : World) (hr0 : Kd.C (Kd.int .i64) w A0 l0.length l0) (hc0 : l0.length ≤ c0) (h : limelightref03_In.f k l0 a1 = some r) :
  Calls Try.prog 26 #[.slice A0 l0.length c0, .int .i64 a1] w fun e w' => e = .returned (.bool r) ∧ Drawn0 w w' := by
 have HR0 := Aside0.mk hr0
 have HC0 := Aside0.mk hc0
 clear hr0 hc0
 have H : ((limelightref03_Place.f k l0 a1).bind fun t106 => (some (decide (t106 ≥ 0)))) = some r := h
 clear h
 replace H := Option.bind_eq_some_iff.mp H
 obtain ⟨t106, A30, H⟩ := H
 replace H : (some (decide (t106 ≥ 0))) = some r := H
 have A3 := Aside0.mk A30
 clear A30
 obtain rfl := Option.some.inj H
 go_enter Try.func26, Try.ntmps26
 go_wp2_with (first | ((with_reducible refine gate_callee (f := 27) rfl ?_); refine goesL_ (some 7) rfl rfl Try.func27 (by kernel_rfl) rfl #[.slice A0 l0.length c0, .int .i64 a1] rfl margs_ ?_; (with_reducible refine (limelightref03_Place.calls k _ _ l0 a1 t106 _ ?side1 ?side2 A3.out).mono ?_); (case side1 => exact kcb_ (HR0.out)); (case side2 => exact HC0.out); rintro e w' ⟨rfl, ⟨nd, rfl⟩⟩; refine ⟨_, rfl, ?_⟩))
 go_ret
 exact ⟨by first | rfl | (simp; done) | (simp [*]; done), by repeat (first | exact Drawn0.refl _ | apply Drawn0.step)⟩

/-! ### limelightref03_List: function 29 -/
mutual
def limelightref03_List.l0 : Nat → List (S36) → Int → List Int → Int → Option (List Int)
 | 0, _, _, _, _ => none
 | k + 1, x0, x1, x5, x6 => if 0 ≤ x1 then (if x1 < (x0.length : Int) then (if x6 < (((rd_T36 x0 x1).f3).length : Int) then (if 0 ≤ x6 then ((limelightref03_List.f k x0 (rd ((rd_T36 x0 x1).f3) x6)).bind fun t113 => (if x5.length + t113.length < 17592186044416 then (limelightref03_List.l0 k x0 x1 (x5 ++ t113) (wrap64 (x6 + 1))) else (none))) else (none)) else (some x5)) else (none)) else (none)
def limelightref03_List.f : Nat → List (S36) → Int → Option (List Int)
 | 0, _, _ => none
 | k + 1, l0, a1 => limelightref03_List.l0 k l0 a1 (([a1] : List Int)) 0
end
theorem limelightref03_List.mono_l : ∀ k, (∀ y0 y1, LeO (limelightref03_List.f k y0 y1) (limelightref03_List.f (k + 1) y0 y1)) ∧ (∀ y0 y1 y2 y3, LeO (limelightref03_List.l0 k y0 y1 y2 y3) (limelightref03_List.l0 (k + 1) y0 y1 y2 y3))
 | 0 => ⟨fun _ _ r h => by simp [limelightref03_List.f] at h, fun _ _ _ _ r h => by simp [limelightref03_List.l0] at h⟩
 | k + 1 => by
  obtain ⟨ih0, ih1⟩ := limelightref03_List.mono_l k
  refine ⟨?_, ?_⟩
  ·intro y0 y1
   unfold limelightref03_List.f
   repeat' first
   | (with_reducible exact ih0 _ _)
   | (with_reducible exact ih1 _ _ _ _)
   | (with_reducible exact LeO.refl _)
   | (with_reducible exact LeO.none _)
   | (with_reducible refine LeO.ite ?_ ?_)
   | (with_reducible refine LeO.bind ?_ (fun _ => ?_))
   | exact ih0 _ _
   | exact ih1 _ _ _ _
   | exact LeO.none _
   | refine LeO.ite ?_ ?_
   | refine LeO.bind ?_ (fun _ => ?_)
  ·intro y0 y1 y2 y3
   unfold limelightref03_List.l0
   repeat' first
   | (with_reducible exact ih0 _ _)
   | (with_reducible exact ih1 _ _ _ _)
   | (with_reducible exact LeO.refl _)
   | (with_reducible exact LeO.none _)
   | (with_reducible refine LeO.ite ?_ ?_)
   | (with_reducible refine LeO.bind ?_ (fun _ => ?_))
   | exact ih0 _ _
   | exact ih1 _ _ _ _
   | exact LeO.none _
   | refine LeO.ite ?_ ?_
   | refine LeO.bind ?_ (fun _ => ?_)
theorem limelightref03_List.mono : ∀ a0 a1 k, LeO (limelightref03_List.f k a0 a1) (limelightref03_List.f (k + 1) a0 a1) := by
 intro a0 a1 k
 obtain ⟨ih0, ih1⟩ := limelightref03_List.mono_l k
 exact ih0 a0 a1
set_option maxHeartbeats 8000000 in
set_option maxRecDepth 100000 in
theorem limelightref03_List.calls (k : Nat) : ∀ (A0 : Option Addr) (c0 : Nat) (l0 : List (S36)) (a1 : Int) (r : List Int) (w : World) (hr0 : Kd.C k36 w A0 l0.length l0) (hc0 : l0.length ≤ c0) (h : limelightref03_List.f k l0 a1 = some r),
  Calls Try.prog 29 #[.slice A0 l0.length c0, .int .i64 a1] w fun e w' => ∃ v0_ : Value, e = .returned (v0_) ∧ Kd.R (Kd.int .i64) 3 w' w.heap.size (fun _ => True) v0_ r ∧ Below w.heap.size w w' := by
 induction k using Nat.strongRecOn with
 | _ k ih =>
 intro A0 c0 l0 a1 r w hr0 hc0 h
 cases k with
 | zero => exact absurd h (by simp [limelightref03_List.f])
 | succ k =>
 simp only [limelightref03_List.f] at h
 have HR0 := Aside0.mk hr0
 have HC0 := Aside0.mk hc0
 clear hr0 hc0
 have HB := Aside0.mk (Below.refl w.heap.size w)
 have H : (limelightref03_List.l0 k l0 a1 (([a1] : List Int)) 0) = some r := h
 clear h
 obtain ⟨y107, hy107⟩ : ∃ y_ : List Int, y_ = (([a1] : List Int)) := ⟨_, rfl⟩
 replace H : (limelightref03_List.l0 k l0 a1 y107 0) = some r := by first | (rw [hy107]; with_reducible exact H) | (have H2_ := (Option.bind_some _ _).symm.trans H; rw [hy107]; with_reducible exact H2_) | (have H2_ := (Option.bind_some _ _).symm.trans H; with_reducible exact H2_) | with_reducible exact H | (rw [hy107]; exact H) | exact H
 have Ny107 := Aside0.mk hy107
 clear hy107
 have H' := Aside0.mk H
 clear H
 go_enter Try.func29, Try.ntmps29
 go_wp2_with (first | ((with_reducible refine gate_dst (N := 8) rfl ?_); refine Kd.R_lit (Kd.int .i64) _ 3 ?hg (N := 8) ?hd (xs := ([a1] : List Int)) (inner := [.int .i64 a1]) (ok := fun _ => True) (okp := fun _ => True) ?hr ?hp (fun _ hk => hk) trivial (Below.refl _ _) (Nat.le_refl _) (by simp) ?_; (case hd => rfl); (case hg => rfl); (case hr => first | (go_simp; done) | (go_simp; rfl)); (case hp => exact (Reps.one (show Kd.M (Kd.int .i64) _ _ _ a1 [.int .i64 a1] from rfl) (Reps.none _ _))); intro v108 w3 ho4 hb hg_ hnew_; clear hg_ hnew_; (first | rw [← Ny107.out] at ho4 | (simp only [Int.reduceToNat] at ho4; rw [← Ny107.out] at ho4)); have n0_ := Aside0.mk (Kd.R_lower ho4 (below_size bel_)); have n1_ := Aside0.mk (below_step bel_ hb); clear HB; have HO109 := n0_; have HB := n1_; clear n0_ n1_; clear hb ho4))
 go_loopg [5, 6] k (fun kq v5 v6 w' => ∃ (x5_1 : List Int) (x6_1 : Int), v6 = .int .i64 x6_1 ∧ Aside0 (limelightref03_List.l0 kq l0 a1 x5_1 x6_1 = some r) ∧ Aside0 (kq ≤ k) ∧ Aside0 (Kd.R (Kd.int .i64) 3 w' w.heap.size (fun _ => True) v5 x5_1) ∧ Aside0 (Below w.heap.size w w'))
 case atStart => exact ⟨(y107), (0), (by first | rfl | (simp; done) | (simp [*]; done)), H', ⟨Nat.le_refl _⟩, ⟨kra_ HO109.out⟩, ⟨bel_⟩⟩
 case round =>
  clear H'
  try clear c2
  try clear p2
  obtain ⟨x5_1, x6_1, rfl, HA, HK1, HO_5, HB⟩ := hrel
  cases gk with
  | zero => exact absurd HA.out (by simp [limelightref03_List.l0])
  | succ k1 =>
   have H := HA.out
   clear HA
   simp only [limelightref03_List.l0] at H
   by_cases c5 : 0 ≤ a1
   ·rw [if_pos c5] at H
    have c5b0 : decide (0 ≤ a1) = true := decide_eq_true c5
    clear c5
    by_cases c6 : a1 < (l0.length : Int)
    ·rw [if_pos c6] at H
     have c6b0 : decide (a1 < (l0.length : Int)) = true := decide_eq_true c6
     clear c6
     by_cases c7 : x6_1 < (((rd_T36 l0 a1).f3).length : Int)
     ·rw [if_pos c7] at H
      have c7b0 : decide (x6_1 < (((rd_T36 l0 a1).f3).length : Int)) = true := decide_eq_true c7
      clear c7
      by_cases c8 : 0 ≤ x6_1
      ·rw [if_pos c8] at H
       have c8b0 : decide (0 ≤ x6_1) = true := decide_eq_true c8
       clear c8
       replace H := Option.bind_eq_some_iff.mp H
       obtain ⟨t113, A90, H⟩ := H
       replace H : (if x5_1.length + t113.length < 17592186044416 then (limelightref03_List.l0 k1 l0 a1 (x5_1 ++ t113) (wrap64 (x6_1 + 1))) else (none)) = some r := H
       have A9 := Aside0.mk A90
       clear A90
       by_cases c10 : x5_1.length + t113.length < 17592186044416
       ·rw [if_pos c10] at H
        have LMc10 := Aside0.mk c10
        clear c10
        obtain ⟨y116, hy116⟩ : ∃ y_ : List Int, y_ = (x5_1 ++ t113) := ⟨_, rfl⟩
        replace H : (limelightref03_List.l0 k1 l0 a1 y116 (wrap64 (x6_1 + 1))) = some r := by first | (rw [hy116]; with_reducible exact H) | (have H2_ := (Option.bind_some _ _).symm.trans H; rw [hy116]; with_reducible exact H2_) | (have H2_ := (Option.bind_some _ _).symm.trans H; with_reducible exact H2_) | with_reducible exact H | (rw [hy116]; exact H) | exact H
        have Ny116 := Aside0.mk hy116
        clear hy116
        have H' := Aside0.mk H
        clear H
        have p110 : 0 ≤ (a1 : Int) := of_decide_eq_true asm_
        have q110 : a1 < (l0.length : Int) := of_decide_eq_true asm_
        obtain ⟨ad110, A110_3, c110_3, A110_6, c110_6, e110, hx110_0, hx110_1, hx110_2, hx110_3, hx110_4, hx110_5, hx110_6, hl110_3, hi110_3, hl110_6, hi110_6⟩ := at_T36 HR0.out a1 p110 q110
        cases e110
        replace hx110_0 := (HB.out.cell (World.block_lt_of_cell? w _ hx110_0)).trans hx110_0
        replace hx110_1 := (HB.out.cell (World.block_lt_of_cell? w _ hx110_1)).trans hx110_1
        replace hx110_2 := (HB.out.cell (World.block_lt_of_cell? w _ hx110_2)).trans hx110_2
        replace hx110_3 := (HB.out.cell (World.block_lt_of_cell? w _ hx110_3)).trans hx110_3
        replace hx110_4 := (HB.out.cell (World.block_lt_of_cell? w _ hx110_4)).trans hx110_4
        replace hx110_5 := (HB.out.cell (World.block_lt_of_cell? w _ hx110_5)).trans hx110_5
        replace hx110_6 := (HB.out.cell (World.block_lt_of_cell? w _ hx110_6)).trans hx110_6
        have HR110_3 := Aside0.mk hi110_3
        have HC110_3 := Aside0.mk hl110_3
        clear hi110_3 hl110_3
        have HR110_6 := Aside0.mk hi110_6
        have HC110_6 := Aside0.mk hl110_6
        clear hi110_6 hl110_6
        replace p110 := eq_true p110
        replace q110 := eq_true q110
        have p111 : 0 ≤ (a1 : Int) := of_decide_eq_true asm_
        have q111 : a1 < (l0.length : Int) := of_decide_eq_true asm_
        obtain ⟨ad111, A111_3, c111_3, A111_6, c111_6, e111, hx111_0, hx111_1, hx111_2, hx111_3, hx111_4, hx111_5, hx111_6, hl111_3, hi111_3, hl111_6, hi111_6⟩ := at_T36 HR0.out a1 p111 q111
        obtain rfl : ad110 = ad111 := (by injection e111)
        replace hx111_0 := (HB.out.cell (World.block_lt_of_cell? w _ hx111_0)).trans hx111_0
        replace hx111_1 := (HB.out.cell (World.block_lt_of_cell? w _ hx111_1)).trans hx111_1
        replace hx111_2 := (HB.out.cell (World.block_lt_of_cell? w _ hx111_2)).trans hx111_2
        replace hx111_3 := (HB.out.cell (World.block_lt_of_cell? w _ hx111_3)).trans hx111_3
        replace hx111_4 := (HB.out.cell (World.block_lt_of_cell? w _ hx111_4)).trans hx111_4
        replace hx111_5 := (HB.out.cell (World.block_lt_of_cell? w _ hx111_5)).trans hx111_5
        replace hx111_6 := (HB.out.cell (World.block_lt_of_cell? w _ hx111_6)).trans hx111_6
        have HR111_3 := Aside0.mk hi111_3
        have HC111_3 := Aside0.mk hl111_3
        clear hi111_3 hl111_3
        have HR111_6 := Aside0.mk hi111_6
        have HC111_6 := Aside0.mk hl111_6
        clear hi111_6 hl111_6
        replace p111 := eq_true p111
        replace q111 := eq_true q111
        have ea_ := Option.some.inj (hx110_3.symm.trans hx111_3)
        injection ea_ with ea_ en_ ec_
        subst ea_
        subst ec_
        clear en_
        have ea_ := Option.some.inj (hx110_6.symm.trans hx111_6)
        injection ea_ with ea_ en_ ec_
        subst ea_
        subst ec_
        clear en_
        have p112 : 0 ≤ (x6_1 : Int) := of_decide_eq_true asm_
        have q112 : x6_1 < (((rd_T36 l0 a1).f3).length : Int) := of_decide_eq_true asm_
        obtain ⟨ad112, e112, hx112_0⟩ := Kd.at_int HR111_3.out x6_1 p112 q112
        cases e112
        replace hx112_0 := (HB.out.cell (World.block_lt_of_cell? w _ hx112_0)).trans hx112_0
        replace p112 := eq_true p112
        replace q112 := eq_true q112
        go_wp2_with (first | ((with_reducible refine gate_callee (f := 29) rfl ?_); refine goesL_ (some 29) rfl rfl Try.func29 (by kernel_rfl) rfl #[.slice (some ad110) l0.length c0, .int .i64 (rd ((rd_T36 l0 a1).f3) x6_1)] rfl margs_ ?_; (with_reducible refine (ih k1 (by have := HK1.out; omega) _ _ l0 (rd ((rd_T36 l0 a1).f3) x6_1) t113 _ ?side1 ?side2 A9.out).mono ?_); (case side1 => exact kcb_ ((Kd.C_below HR0.out HB.out))); (case side2 => exact HC0.out); rintro e w11 ⟨v114, rfl, ho0, hb⟩; refine ⟨_, rfl, ?_⟩; have n0_ := Aside0.mk (Kd.R_elder' (kra_ HO_5.out) (Kd.R_base ho0) hb); have n1_ := Aside0.mk (Kd.R_lower (Kd.R_new' ho0 (Kd.R_lt (kra_ HO_5.out))) (below_size bel_)); have n2_ := Aside0.mk (below_step bel_ hb); clear HO_5; clear HB; have HO_5 := n0_; have HO115 := n1_; have HB := n2_; clear n0_ n1_ n2_; (try clear hb); (try clear hb2); (try clear hk); (try clear hi); (try clear ho0); obtain ⟨Ao13, co13, eo13⟩ := Kd.R_slice HO115.out; subst eo13) | ((with_reducible refine gate_builtin (b := .append) (xs := #[.tmp 19, .tmp 29]) rfl ?_); at_builtin; refine Kd.R_append_rows (Kd.int .i64) (w0 := w) w.heap.size rfl (.tmp 19) (.tmp 29) 27 3 (.int .i64 0) 8 rfl Try.underlying27 info3 rfl (by decide) (by omega) u5 x5_1 t113 _ _ _ (fun k_ => some k_ ≠ (.slice Ao13 t113.length co13 : Value).ownBlock) (fun _ => False) rfl rfl ?aO ?aR (fun _ _ h => h) (fun _ h => h.elim) ?aF ?aB ?aS ?aL ?_; (case aR => repeat (first | exact (Kd.R_reads' HO115.out).2.2 | (with_reducible refine Kd.C_alloc ?_ _) | (with_reducible refine Kd.C_drewN ?_ _) | (with_reducible refine Kd.C_drew ?_))); (case aB => exact bel_); (case aF => exact (fun k_ hk => Kd.fresh' (Kd.R_lt (kra_ HO115.out)) k_ hk)); (case aO => exact (by (with_reducible repeat (first | apply Kd.R_alloc | apply Kd.R_drewN | apply Kd.R_drew)); exact Kd.R_mono HO_5.out (fun _ hk => hk.2))); (case aS => exact (below_size bel_)); (case aL => have := LMc10.out; omega); intro v117 w12 ho hb hg hat; rw [← Ny116.out] at ho; have n0_ := Aside0.mk (Kd.R_after (ok := (fun _ => True)) (kra_ HO115.out) hg hat); have n1_ := Aside0.mk (hb); have n2_ := Aside0.mk (ho); clear HO115; clear HB; clear HO_5; have HO115 := n0_; have HB := n1_; have HO118 := n2_; clear n0_ n1_ n2_; clear ho hb hg hat))
        go_roundg k1
        case measure => have := HK1.out; omega
        case rel => exact ⟨(y116), (wrap64 (x6_1 + 1)), (by first | rfl | (simp; done) | (simp [*]; done)), H', ⟨by have := HK1.out; omega⟩, ⟨by (with_reducible repeat (first | apply Kd.R_alloc | apply Kd.R_drewN | apply Kd.R_drew)); exact Kd.R_mono HO118.out (fun _ hk => trivial)⟩, ⟨bel_⟩⟩
       ·rw [if_neg c10] at H
        exact absurd H (by simp)
      ·rw [if_neg c8] at H
       exact absurd H (by simp)
     ·rw [if_neg c7] at H
      have c7b0 : decide (x6_1 < (((rd_T36 l0 a1).f3).length : Int)) = false := decide_eq_false c7
      clear c7
      obtain rfl := Option.some.inj H
      have p110 : 0 ≤ (a1 : Int) := of_decide_eq_true asm_
      have q110 : a1 < (l0.length : Int) := of_decide_eq_true asm_
      obtain ⟨ad110, A110_3, c110_3, A110_6, c110_6, e110, hx110_0, hx110_1, hx110_2, hx110_3, hx110_4, hx110_5, hx110_6, hl110_3, hi110_3, hl110_6, hi110_6⟩ := at_T36 HR0.out a1 p110 q110
      cases e110
      replace hx110_0 := (HB.out.cell (World.block_lt_of_cell? w _ hx110_0)).trans hx110_0
      replace hx110_1 := (HB.out.cell (World.block_lt_of_cell? w _ hx110_1)).trans hx110_1
      replace hx110_2 := (HB.out.cell (World.block_lt_of_cell? w _ hx110_2)).trans hx110_2
      replace hx110_3 := (HB.out.cell (World.block_lt_of_cell? w _ hx110_3)).trans hx110_3
      replace hx110_4 := (HB.out.cell (World.block_lt_of_cell? w _ hx110_4)).trans hx110_4
      replace hx110_5 := (HB.out.cell (World.block_lt_of_cell? w _ hx110_5)).trans hx110_5
      replace hx110_6 := (HB.out.cell (World.block_lt_of_cell? w _ hx110_6)).trans hx110_6
      have HR110_3 := Aside0.mk hi110_3
      have HC110_3 := Aside0.mk hl110_3
      clear hi110_3 hl110_3
      have HR110_6 := Aside0.mk hi110_6
      have HC110_6 := Aside0.mk hl110_6
      clear hi110_6 hl110_6
      replace p110 := eq_true p110
      replace q110 := eq_true q110
      go_wp2
      go_ret
      exact ⟨_, by first | rfl | (simp [errW_none, errW_some] <;> rfl) | (simp [*, errW_none, errW_some] <;> rfl), kra_ HO_5.out, bel_⟩
    ·rw [if_neg c6] at H
     exact absurd H (by simp)
   ·rw [if_neg c5] at H
    exact absurd H (by simp)

/-! ### limelightref03_Up: function 28 -/
def limelightref03_Up.l0 : Nat → List (S36) → Int → List Int → Option (List Int)
 | 0, _, _, _ => none
 | k + 1, x0, x1, x5 => if x1 = (-1) then (some x5) else (if x5.length < 17592186044416 then (if 0 ≤ x1 then (if x1 < (x0.length : Int) then (limelightref03_Up.l0 k x0 ((rd_T36 x0 x1).f2) (x5 ++ [x1])) else (none)) else (none)) else (none))
def limelightref03_Up.f (k : Nat) (l0 : List (S36)) (a1 : Int) : Option (List Int) := limelightref03_Up.l0 k l0 a1 ([] : List Int)
theorem limelightref03_Up.mono_l : ∀ k, (∀ y0 y1 y2, LeO (limelightref03_Up.l0 k y0 y1 y2) (limelightref03_Up.l0 (k + 1) y0 y1 y2))
 | 0 => fun _ _ _ r h => by simp [limelightref03_Up.l0] at h
 | k + 1 => by
  have ih0 := limelightref03_Up.mono_l k
  ·intro y0 y1 y2
   unfold limelightref03_Up.l0
   repeat' first
   | (with_reducible exact ih0 _ _ _)
   | (with_reducible exact LeO.refl _)
   | (with_reducible exact LeO.none _)
   | (with_reducible refine LeO.ite ?_ ?_)
   | (with_reducible refine LeO.bind ?_ (fun _ => ?_))
   | exact ih0 _ _ _
   | exact LeO.none _
   | refine LeO.ite ?_ ?_
   | refine LeO.bind ?_ (fun _ => ?_)
theorem limelightref03_Up.mono : ∀ a0 a1 k, LeO (limelightref03_Up.f k a0 a1) (limelightref03_Up.f (k + 1) a0 a1) := by
 intro a0 a1 k
 have ih0 := limelightref03_Up.mono_l k
 unfold limelightref03_Up.f
 repeat' first
   | (with_reducible exact ih0 _ _ _)
   | (with_reducible exact LeO.refl _)
   | (with_reducible exact LeO.none _)
   | (with_reducible refine LeO.ite ?_ ?_)
   | (with_reducible refine LeO.bind ?_ (fun _ => ?_))
   | exact ih0 _ _ _
   | exact LeO.none _
   | refine LeO.ite ?_ ?_
   | refine LeO.bind ?_ (fun _ => ?_)
set_option maxHeartbeats 8000000 in
set_option maxRecDepth 100000 in
theorem limelightref03_Up.calls (k : Nat) (A0 : Option Addr) (c0 : Nat) (l0 : List (S36)) (a1 : Int) (r : List Int) (w : World) (hr0 : Kd.C k36 w A0 l0.length l0) (hc0 : l0.length ≤ c0) (h : limelightref03_Up.f k l0 a1 = some r) :
  Calls Try.prog 28 #[.slice A0 l0.length c0, .int .i64 a1] w fun e w' => ∃ v0_ : Value, e = .returned (v0_) ∧ Kd.R (Kd.int .i64) 3 w' w.heap.size (fun _ => True) v0_ r ∧ Below w.heap.size w w' := by
 have HR0 := Aside0.mk hr0
 have HC0 := Aside0.mk hc0
 clear hr0 hc0
 have HB := Aside0.mk (Below.refl w.heap.size w)
 have H : (limelightref03_Up.l0 k l0 a1 ([] : List Int)) = some r := h
 clear h
 have H' := Aside0.mk H
 clear H
 go_enter Try.func28, Try.ntmps28
 go_wp2
 go_loopg [1, 5] k (fun kq v1 v5 w' => ∃ (x1_1 : Int) (x5_1 : List Int), v1 = .int .i64 x1_1 ∧ Aside0 (limelightref03_Up.l0 kq l0 x1_1 x5_1 = some r) ∧ Aside0 (kq ≤ k) ∧ Aside0 (Kd.R (Kd.int .i64) 3 w' w.heap.size (fun _ => True) v5 x5_1) ∧ Aside0 (Below w.heap.size w w'))
 case atStart => exact ⟨(a1), (([] : List Int)), (by first | rfl | (simp; done) | (simp [*]; done)), H', ⟨Nat.le_refl _⟩, ⟨by first | exact Kd.R_nil _ _ _ _ _ | exact Kd.N_nil _ _ _ _ _ | exact Kd.V_nil _ _ _ _ _ | exact Kd.Q_nil _ _ _ _ _ | exact Kd.S_nil _ _ _ _ _⟩, ⟨bel_⟩⟩
 case round =>
  clear H'
  try clear c2
  try clear p2
  obtain ⟨x1_1, x5_1, rfl, HA, HK1, HO_5, HB⟩ := hrel
  cases gk with
  | zero => exact absurd HA.out (by simp [limelightref03_Up.l0])
  | succ k1 =>
   have H := HA.out
   clear HA
   simp only [limelightref03_Up.l0] at H
   by_cases c3 : x1_1 = (-1)
   ·rw [if_pos c3] at H
    have c3b0 : (x1_1 == (-1)) = true := beq_iff_eq.mpr c3
    have c3b1 : (x1_1 != (-1)) = false := bne_eq_false_iff_eq.mpr c3
    clear c3
    obtain rfl := Option.some.inj H
    go_wp2
    go_ret
    exact ⟨_, by first | rfl | (simp [errW_none, errW_some] <;> rfl) | (simp [*, errW_none, errW_some] <;> rfl), kra_ HO_5.out, bel_⟩
   ·rw [if_neg c3] at H
    have c3b0 : (x1_1 == (-1)) = false := beq_eq_false_iff_ne.mpr c3
    have c3b1 : (x1_1 != (-1)) = true := bne_iff_ne.mpr c3
    by_cases c4 : x5_1.length < 17592186044416
    ·rw [if_pos c4] at H
     have LMc4 := Aside0.mk c4
     clear c4
     obtain ⟨y119, hy119⟩ : ∃ y_ : List Int, y_ = (x5_1 ++ [x1_1]) := ⟨_, rfl⟩
     replace H : (if 0 ≤ x1_1 then (if x1_1 < (l0.length : Int) then (limelightref03_Up.l0 k1 l0 ((rd_T36 l0 x1_1).f2) y119) else (none)) else (none)) = some r := by first | (rw [hy119]; with_reducible exact H) | (have H2_ := (Option.bind_some _ _).symm.trans H; rw [hy119]; with_reducible exact H2_) | (have H2_ := (Option.bind_some _ _).symm.trans H; with_reducible exact H2_) | with_reducible exact H | (rw [hy119]; exact H) | exact H
     have Ny119 := Aside0.mk hy119
     clear hy119
     by_cases c5 : 0 ≤ x1_1
     ·rw [if_pos c5] at H
      have c5b0 : decide (0 ≤ x1_1) = true := decide_eq_true c5
      clear c5
      by_cases c6 : x1_1 < (l0.length : Int)
      ·rw [if_pos c6] at H
       have c6b0 : decide (x1_1 < (l0.length : Int)) = true := decide_eq_true c6
       clear c6
       have H' := Aside0.mk H
       clear H
       go_wp2_with (first | ((with_reducible refine gate_builtin (b := .append) (xs := #[.tmp 8, .tmp 10]) rfl ?_); at_builtin; refine Kd.R_append (Kd.int .i64) (w0 := w) w.heap.size rfl (.tmp 8) (.tmp 10) 27 3 (.int .i64 0) 8 rfl Try.underlying27 info3 rfl (by decide) (by omega) u5 x5_1 x1_1 [.int .i64 x1_1] (fun _ => True) (fun _ => False) rfl rfl ?aP (fun _ hk => hk.elim) ?aF ?aO ?aB ?aS ?aL ?_; (case aP => exact rfl); (case aB => exact bel_); (case aF => exact (fun _ _ => trivial)); (case aO => exact (kra_ HO_5.out)); (case aS => exact (below_size bel_)); (case aL => have := LMc4.out; omega); intro v120 w7 ho hb hg hat; rw [← Ny119.out] at ho; have n0_ := Aside0.mk (hb); have n1_ := Aside0.mk (ho); clear HB; clear HO_5; have HB := n0_; have HO121 := n1_; clear n0_ n1_; clear ho hb hg hat; have p122 : 0 ≤ (x1_1 : Int) := of_decide_eq_true asm_; have q122 : x1_1 < (l0.length : Int) := of_decide_eq_true asm_; obtain ⟨ad122, A122_3, c122_3, A122_6, c122_6, e122, hx122_0, hx122_1, hx122_2, hx122_3, hx122_4, hx122_5, hx122_6, hl122_3, hi122_3, hl122_6, hi122_6⟩ := at_T36 HR0.out x1_1 p122 q122; cases e122; replace hx122_0 := (HB.out.cell (World.block_lt_of_cell? w _ hx122_0)).trans hx122_0; replace hx122_1 := (HB.out.cell (World.block_lt_of_cell? w _ hx122_1)).trans hx122_1; replace hx122_2 := (HB.out.cell (World.block_lt_of_cell? w _ hx122_2)).trans hx122_2; replace hx122_3 := (HB.out.cell (World.block_lt_of_cell? w _ hx122_3)).trans hx122_3; replace hx122_4 := (HB.out.cell (World.block_lt_of_cell? w _ hx122_4)).trans hx122_4; replace hx122_5 := (HB.out.cell (World.block_lt_of_cell? w _ hx122_5)).trans hx122_5; replace hx122_6 := (HB.out.cell (World.block_lt_of_cell? w _ hx122_6)).trans hx122_6; have HR122_3 := Aside0.mk hi122_3; have HC122_3 := Aside0.mk hl122_3; clear hi122_3 hl122_3; have HR122_6 := Aside0.mk hi122_6; have HC122_6 := Aside0.mk hl122_6; clear hi122_6 hl122_6; replace p122 := eq_true p122; replace q122 := eq_true q122))
       go_roundg k1
       case measure => have := HK1.out; omega
       case rel => exact ⟨((rd_T36 l0 x1_1).f2), (y119), (by first | rfl | (simp; done) | (simp [*]; done)), H', ⟨by have := HK1.out; omega⟩, ⟨kra_ HO121.out⟩, ⟨bel_⟩⟩
      ·rw [if_neg c6] at H
       exact absurd H (by simp)
     ·rw [if_neg c5] at H
      exact absurd H (by simp)
    ·rw [if_neg c4] at H
     exact absurd H (by simp)

/-! ### limelightref03_Top: function 60 -/
def limelightref03_Top.f (k : Nat) (l0 : List (S36)) (a1 : Int) : Option (Int) := (limelightref03_Up.f k l0 a1).bind fun t123 => (if 0 ≤ (wrap64 ((t123.length : Int) - 1)) then (if (wrap64 ((t123.length : Int) - 1)) < (t123.length : Int) then (some (rd t123 (wrap64 ((t123.length : Int) - 1)))) else (none)) else (none))
theorem limelightref03_Top.mono : ∀ a0 a1 k, LeO (limelightref03_Top.f k a0 a1) (limelightref03_Top.f (k + 1) a0 a1) := by
 intro a0 a1 k
 unfold limelightref03_Top.f
 repeat' first
   | (with_reducible exact limelightref03_Up.mono _ _ _)
   | (with_reducible exact LeO.refl _)
   | (with_reducible exact LeO.none _)
   | (with_reducible refine LeO.ite ?_ ?_)
   | (with_reducible refine LeO.bind ?_ (fun _ => ?_))
   | exact limelightref03_Up.mono _ _ _
   | exact LeO.none _
   | refine LeO.ite ?_ ?_
   | refine LeO.bind ?_ (fun _ => ?_)
set_option maxHeartbeats 8000000 in
set_option maxRecDepth 100000 in
theorem limelightref03_Top.calls (k : Nat) (A0 : Option Addr) (c0 : Nat) (l0 : List (S36)) (a1 : Int) (r : Int) (w : World) (hr0 : Kd.C k36 w A0 l0.length l0) (hc0 : l0.length ≤ c0) (h : limelightref03_Top.f k l0 a1 = some r) :
  Calls Try.prog 60 #[.slice A0 l0.length c0, .int .i64 a1] w fun e w' => e = .returned (.int .i64 r) ∧ Below w.heap.size w w' := by
 have HR0 := Aside0.mk hr0
 have HC0 := Aside0.mk hc0
 clear hr0 hc0
 have HB := Aside0.mk (Below.refl w.heap.size w)
 have H : ((limelightref03_Up.f k l0 a1).bind fun t123 => (if 0 ≤ (wrap64 ((t123.length : Int) - 1)) then (if (wrap64 ((t123.length : Int) - 1)) < (t123.length : Int) then (some (rd t123 (wrap64 ((t123.length : Int) - 1)))) else (none)) else (none))) = some r := h
 clear h
 replace H := Option.bind_eq_some_iff.mp H
 obtain ⟨t123, A30, H⟩ := H
 replace H : (if 0 ≤ (wrap64 ((t123.length : Int) - 1)) then (if (wrap64 ((t123.length : Int) - 1)) < (t123.length : Int) then (some (rd t123 (wrap64 ((t123.length : Int) - 1)))) else (none)) else (none)) = some r := H
 have A3 := Aside0.mk A30
 clear A30
 obtain ⟨ji4, hji4⟩ : ∃ j_ : Int, (wrap64 ((t123.length : Int) - 1)) = j_ := ⟨_, rfl⟩
 replace H : (if 0 ≤ (ji4) then (if (ji4) < (t123.length : Int) then (some (rd t123 (ji4))) else (none)) else (none)) = some r := by first | (rw [hji4] at H; exact H) | (simp only [hji4] at H ⊢; exact H)
 (try rw [hji4] at A3)
 have hji4w : (IntKind.i64.wrap ((t123.length : Int) - 1)) = ji4 := (i64_w _).trans hji4
 by_cases c5 : 0 ≤ (ji4)
 ·rw [if_pos c5] at H
  have c5b0 : decide (0 ≤ (ji4)) = true := decide_eq_true c5
  clear c5
  by_cases c6 : (ji4) < (t123.length : Int)
  ·rw [if_pos c6] at H
   have c6b0 : decide ((ji4) < (t123.length : Int)) = true := decide_eq_true c6
   clear c6
   obtain rfl := Option.some.inj H
   go_enter Try.func60, Try.ntmps60
   go_wp2_with (first | ((with_reducible refine gate_callee (f := 28) rfl ?_); refine goesL_ (some 8) rfl rfl Try.func28 (by kernel_rfl) rfl #[.slice A0 l0.length c0, .int .i64 a1] rfl margs_ ?_; (with_reducible refine (limelightref03_Up.calls k _ _ l0 a1 t123 _ ?side1 ?side2 A3.out).mono ?_); (case side1 => exact kcb_ (HR0.out)); (case side2 => exact HC0.out); rintro e w7 ⟨v124, rfl, ho0, hb⟩; refine ⟨_, rfl, ?_⟩; have n0_ := Aside0.mk (Kd.R_lower ho0 (below_size bel_)); have n1_ := Aside0.mk (below_step bel_ hb); clear HB; have HO125 := n0_; have HB := n1_; clear n0_ n1_; (try clear hb); (try clear hb2); (try clear hk); (try clear hi); (try clear ho0); obtain ⟨Ao8, co8, eo8⟩ := Kd.R_slice HO125.out; subst eo8; have p126 : 0 ≤ ((ji4) : Int) := of_decide_eq_true asm_; have q126 : (ji4) < (t123.length : Int) := of_decide_eq_true asm_; obtain ⟨ad126, e126, hx126_0⟩ := Kd.at_int (Kd.R_reads' HO125.out).2.2 (ji4) p126 q126; cases e126; replace p126 := eq_true p126; replace q126 := eq_true q126))
   go_ret
   exact ⟨by first | rfl | (simp [errW_none, errW_some] <;> rfl) | (simp only [← hji4]; first | rfl | (simp [errW_none, errW_some] <;> rfl)) | (simp [*, errW_none, errW_some] <;> rfl), bel_⟩
  ·rw [if_neg c6] at H
   exact absurd H (by simp)
 ·rw [if_neg c5] at H
  exact absurd H (by simp)

/-! ### limelightref05_Is: function 59 -/
def limelightref05_Is.f (k : Nat) (l0 : List (S36)) (a1 : Int) : Option (Bool) := if 0 ≤ a1 then (if a1 < (l0.length : Int) then (if ((rd_T36 l0 a1).f0) = 1 then (if ((rd_T36 l0 a1).f1) = 3 then ((limelightref03_Top.f k l0 a1).bind fun t129 => (if 0 ≤ t129 then (if t129 < (l0.length : Int) then (some (((rd_T36 l0 t129).f0) == 3)) else (none)) else (none))) else (some false)) else (some false)) else (none)) else (none)
theorem limelightref05_Is.mono : ∀ a0 a1 k, LeO (limelightref05_Is.f k a0 a1) (limelightref05_Is.f (k + 1) a0 a1) := by
 intro a0 a1 k
 unfold limelightref05_Is.f
 repeat' first
   | (with_reducible exact limelightref03_Top.mono _ _ _)
   | (with_reducible exact LeO.refl _)
   | (with_reducible exact LeO.none _)
   | (with_reducible refine LeO.ite ?_ ?_)
   | (with_reducible refine LeO.bind ?_ (fun _ => ?_))
   | exact limelightref03_Top.mono _ _ _
   | exact LeO.none _
   | refine LeO.ite ?_ ?_
   | refine LeO.bind ?_ (fun _ => ?_)
set_option maxHeartbeats 8000000 in
set_option maxRecDepth 100000 in
theorem limelightref05_Is.calls (k : Nat) (A0 : Option Addr) (c0 : Nat) (l0 : List (S36)) (a1 : Int) (r : Bool) (w : World) (hr0 : Kd.C k36 w A0 l0.length l0) (hc0 : l0.length ≤ c0) (h : limelightref05_Is.f k l0 a1 = some r) :
  Calls Try.prog 59 #[.slice A0 l0.length c0, .int .i64 a1] w fun e w' => e = .returned (.bool r) ∧ Below w.heap.size w w' := by
 have HR0 := Aside0.mk hr0
 have HC0 := Aside0.mk hc0
 clear hr0 hc0
 have HB := Aside0.mk (Below.refl w.heap.size w)
 have H : (if 0 ≤ a1 then (if a1 < (l0.length : Int) then (if ((rd_T36 l0 a1).f0) = 1 then (if ((rd_T36 l0 a1).f1) = 3 then ((limelightref03_Top.f k l0 a1).bind fun t129 => (if 0 ≤ t129 then (if t129 < (l0.length : Int) then (some (((rd_T36 l0 t129).f0) == 3)) else (none)) else (none))) else (some false)) else (some false)) else (none)) else (none)) = some r := h
 clear h
 by_cases c3 : 0 ≤ a1
 ·rw [if_pos c3] at H
  have c3b0 : decide (0 ≤ a1) = true := decide_eq_true c3
  clear c3
  by_cases c4 : a1 < (l0.length : Int)
  ·rw [if_pos c4] at H
   have c4b0 : decide (a1 < (l0.length : Int)) = true := decide_eq_true c4
   clear c4
   by_cases c5 : ((rd_T36 l0 a1).f0) = 1
   ·rw [if_pos c5] at H
    have c5b0 : (((rd_T36 l0 a1).f0) == 1) = true := beq_iff_eq.mpr c5
    have c5b1 : (((rd_T36 l0 a1).f0) != 1) = false := bne_eq_false_iff_eq.mpr c5
    clear c5
    by_cases c6 : ((rd_T36 l0 a1).f1) = 3
    ·rw [if_pos c6] at H
     have c6b0 : (((rd_T36 l0 a1).f1) == 3) = true := beq_iff_eq.mpr c6
     have c6b1 : (((rd_T36 l0 a1).f1) != 3) = false := bne_eq_false_iff_eq.mpr c6
     clear c6
     replace H := Option.bind_eq_some_iff.mp H
     obtain ⟨t129, A70, H⟩ := H
     replace H : (if 0 ≤ t129 then (if t129 < (l0.length : Int) then (some (((rd_T36 l0 t129).f0) == 3)) else (none)) else (none)) = some r := H
     have A7 := Aside0.mk A70
     clear A70
     by_cases c8 : 0 ≤ t129
     ·rw [if_pos c8] at H
      have c8b0 : decide (0 ≤ t129) = true := decide_eq_true c8
      clear c8
      by_cases c9 : t129 < (l0.length : Int)
      ·rw [if_pos c9] at H
       have c9b0 : decide (t129 < (l0.length : Int)) = true := decide_eq_true c9
       clear c9
       obtain rfl := Option.some.inj H
       have p127 : 0 ≤ (a1 : Int) := of_decide_eq_true asm_
       have q127 : a1 < (l0.length : Int) := of_decide_eq_true asm_
       obtain ⟨ad127, A127_3, c127_3, A127_6, c127_6, e127, hx127_0, hx127_1, hx127_2, hx127_3, hx127_4, hx127_5, hx127_6, hl127_3, hi127_3, hl127_6, hi127_6⟩ := at_T36 HR0.out a1 p127 q127
       cases e127
       have HR127_3 := Aside0.mk hi127_3
       have HC127_3 := Aside0.mk hl127_3
       clear hi127_3 hl127_3
       have HR127_6 := Aside0.mk hi127_6
       have HC127_6 := Aside0.mk hl127_6
       clear hi127_6 hl127_6
       replace p127 := eq_true p127
       replace q127 := eq_true q127
       have p128 : 0 ≤ (a1 : Int) := of_decide_eq_true asm_
       have q128 : a1 < (l0.length : Int) := of_decide_eq_true asm_
       obtain ⟨ad128, A128_3, c128_3, A128_6, c128_6, e128, hx128_0, hx128_1, hx128_2, hx128_3, hx128_4, hx128_5, hx128_6, hl128_3, hi128_3, hl128_6, hi128_6⟩ := at_T36 HR0.out a1 p128 q128
       obtain rfl : ad127 = ad128 := (by injection e128)
       have HR128_3 := Aside0.mk hi128_3
       have HC128_3 := Aside0.mk hl128_3
       clear hi128_3 hl128_3
       have HR128_6 := Aside0.mk hi128_6
       have HC128_6 := Aside0.mk hl128_6
       clear hi128_6 hl128_6
       replace p128 := eq_true p128
       replace q128 := eq_true q128
       have ea_ := Option.some.inj (hx127_3.symm.trans hx128_3)
       injection ea_ with ea_ en_ ec_
       subst ea_
       subst ec_
       clear en_
       have ea_ := Option.some.inj (hx127_6.symm.trans hx128_6)
       injection ea_ with ea_ en_ ec_
       subst ea_
       subst ec_
       clear en_
       go_enter Try.func59, Try.ntmps59
       go_wp2_with (first | (go_at_call 60; (with_reducible refine (limelightref03_Top.calls k _ _ l0 a1 t129 _ ?side1 ?side2 A7.out).mono ?_); (case side1 => exact kcb_ (HR0.out)); (case side2 => exact HC0.out); rintro e w10 ⟨rfl, hb⟩; have n0_ := Aside0.mk (below_step bel_ hb); clear HB; have HB := n0_; clear n0_; (try clear hb); (try clear hb2); (try clear hk); (try clear hi); have p130 : 0 ≤ (t129 : Int) := of_decide_eq_true asm_; have q130 : t129 < (l0.length : Int) := of_decide_eq_true asm_; obtain ⟨ad130, A130_3, c130_3, A130_6, c130_6, e130, hx130_0, hx130_1, hx130_2, hx130_3, hx130_4, hx130_5, hx130_6, hl130_3, hi130_3, hl130_6, hi130_6⟩ := at_T36 HR0.out t129 p130 q130; obtain rfl : ad127 = ad130 := (by injection e130); replace hx130_0 := (HB.out.cell (World.block_lt_of_cell? w _ hx130_0)).trans hx130_0; replace hx130_1 := (HB.out.cell (World.block_lt_of_cell? w _ hx130_1)).trans hx130_1; replace hx130_2 := (HB.out.cell (World.block_lt_of_cell? w _ hx130_2)).trans hx130_2; replace hx130_3 := (HB.out.cell (World.block_lt_of_cell? w _ hx130_3)).trans hx130_3; replace hx130_4 := (HB.out.cell (World.block_lt_of_cell? w _ hx130_4)).trans hx130_4; replace hx130_5 := (HB.out.cell (World.block_lt_of_cell? w _ hx130_5)).trans hx130_5; replace hx130_6 := (HB.out.cell (World.block_lt_of_cell? w _ hx130_6)).trans hx130_6; have HR130_3 := Aside0.mk hi130_3; have HC130_3 := Aside0.mk hl130_3; clear hi130_3 hl130_3; have HR130_6 := Aside0.mk hi130_6; have HC130_6 := Aside0.mk hl130_6; clear hi130_6 hl130_6; replace p130 := eq_true p130; replace q130 := eq_true q130))
       go_ret
       exact ⟨by first | rfl | (simp [errW_none, errW_some] <;> rfl) | (simp [*, errW_none, errW_some] <;> rfl), bel_⟩
      ·rw [if_neg c9] at H
       exact absurd H (by simp)
     ·rw [if_neg c8] at H
      exact absurd H (by simp)
    ·rw [if_neg c6] at H
     have c6b0 : (((rd_T36 l0 a1).f1) == 3) = false := beq_eq_false_iff_ne.mpr c6
     have c6b1 : (((rd_T36 l0 a1).f1) != 3) = true := bne_iff_ne.mpr c6
     obtain rfl := Option.some.inj H
     have p127 : 0 ≤ (a1 : Int) := of_decide_eq_true asm_
     have q127 : a1 < (l0.length : Int) := of_decide_eq_true asm_
     obtain ⟨ad127, A127_3, c127_3, A127_6, c127_6, e127, hx127_0, hx127_1, hx127_2, hx127_3, hx127_4, hx127_5, hx127_6, hl127_3, hi127_3, hl127_6, hi127_6⟩ := at_T36 HR0.out a1 p127 q127
     cases e127
     have HR127_3 := Aside0.mk hi127_3
     have HC127_3 := Aside0.mk hl127_3
     clear hi127_3 hl127_3
     have HR127_6 := Aside0.mk hi127_6
     have HC127_6 := Aside0.mk hl127_6
     clear hi127_6 hl127_6
     replace p127 := eq_true p127
     replace q127 := eq_true q127
     have p128 : 0 ≤ (a1 : Int) := of_decide_eq_true asm_
     have q128 : a1 < (l0.length : Int) := of_decide_eq_true asm_
     obtain ⟨ad128, A128_3, c128_3, A128_6, c128_6, e128, hx128_0, hx128_1, hx128_2, hx128_3, hx128_4, hx128_5, hx128_6, hl128_3, hi128_3, hl128_6, hi128_6⟩ := at_T36 HR0.out a1 p128 q128
     obtain rfl : ad127 = ad128 := (by injection e128)
     have HR128_3 := Aside0.mk hi128_3
     have HC128_3 := Aside0.mk hl128_3
     clear hi128_3 hl128_3
     have HR128_6 := Aside0.mk hi128_6
     have HC128_6 := Aside0.mk hl128_6
     clear hi128_6 hl128_6
     replace p128 := eq_true p128
     replace q128 := eq_true q128
     have ea_ := Option.some.inj (hx127_3.symm.trans hx128_3)
     injection ea_ with ea_ en_ ec_
     subst ea_
     subst ec_
     clear en_
     have ea_ := Option.some.inj (hx127_6.symm.trans hx128_6)
     injection ea_ with ea_ en_ ec_
     subst ea_
     subst ec_
     clear en_
     go_enter Try.func59, Try.ntmps59
     go_wp2
     go_ret
     exact ⟨by first | rfl | (simp [errW_none, errW_some] <;> rfl) | (simp [*, errW_none, errW_some] <;> rfl), bel_⟩
   ·rw [if_neg c5] at H
    have c5b0 : (((rd_T36 l0 a1).f0) == 1) = false := beq_eq_false_iff_ne.mpr c5
    have c5b1 : (((rd_T36 l0 a1).f0) != 1) = true := bne_iff_ne.mpr c5
    obtain rfl := Option.some.inj H
    have p127 : 0 ≤ (a1 : Int) := of_decide_eq_true asm_
    have q127 : a1 < (l0.length : Int) := of_decide_eq_true asm_
    obtain ⟨ad127, A127_3, c127_3, A127_6, c127_6, e127, hx127_0, hx127_1, hx127_2, hx127_3, hx127_4, hx127_5, hx127_6, hl127_3, hi127_3, hl127_6, hi127_6⟩ := at_T36 HR0.out a1 p127 q127
    cases e127
    have HR127_3 := Aside0.mk hi127_3
    have HC127_3 := Aside0.mk hl127_3
    clear hi127_3 hl127_3
    have HR127_6 := Aside0.mk hi127_6
    have HC127_6 := Aside0.mk hl127_6
    clear hi127_6 hl127_6
    replace p127 := eq_true p127
    replace q127 := eq_true q127
    go_enter Try.func59, Try.ntmps59
    go_wp2
    go_ret
    exact ⟨by first | rfl | (simp [errW_none, errW_some] <;> rfl) | (simp [*, errW_none, errW_some] <;> rfl), bel_⟩
  ·rw [if_neg c4] at H
   exact absurd H (by simp)
 ·rw [if_neg c3] at H
  exact absurd H (by simp)

end Go.Proofs.Ytfdhfnjdafaogaa.P
