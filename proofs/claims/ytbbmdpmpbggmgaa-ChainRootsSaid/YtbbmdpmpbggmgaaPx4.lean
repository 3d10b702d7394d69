-- printed by wip/tools/pp.sh (a patched copy of the print's program), for this claim.
import Derived.Test.YtbbmdpmpbggmgaaPx0
import Derived.Test.YtbbmdpmpbggmgaaPx3
namespace Go.Proofs.Ytbbmdpmpbggmgaa.P
open Go.RowKit Go.Proofs.YtbbmdpmpbggmgaaW.PrintWords Go.Proofs.YtbbmdpmpbggmgaaW.PrintLast Go.Proofs.YtbbmdpmpbggmgaaW.PrintMore
attribute [local go_sem] max2_int min2_int max_two min_two max_three min_three max_four min_four   -- for this text's walks alone
set_option linter.unusedVariables false
set_option linter.unusedSimpArgs false

/-! ### limelightref03_Place: function 46 -/
def limelightref03_Place.l0 : Nat → List Int → Int → Int → Option (Int)
  | 0, _, _, _ => none
  | k + 1, x0, x1, x5 => if x5 < (x0.length : Int) then (if 0 ≤ x5 then (if (rd x0 x5) = x1 then (some x5) else (limelightref03_Place.l0 k x0 x1 (wrap64 (x5 + 1)))) else (none)) else (some (-1))
def limelightref03_Place.f (k : Nat) (l0 : List Int) (a1 : Int) : Option (Int) := limelightref03_Place.l0 k l0 a1 0
theorem limelightref03_Place.mono_l : ∀ k, (∀ y0 y1 y2, LeO (limelightref03_Place.l0 k y0 y1 y2) (limelightref03_Place.l0 (k + 1) y0 y1 y2))
  | 0 => fun _ _ _ r h => by simp [limelightref03_Place.l0] at h
  | k + 1 => by
    have ih0 := limelightref03_Place.mono_l k
    · intro y0 y1 y2
      unfold limelightref03_Place.l0
      repeat' first
      | (with_reducible exact ih0 _ _ _)
      | (with_reducible exact LeO.refl _)
      | (with_reducible exact LeO.none _)
      | (with_reducible refine LeO.ite ?_ ?_)
      | (with_reducible refine LeO.bind ?_ (fun _ => ?_))
      | exact ih0 _ _ _
      | exact LeO.none _
      | refine LeO.ite ?_ ?_
      | refine LeO.bind ?_ (fun _ => ?_)
theorem limelightref03_Place.mono : ∀ a0 a1 k, LeO (limelightref03_Place.f k a0 a1) (limelightref03_Place.f (k + 1) a0 a1) := by
  intro a0 a1 k
  have ih0 := limelightref03_Place.mono_l k
  unfold limelightref03_Place.f
  repeat' first
      | (with_reducible exact ih0 _ _ _)
      | (with_reducible exact LeO.refl _)
      | (with_reducible exact LeO.none _)
      | (with_reducible refine LeO.ite ?_ ?_)
      | (with_reducible refine LeO.bind ?_ (fun _ => ?_))
      | exact ih0 _ _ _
      | exact LeO.none _
      | refine LeO.ite ?_ ?_
      | refine LeO.bind ?_ (fun _ => ?_)
set_option maxHeartbeats 8000000 in
set_option maxRecDepth 100000 in
theorem limelightref03_Place.calls (k : Nat) (A0 : Option Addr) (c0 : Nat) (l0 : List Int) (a1 : Int) (r : Int) (w : World) (hr0 : Kd.C (Kd.int .i64) w A0 l0.length l0) (hc0 : l0.length ≤ c0) (h : limelightref03_Place.f k l0 a1 = some r) :
    Calls Try.prog 46 #[.slice A0 l0.length c0, .int .i64 a1] w fun e w' => e = .returned (.int .i64 r) ∧ Drawn0 w w' := by
  have HR0 := Aside0.mk hr0
  have HC0 := Aside0.mk hc0
  clear hr0 hc0
  have H : (limelightref03_Place.l0 k l0 a1 0) = some r := h
  clear h
  have H' := Aside0.mk H
  clear H
  go_enter Try.func46, Try.ntmps46
  go_wp2
  go_loopg [5] k (fun kq v5 w' => ∃ (x5_1 : Int), v5 = .int .i64 x5_1 ∧ Aside0 (limelightref03_Place.l0 kq l0 a1 x5_1 = some r) ∧ Aside0 (kq ≤ k) ∧ Drawn0 w w')
  case atStart => exact ⟨(0), (by first | rfl | (simp; done) | (simp [*]; done)), H', ⟨Nat.le_refl _⟩, by repeat (first | exact Drawn0.refl _ | apply Drawn0.step)⟩
  case round =>
    clear H'
    try clear p2
    obtain ⟨x5_1, rfl, HA, HK1, ⟨m1, rfl⟩⟩ := hrel
    cases gk with
    | zero => exact absurd HA.out (by simp [limelightref03_Place.l0])
    | succ k1 =>
      have H := HA.out
      clear HA
      simp only [limelightref03_Place.l0] at H
      by_cases c3 : x5_1 < (l0.length : Int)
      · rw [if_pos c3] at H
        have c3b0 : decide (x5_1 < (l0.length : Int)) = true := decide_eq_true c3
        clear c3
        by_cases c4 : 0 ≤ x5_1
        · rw [if_pos c4] at H
          have c4b0 : decide (0 ≤ x5_1) = true := decide_eq_true c4
          clear c4
          by_cases c5 : (rd l0 x5_1) = a1
          · rw [if_pos c5] at H
            have c5b0 : ((rd l0 x5_1) == a1) = true := beq_iff_eq.mpr c5
            have c5b1 : ((rd l0 x5_1) != a1) = false := bne_eq_false_iff_eq.mpr c5
            clear c5
            obtain rfl := Option.some.inj H
            have p214 : 0 ≤ (x5_1 : Int) := of_decide_eq_true (by first | (with_reducible assumption) | assumption)
            have q214 : x5_1 < (l0.length : Int) := of_decide_eq_true (by first | (with_reducible assumption) | assumption)
            obtain ⟨ad214, e214, hx214_0⟩ := Kd.at_int HR0.out x5_1 p214 q214
            cases e214
            replace p214 := eq_true p214
            replace q214 := eq_true q214
            go_wp2
            go_ret
            exact ⟨by first | rfl | (simp; done) | (simp [*]; done), by repeat (first | exact Drawn0.refl _ | apply Drawn0.step)⟩
          · rw [if_neg c5] at H
            have c5b0 : ((rd l0 x5_1) == a1) = false := beq_eq_false_iff_ne.mpr c5
            have c5b1 : ((rd l0 x5_1) != a1) = true := bne_iff_ne.mpr c5
            have H' := Aside0.mk H
            clear H
            have p214 : 0 ≤ (x5_1 : Int) := of_decide_eq_true (by first | (with_reducible assumption) | assumption)
            have q214 : x5_1 < (l0.length : Int) := of_decide_eq_true (by first | (with_reducible assumption) | assumption)
            obtain ⟨ad214, e214, hx214_0⟩ := Kd.at_int HR0.out x5_1 p214 q214
            cases e214
            replace p214 := eq_true p214
            replace q214 := eq_true q214
            go_wp2
            go_roundg k1
            case measure => have := HK1.out; omega
            case rel => exact ⟨(wrap64 (x5_1 + 1)), (by first | rfl | (simp; done) | (simp [*]; done)), H', ⟨by have := HK1.out; omega⟩, by repeat (first | exact Drawn0.refl _ | apply Drawn0.step)⟩
        · rw [if_neg c4] at H
          exact absurd H (by simp)
      · rw [if_neg c3] at H
        have c3b0 : decide (x5_1 < (l0.length : Int)) = false := decide_eq_false c3
        clear c3
        obtain rfl := Option.some.inj H
        go_wp2
        go_ret
        exact ⟨by first | rfl | (simp; done) | (simp [*]; done), by repeat (first | exact Drawn0.refl _ | apply Drawn0.step)⟩

/-! ### limelightref03_In: function 31 -/
def limelightref03_In.f (k : Nat) (l0 : List Int) (a1 : Int) : Option (Bool) := (limelightref03_Place.f k l0 a1).bind fun t215 => (some (decide (t215 ≥ 0)))
theorem limelightref03_In.mono : ∀ a0 a1 k, LeO (limelightref03_In.f k a0 a1) (limelightref03_In.f (k + 1) a0 a1) := by
  intro a0 a1 k
  unfold limelightref03_In.f
  repeat' first
      | (with_reducible exact limelightref03_Place.mono _ _ _)
      | (with_reducible exact LeO.refl _)
      | (with_reducible exact LeO.none _)
      | (with_reducible refine LeO.ite ?_ ?_)
      | (with_reducible refine LeO.bind ?_ (fun _ => ?_))
      | exact limelightref03_Place.mono _ _ _
      | exact LeO.none _
      | refine LeO.ite ?_ ?_
      | refine LeO.bind ?_ (fun _ => ?_)
set_option maxHeartbeats 8000000 in
set_option maxRecDepth 100000 in
theorem limelightref03_In.calls (k : Nat) (A0 : Option Addr) (c0 : Nat) (l0 : List Int) (a1 : Int) (r : Bool) (w : World) (hr0 : Kd.C (Kd.int .i64) w A0 l0.length l0) (hc0 : l0.length ≤ c0) (h : limelightref03_In.f k l0 a1 = some r) :
    Calls Try.prog 31 #[.slice A0 l0.length c0, .int .i64 a1] w fun e w' => e = .returned (.bool r) ∧ Drawn0 w w' := by
  have HR0 := Aside0.mk hr0
  have HC0 := Aside0.mk hc0
  clear hr0 hc0
  have H : ((limelightref03_Place.f k l0 a1).bind fun t215 => (some (decide (t215 ≥ 0)))) = some r := h
  clear h
  replace H := Option.bind_eq_some_iff.mp H
  obtain ⟨t215, A30, H⟩ := H
  replace H : (some (decide (t215 ≥ 0))) = some r := H
  have A3 := Aside0.mk A30
  clear A30
  obtain rfl := Option.some.inj H
  go_enter Try.func31, Try.ntmps31
  go_wp2_with (first | ((with_reducible refine gate_callee (f := 46) rfl ?_); refine goesL_ (some 7) rfl rfl Try.func46 (by kernel_rfl) rfl #[.slice A0 l0.length c0, .int .i64 a1] rfl (by (try simp only [List.map_toArray, List.map_cons, List.map_nil]); first | done | rfl | (simp only [List.length_drop, List.length_take]; rfl)) ?_; (with_reducible refine (limelightref03_Place.calls k _ _ l0 a1 t215 _ ?side1 ?side2 A3.out).mono ?_); (case side1 => repeat (first | exact HR0.out | (with_reducible refine Kd.C_alloc ?_ _) | (with_reducible refine Kd.C_drewN ?_ _) | (with_reducible refine Kd.C_drew ?_))); (case side2 => exact HC0.out); rintro e w' ⟨rfl, ⟨nd, rfl⟩⟩; refine ⟨_, rfl, ?_⟩))
  go_ret
  exact ⟨by first | rfl | (simp; done) | (simp [*]; done), by repeat (first | exact Drawn0.refl _ | apply Drawn0.step)⟩

/-! ### limelightref01_Up: function 47 -/
def limelightref01_Up.f (l0 : List (S40)) (a1 : Int) : Option (Int) := if 0 ≤ a1 then (if a1 < (l0.length : Int) then (if ((rd_T40 l0 a1).f0) = 3 then (some ((rd_T40 l0 a1).f4)) else (some ((rd_T40 l0 a1).f2))) else (none)) else (none)
set_option maxHeartbeats 8000000 in
set_option maxRecDepth 100000 in
theorem limelightref01_Up.calls (A0 : Option Addr) (c0 : Nat) (l0 : List (S40)) (a1 : Int) (r : Int) (w : World) (hr0 : Kd.C k40 w A0 l0.length l0) (hc0 : l0.length ≤ c0) (h : limelightref01_Up.f l0 a1 = some r) :
    Calls Try.prog 47 #[.slice A0 l0.length c0, .int .i64 a1] w fun e w' => e = .returned (.int .i64 r) ∧ Drawn0 w w' := by
  have HR0 := Aside0.mk hr0
  have HC0 := Aside0.mk hc0
  clear hr0 hc0
  have H : (if 0 ≤ a1 then (if a1 < (l0.length : Int) then (if ((rd_T40 l0 a1).f0) = 3 then (some ((rd_T40 l0 a1).f4)) else (some ((rd_T40 l0 a1).f2))) else (none)) else (none)) = some r := h
  clear h
  by_cases c3 : 0 ≤ a1
  · rw [if_pos c3] at H
    have c3b0 : decide (0 ≤ a1) = true := decide_eq_true c3
    clear c3
    by_cases c4 : a1 < (l0.length : Int)
    · rw [if_pos c4] at H
      have c4b0 : decide (a1 < (l0.length : Int)) = true := decide_eq_true c4
      clear c4
      by_cases c5 : ((rd_T40 l0 a1).f0) = 3
      · rw [if_pos c5] at H
        have c5b0 : (((rd_T40 l0 a1).f0) == 3) = true := beq_iff_eq.mpr c5
        have c5b1 : (((rd_T40 l0 a1).f0) != 3) = false := bne_eq_false_iff_eq.mpr c5
        clear c5
        obtain rfl := Option.some.inj H
        have p216 : 0 ≤ (a1 : Int) := of_decide_eq_true (by first | (with_reducible assumption) | assumption)
        have q216 : a1 < (l0.length : Int) := of_decide_eq_true (by first | (with_reducible assumption) | assumption)
        obtain ⟨ad216, A216_3, c216_3, A216_6, c216_6, e216, hx216_0, hx216_1, hx216_2, hx216_3, hx216_4, hx216_5, hx216_6, hl216_3, hi216_3, hl216_6, hi216_6⟩ := at_T40 HR0.out a1 p216 q216
        cases e216
        have HR216_3 := Aside0.mk hi216_3
        have HC216_3 := Aside0.mk hl216_3
        clear hi216_3 hl216_3
        have HR216_6 := Aside0.mk hi216_6
        have HC216_6 := Aside0.mk hl216_6
        clear hi216_6 hl216_6
        replace p216 := eq_true p216
        replace q216 := eq_true q216
        have p217 : 0 ≤ (a1 : Int) := of_decide_eq_true (by first | (with_reducible assumption) | assumption)
        have q217 : a1 < (l0.length : Int) := of_decide_eq_true (by first | (with_reducible assumption) | assumption)
        obtain ⟨ad217, A217_3, c217_3, A217_6, c217_6, e217, hx217_0, hx217_1, hx217_2, hx217_3, hx217_4, hx217_5, hx217_6, hl217_3, hi217_3, hl217_6, hi217_6⟩ := at_T40 HR0.out a1 p217 q217
        obtain rfl : ad216 = ad217 := (by injection e217)
        have HR217_3 := Aside0.mk hi217_3
        have HC217_3 := Aside0.mk hl217_3
        clear hi217_3 hl217_3
        have HR217_6 := Aside0.mk hi217_6
        have HC217_6 := Aside0.mk hl217_6
        clear hi217_6 hl217_6
        replace p217 := eq_true p217
        replace q217 := eq_true q217
        have ea_ := Option.some.inj (hx216_3.symm.trans hx217_3)
        injection ea_ with ea_ en_ ec_
        subst ea_
        subst ec_
        clear en_
        have ea_ := Option.some.inj (hx216_6.symm.trans hx217_6)
        injection ea_ with ea_ en_ ec_
        subst ea_
        subst ec_
        clear en_
        go_enter Try.func47, Try.ntmps47
        go_wp2
        go_ret
        exact ⟨by first | rfl | (simp; done) | (simp [*]; done), by repeat (first | exact Drawn0.refl _ | apply Drawn0.step)⟩
      · rw [if_neg c5] at H
        have c5b0 : (((rd_T40 l0 a1).f0) == 3) = false := beq_eq_false_iff_ne.mpr c5
        have c5b1 : (((rd_T40 l0 a1).f0) != 3) = true := bne_iff_ne.mpr c5
        obtain rfl := Option.some.inj H
        have p216 : 0 ≤ (a1 : Int) := of_decide_eq_true (by first | (with_reducible assumption) | assumption)
        have q216 : a1 < (l0.length : Int) := of_decide_eq_true (by first | (with_reducible assumption) | assumption)
        obtain ⟨ad216, A216_3, c216_3, A216_6, c216_6, e216, hx216_0, hx216_1, hx216_2, hx216_3, hx216_4, hx216_5, hx216_6, hl216_3, hi216_3, hl216_6, hi216_6⟩ := at_T40 HR0.out a1 p216 q216
        cases e216
        have HR216_3 := Aside0.mk hi216_3
        have HC216_3 := Aside0.mk hl216_3
        clear hi216_3 hl216_3
        have HR216_6 := Aside0.mk hi216_6
        have HC216_6 := Aside0.mk hl216_6
        clear hi216_6 hl216_6
        replace p216 := eq_true p216
        replace q216 := eq_true q216
        have p218 : 0 ≤ (a1 : Int) := of_decide_eq_true (by first | (with_reducible assumption) | assumption)
        have q218 : a1 < (l0.length : Int) := of_decide_eq_true (by first | (with_reducible assumption) | assumption)
        obtain ⟨ad218, A218_3, c218_3, A218_6, c218_6, e218, hx218_0, hx218_1, hx218_2, hx218_3, hx218_4, hx218_5, hx218_6, hl218_3, hi218_3, hl218_6, hi218_6⟩ := at_T40 HR0.out a1 p218 q218
        obtain rfl : ad216 = ad218 := (by injection e218)
        have HR218_3 := Aside0.mk hi218_3
        have HC218_3 := Aside0.mk hl218_3
        clear hi218_3 hl218_3
        have HR218_6 := Aside0.mk hi218_6
        have HC218_6 := Aside0.mk hl218_6
        clear hi218_6 hl218_6
        replace p218 := eq_true p218
        replace q218 := eq_true q218
        have ea_ := Option.some.inj (hx216_3.symm.trans hx218_3)
        injection ea_ with ea_ en_ ec_
        subst ea_
        subst ec_
        clear en_
        have ea_ := Option.some.inj (hx216_6.symm.trans hx218_6)
        injection ea_ with ea_ en_ ec_
        subst ea_
        subst ec_
        clear en_
        go_enter Try.func47, Try.ntmps47
        go_wp2
        go_ret
        exact ⟨by first | rfl | (simp; done) | (simp [*]; done), by repeat (first | exact Drawn0.refl _ | apply Drawn0.step)⟩
    · rw [if_neg c4] at H
      exact absurd H (by simp)
  · rw [if_neg c3] at H
    exact absurd H (by simp)

/-! ### limelightref04_Up: function 32 -/
def limelightref04_Up.l0 : Nat → List (S40) → Int → List Int → Option (List Int)
  | 0, _, _, _ => none
  | k + 1, x0, x1, x5 => if x1 = (-1) then (some x5) else (if x5.length < 17592186044416 then ((limelightref01_Up.f x0 x1).bind fun t222 => (limelightref04_Up.l0 k x0 t222 (x5 ++ [x1]))) else (none))
def limelightref04_Up.f (k : Nat) (l0 : List (S40)) (a1 : Int) : Option (List Int) := limelightref04_Up.l0 k l0 a1 ([] : List Int)
theorem limelightref04_Up.mono_l : ∀ k, (∀ y0 y1 y2, LeO (limelightref04_Up.l0 k y0 y1 y2) (limelightref04_Up.l0 (k + 1) y0 y1 y2))
  | 0 => fun _ _ _ r h => by simp [limelightref04_Up.l0] at h
  | k + 1 => by
    have ih0 := limelightref04_Up.mono_l k
    · intro y0 y1 y2
      unfold limelightref04_Up.l0
      repeat' first
      | (with_reducible exact ih0 _ _ _)
      | (with_reducible exact LeO.refl _)
      | (with_reducible exact LeO.none _)
      | (with_reducible refine LeO.ite ?_ ?_)
      | (with_reducible refine LeO.bind ?_ (fun _ => ?_))
      | exact ih0 _ _ _
      | exact LeO.none _
      | refine LeO.ite ?_ ?_
      | refine LeO.bind ?_ (fun _ => ?_)
theorem limelightref04_Up.mono : ∀ a0 a1 k, LeO (limelightref04_Up.f k a0 a1) (limelightref04_Up.f (k + 1) a0 a1) := by
  intro a0 a1 k
  have ih0 := limelightref04_Up.mono_l k
  unfold limelightref04_Up.f
  repeat' first
      | (with_reducible exact ih0 _ _ _)
      | (with_reducible exact LeO.refl _)
      | (with_reducible exact LeO.none _)
      | (with_reducible refine LeO.ite ?_ ?_)
      | (with_reducible refine LeO.bind ?_ (fun _ => ?_))
      | exact ih0 _ _ _
      | exact LeO.none _
      | refine LeO.ite ?_ ?_
      | refine LeO.bind ?_ (fun _ => ?_)
set_option maxHeartbeats 8000000 in
set_option maxRecDepth 100000 in
theorem limelightref04_Up.calls (k : Nat) (A0 : Option Addr) (c0 : Nat) (l0 : List (S40)) (a1 : Int) (r : List Int) (w : World) (hr0 : Kd.C k40 w A0 l0.length l0) (hc0 : l0.length ≤ c0) (h : limelightref04_Up.f k l0 a1 = some r) :
    Calls Try.prog 32 #[.slice A0 l0.length c0, .int .i64 a1] w fun e w' => ∃ v0_ : Value, e = .returned (v0_) ∧ Kd.R (Kd.int .i64) 3 w' w.heap.size (fun _ => True) v0_ r ∧ Below w.heap.size w w' := by
  have HR0 := Aside0.mk hr0
  have HC0 := Aside0.mk hc0
  clear hr0 hc0
  have HB := Aside0.mk (Below.refl w.heap.size w)
  have H : (limelightref04_Up.l0 k l0 a1 ([] : List Int)) = some r := h
  clear h
  have H' := Aside0.mk H
  clear H
  go_enter Try.func32, Try.ntmps32
  go_wp2
  go_loopg [1, 5] k (fun kq v1 v5 w' => ∃ (x1_1 : Int) (x5_1 : List Int), v1 = .int .i64 x1_1 ∧ Aside0 (limelightref04_Up.l0 kq l0 x1_1 x5_1 = some r) ∧ Aside0 (kq ≤ k) ∧ Aside0 (Kd.R (Kd.int .i64) 3 w' w.heap.size (fun _ => True) v5 x5_1) ∧ Aside0 (Below w.heap.size w w'))
  case atStart => exact ⟨(a1), (([] : List Int)), (by first | rfl | (simp; done) | (simp [*]; done)), H', ⟨Nat.le_refl _⟩, ⟨by first | exact Kd.R_nil _ _ _ _ _ | exact Kd.N_nil _ _ _ _ _ | exact Kd.V_nil _ _ _ _ _ | exact Kd.Q_nil _ _ _ _ _ | exact Kd.S_nil _ _ _ _ _⟩, ⟨by repeat (first | (with_reducible first | exact HB.out | apply below_alloc | apply pw_below_drewN | apply below_drew1) | exact HB.out)⟩⟩
  case round =>
    clear H'
    try clear p2
    obtain ⟨x1_1, x5_1, rfl, HA, HK1, HO_5, HB⟩ := hrel
    cases gk with
    | zero => exact absurd HA.out (by simp [limelightref04_Up.l0])
    | succ k1 =>
      have H := HA.out
      clear HA
      simp only [limelightref04_Up.l0] at H
      by_cases c3 : x1_1 = (-1)
      · rw [if_pos c3] at H
        have c3b0 : (x1_1 == (-1)) = true := beq_iff_eq.mpr c3
        have c3b1 : (x1_1 != (-1)) = false := bne_eq_false_iff_eq.mpr c3
        clear c3
        obtain rfl := Option.some.inj H
        go_wp2
        go_ret
        exact ⟨_, by first | rfl | (simp [errW_none, errW_some] <;> rfl) | (simp [*, errW_none, errW_some] <;> rfl), by (with_reducible repeat (first | apply Kd.R_alloc | apply Kd.R_drewN | apply Kd.R_drew)); exact HO_5.out, by repeat (first | (with_reducible first | exact HB.out | apply below_alloc | apply pw_below_drewN | apply below_drew1) | exact HB.out)⟩
      · rw [if_neg c3] at H
        have c3b0 : (x1_1 == (-1)) = false := beq_eq_false_iff_ne.mpr c3
        have c3b1 : (x1_1 != (-1)) = true := bne_iff_ne.mpr c3
        by_cases c4 : x5_1.length < 17592186044416
        · rw [if_pos c4] at H
          have LMc4 := Aside0.mk c4
          clear c4
          obtain ⟨y219, hy219⟩ : ∃ y_ : List Int, y_ = (x5_1 ++ [x1_1]) := ⟨_, rfl⟩
          replace H : ((limelightref01_Up.f l0 x1_1).bind fun t222 => (limelightref04_Up.l0 k1 l0 t222 y219)) = some r := by first | (rw [hy219]; with_reducible exact H) | (have H2_ := (Option.bind_some _ _).symm.trans H; rw [hy219]; with_reducible exact H2_) | (have H2_ := (Option.bind_some _ _).symm.trans H; with_reducible exact H2_) | with_reducible exact H | (rw [hy219]; exact H) | exact H
          have Ny219 := Aside0.mk hy219
          clear hy219
          replace H := Option.bind_eq_some_iff.mp H
          obtain ⟨t222, A50, H⟩ := H
          replace H : (limelightref04_Up.l0 k1 l0 t222 y219) = some r := H
          have A5 := Aside0.mk A50
          clear A50
          have H' := Aside0.mk H
          clear H
          go_wp2_with (first | ((with_reducible refine gate_builtin (b := .append) (xs := #[.tmp 8, .tmp 10]) rfl ?_); at_builtin; refine Kd.R_append (Kd.int .i64) (w0 := w) w.heap.size rfl (.tmp 8) (.tmp 10) 30 3 (.int .i64 0) 8 rfl Try.underlying30 info3 rfl (by decide) (by omega) u5 x5_1 x1_1 [.int .i64 x1_1] (fun _ => True) (fun _ => False) rfl rfl ?aP (fun _ hk => hk.elim) ?aF ?aO ?aB ?aS ?aL ?_; (case aP => exact rfl); (case aB => exact (by repeat (first | (with_reducible first | exact HB.out | apply below_alloc | apply pw_below_drewN | apply below_drew1) | exact HB.out))); (case aF => exact (fun _ _ => trivial)); (case aO => exact (by (with_reducible repeat (first | apply Kd.R_alloc | apply Kd.R_drewN | apply Kd.R_drew)); exact HO_5.out)); (case aS => exact (below_size (by repeat (first | (with_reducible first | exact HB.out | apply below_alloc | apply pw_below_drewN | apply below_drew1) | exact HB.out)))); (case aL => have := LMc4.out; omega); intro v220 w6 ho hb hg hat; rw [← Ny219.out] at ho; have n0_ := Aside0.mk (hb); have n1_ := Aside0.mk (ho); clear HB; clear HO_5; have HB := n0_; have HO221 := n1_; clear n0_ n1_; clear ho hb hg hat) | ((with_reducible refine gate_callee (f := 47) rfl ?_); refine goesL_ (some 14) rfl rfl Try.func47 (by kernel_rfl) rfl #[.slice A0 l0.length c0, .int .i64 x1_1] rfl (by (try simp only [List.map_toArray, List.map_cons, List.map_nil]); first | done | rfl | (simp only [List.length_drop, List.length_take]; rfl)) ?_; (with_reducible refine (limelightref01_Up.calls _ _ l0 x1_1 t222 _ ?side1 ?side2 A5.out).mono ?_); (case side1 => repeat (first | exact (Kd.C_below HR0.out HB.out) | (with_reducible refine Kd.C_alloc ?_ _) | (with_reducible refine Kd.C_drewN ?_ _) | (with_reducible refine Kd.C_drew ?_))); (case side2 => exact HC0.out); rintro e w' ⟨rfl, ⟨nd, rfl⟩⟩; refine ⟨_, rfl, ?_⟩))
          go_roundg k1
          case measure => have := HK1.out; omega
          case rel => exact ⟨(t222), (y219), (by first | rfl | (simp; done) | (simp [*]; done)), H', ⟨by have := HK1.out; omega⟩, ⟨by (with_reducible repeat (first | apply Kd.R_alloc | apply Kd.R_drewN | apply Kd.R_drew)); exact HO221.out⟩, ⟨by repeat (first | (with_reducible first | exact HB.out | apply below_alloc | apply pw_below_drewN | apply below_drew1) | exact HB.out)⟩⟩
        · rw [if_neg c4] at H
          exact absurd H (by simp)

/-! ### limelightref04_Above: function 19 -/
def limelightref04_Above.f (k : Nat) (l0 : List (S40)) (a1 : Int) (a2 : Int) : Option (Bool) := (limelightref04_Up.f k l0 a2).bind fun t223 => ((limelightref03_In.f k t223 a1).bind fun t226 => (some t226))
theorem limelightref04_Above.mono : ∀ a0 a1 a2 k, LeO (limelightref04_Above.f k a0 a1 a2) (limelightref04_Above.f (k + 1) a0 a1 a2) := by
  intro a0 a1 a2 k
  unfold limelightref04_Above.f
  repeat' first
      | (with_reducible exact limelightref03_In.mono _ _ _)
      | (with_reducible exact limelightref04_Up.mono _ _ _)
      | (with_reducible exact LeO.refl _)
      | (with_reducible exact LeO.none _)
      | (with_reducible refine LeO.ite ?_ ?_)
      | (with_reducible refine LeO.bind ?_ (fun _ => ?_))
      | exact limelightref03_In.mono _ _ _
      | exact limelightref04_Up.mono _ _ _
      | exact LeO.none _
      | refine LeO.ite ?_ ?_
      | refine LeO.bind ?_ (fun _ => ?_)
set_option maxHeartbeats 8000000 in
set_option maxRecDepth 100000 in
theorem limelightref04_Above.calls (k : Nat) (A0 : Option Addr) (c0 : Nat) (l0 : List (S40)) (a1 : Int) (a2 : Int) (r : Bool) (w : World) (hr0 : Kd.C k40 w A0 l0.length l0) (hc0 : l0.length ≤ c0) (h : limelightref04_Above.f k l0 a1 a2 = some r) :
    Calls Try.prog 19 #[.slice A0 l0.length c0, .int .i64 a1, .int .i64 a2] w fun e w' => e = .returned (.bool r) ∧ Below w.heap.size w w' := by
  have HR0 := Aside0.mk hr0
  have HC0 := Aside0.mk hc0
  clear hr0 hc0
  have HB := Aside0.mk (Below.refl w.heap.size w)
  have H : ((limelightref04_Up.f k l0 a2).bind fun t223 => ((limelightref03_In.f k t223 a1).bind fun t226 => (some t226))) = some r := h
  clear h
  replace H := Option.bind_eq_some_iff.mp H
  obtain ⟨t223, A40, H⟩ := H
  replace H : ((limelightref03_In.f k t223 a1).bind fun t226 => (some t226)) = some r := H
  have A4 := Aside0.mk A40
  clear A40
  replace H := Option.bind_eq_some_iff.mp H
  obtain ⟨t226, A50, H⟩ := H
  replace H : (some t226) = some r := H
  have A5 := Aside0.mk A50
  clear A50
  obtain rfl := Option.some.inj H
  go_enter Try.func19, Try.ntmps19
  go_wp2_with (first | ((with_reducible refine gate_callee (f := 32) rfl ?_); refine goesL_ (some 9) rfl rfl Try.func32 (by kernel_rfl) rfl #[.slice A0 l0.length c0, .int .i64 a2] rfl (by (try simp only [List.map_toArray, List.map_cons, List.map_nil]); first | done | rfl | (simp only [List.length_drop, List.length_take]; rfl)) ?_; (with_reducible refine (limelightref04_Up.calls k _ _ l0 a2 t223 _ ?side1 ?side2 A4.out).mono ?_); (case side1 => repeat (first | exact HR0.out | (with_reducible refine Kd.C_alloc ?_ _) | (with_reducible refine Kd.C_drewN ?_ _) | (with_reducible refine Kd.C_drew ?_))); (case side2 => exact HC0.out); rintro e w6 ⟨v224, rfl, ho0, hb⟩; refine ⟨_, rfl, ?_⟩; have n0_ := Aside0.mk (Kd.R_lower ho0 (below_size (by repeat (first | (with_reducible first | exact HB.out | apply below_alloc | apply pw_below_drewN | apply below_drew1) | exact HB.out)))); have n1_ := Aside0.mk (below_step (by repeat (first | (with_reducible first | exact HB.out | apply below_alloc | apply pw_below_drewN | apply below_drew1) | exact HB.out)) hb); clear HB; have HO225 := n0_; have HB := n1_; clear n0_ n1_; (try clear hb); (try clear hb2); (try clear hk); (try clear hi); (try clear ho0); obtain ⟨Ao7, co7, eo7⟩ := Kd.R_slice HO225.out; subst eo7) | ((with_reducible refine gate_callee (f := 31) rfl ?_); refine goesL_ (some 11) rfl rfl Try.func31 (by kernel_rfl) rfl #[.slice Ao7 t223.length co7, .int .i64 a1] rfl (by (try simp only [List.map_toArray, List.map_cons, List.map_nil]); first | done | rfl | (simp only [List.length_drop, List.length_take]; rfl)) ?_; (with_reducible refine (limelightref03_In.calls k _ _ t223 a1 t226 _ ?side1 ?side2 A5.out).mono ?_); (case side1 => repeat (first | exact (Kd.R_reads' HO225.out).2.2 | (with_reducible refine Kd.C_alloc ?_ _) | (with_reducible refine Kd.C_drewN ?_ _) | (with_reducible refine Kd.C_drew ?_))); (case side2 => exact (Kd.R_reads' HO225.out).2.1); rintro e w' ⟨rfl, ⟨nd, rfl⟩⟩; refine ⟨_, rfl, ?_⟩))
  go_ret
  exact ⟨by first | rfl | (simp [errW_none, errW_some] <;> rfl) | (simp [*, errW_none, errW_some] <;> rfl), by repeat (first | (with_reducible first | exact HB.out | apply below_alloc | apply pw_below_drewN | apply below_drew1) | exact HB.out)⟩

/-! ### limelightref04_Retarget: function 30 -/
def limelightref04_Retarget.f : Nat → List (S40) → Int → Int → Option (Int)
  | 0, _, _, _ => none
  | k + 1, l0, a1, a2 => (limelightref03_Top.f k l0 a1).bind fun t227 => (if 0 ≤ t227 then (if t227 < (l0.length : Int) then (if ((rd_T40 l0 t227).f0) = 3 then ((limelightref04_Above.f k l0 t227 a2).bind fun t229 => (if t229 = true then (some a1) else ((limelightref04_Retarget.f k l0 ((rd_T40 l0 t227).f4) a2).bind fun t231 => (some t231)))) else (some a1)) else (none)) else (none))
theorem limelightref04_Retarget.mono_l : ∀ k, (∀ y0 y1 y2, LeO (limelightref04_Retarget.f k y0 y1 y2) (limelightref04_Retarget.f (k + 1) y0 y1 y2))
  | 0 => fun _ _ _ r h => by simp [limelightref04_Retarget.f] at h
  | k + 1 => by
    have ih0 := limelightref04_Retarget.mono_l k
    · intro y0 y1 y2
      unfold limelightref04_Retarget.f
      repeat' first
      | (with_reducible exact ih0 _ _ _)
      | (with_reducible exact limelightref03_Top.mono _ _ _)
      | (with_reducible exact limelightref04_Above.mono _ _ _ _)
      | (with_reducible exact LeO.refl _)
      | (with_reducible exact LeO.none _)
      | (with_reducible refine LeO.ite ?_ ?_)
      | (with_reducible refine LeO.bind ?_ (fun _ => ?_))
      | exact ih0 _ _ _
      | exact limelightref03_Top.mono _ _ _
      | exact limelightref04_Above.mono _ _ _ _
      | exact LeO.none _
      | refine LeO.ite ?_ ?_
      | refine LeO.bind ?_ (fun _ => ?_)
theorem limelightref04_Retarget.mono : ∀ a0 a1 a2 k, LeO (limelightref04_Retarget.f k a0 a1 a2) (limelightref04_Retarget.f (k + 1) a0 a1 a2) := by
  intro a0 a1 a2 k
  have ih0 := limelightref04_Retarget.mono_l k
  exact ih0 a0 a1 a2
set_option maxHeartbeats 8000000 in
set_option maxRecDepth 100000 in
theorem limelightref04_Retarget.calls (k : Nat) : ∀ (A0 : Option Addr) (c0 : Nat) (l0 : List (S40)) (a1 : Int) (a2 : Int) (r : Int) (w : World) (hr0 : Kd.C k40 w A0 l0.length l0) (hc0 : l0.length ≤ c0) (h : limelightref04_Retarget.f k l0 a1 a2 = some r),
    Calls Try.prog 30 #[.slice A0 l0.length c0, .int .i64 a1, .int .i64 a2] w fun e w' => e = .returned (.int .i64 r) ∧ Below w.heap.size w w' := by
  induction k using Nat.strongRecOn with
  | _ k ih =>
  intro A0 c0 l0 a1 a2 r w hr0 hc0 h
  cases k with
  | zero => exact absurd h (by simp [limelightref04_Retarget.f])
  | succ k =>
  simp only [limelightref04_Retarget.f] at h
  have HR0 := Aside0.mk hr0
  have HC0 := Aside0.mk hc0
  clear hr0 hc0
  have HB := Aside0.mk (Below.refl w.heap.size w)
  have H : ((limelightref03_Top.f k l0 a1).bind fun t227 => (if 0 ≤ t227 then (if t227 < (l0.length : Int) then (if ((rd_T40 l0 t227).f0) = 3 then ((limelightref04_Above.f k l0 t227 a2).bind fun t229 => (if t229 = true then (some a1) else ((limelightref04_Retarget.f k l0 ((rd_T40 l0 t227).f4) a2).bind fun t231 => (some t231)))) else (some a1)) else (none)) else (none))) = some r := h
  clear h
  replace H := Option.bind_eq_some_iff.mp H
  obtain ⟨t227, A40, H⟩ := H
  replace H : (if 0 ≤ t227 then (if t227 < (l0.length : Int) then (if ((rd_T40 l0 t227).f0) = 3 then ((limelightref04_Above.f k l0 t227 a2).bind fun t229 => (if t229 = true then (some a1) else ((limelightref04_Retarget.f k l0 ((rd_T40 l0 t227).f4) a2).bind fun t231 => (some t231)))) else (some a1)) else (none)) else (none)) = some r := H
  have A4 := Aside0.mk A40
  clear A40
  by_cases c5 : 0 ≤ t227
  · rw [if_pos c5] at H
    have c5b0 : decide (0 ≤ t227) = true := decide_eq_true c5
    clear c5
    by_cases c6 : t227 < (l0.length : Int)
    · rw [if_pos c6] at H
      have c6b0 : decide (t227 < (l0.length : Int)) = true := decide_eq_true c6
      clear c6
      by_cases c7 : ((rd_T40 l0 t227).f0) = 3
      · rw [if_pos c7] at H
        have c7b0 : (((rd_T40 l0 t227).f0) == 3) = true := beq_iff_eq.mpr c7
        have c7b1 : (((rd_T40 l0 t227).f0) != 3) = false := bne_eq_false_iff_eq.mpr c7
        clear c7
        replace H := Option.bind_eq_some_iff.mp H
        obtain ⟨t229, A80, H⟩ := H
        replace H : (if t229 = true then (some a1) else ((limelightref04_Retarget.f k l0 ((rd_T40 l0 t227).f4) a2).bind fun t231 => (some t231))) = some r := H
        have A8 := Aside0.mk A80
        clear A80
        by_cases c9 : t229 = true
        · subst c9
          have H1 : (some a1) = some r := by rw [if_pos rfl] at H; exact H
          clear H
          have H := H1
          clear H1
          obtain rfl := Option.some.inj H
          go_enter Try.func30, Try.ntmps30
          go_wp2_with (first | ((with_reducible refine gate_callee (f := 20) rfl ?_); refine goesL_ (some 10) rfl rfl Try.func20 (by kernel_rfl) rfl #[.slice A0 l0.length c0, .int .i64 a1] rfl (by (try simp only [List.map_toArray, List.map_cons, List.map_nil]); first | done | rfl | (simp only [List.length_drop, List.length_take]; rfl)) ?_; (with_reducible refine (limelightref03_Top.calls k _ _ l0 a1 t227 _ ?side1 ?side2 A4.out).mono ?_); (case side1 => repeat (first | exact HR0.out | (with_reducible refine Kd.C_alloc ?_ _) | (with_reducible refine Kd.C_drewN ?_ _) | (with_reducible refine Kd.C_drew ?_))); (case side2 => exact HC0.out); rintro e w10 ⟨rfl, hb⟩; refine ⟨_, rfl, ?_⟩; have n0_ := Aside0.mk (below_step (by repeat (first | (with_reducible first | exact HB.out | apply below_alloc | apply pw_below_drewN | apply below_drew1) | exact HB.out)) hb); clear HB; have HB := n0_; clear n0_; (try clear hb); (try clear hb2); (try clear hk); (try clear hi); have p228 : 0 ≤ (t227 : Int) := of_decide_eq_true (by first | (with_reducible assumption) | assumption); have q228 : t227 < (l0.length : Int) := of_decide_eq_true (by first | (with_reducible assumption) | assumption); obtain ⟨ad228, A228_3, c228_3, A228_6, c228_6, e228, hx228_0, hx228_1, hx228_2, hx228_3, hx228_4, hx228_5, hx228_6, hl228_3, hi228_3, hl228_6, hi228_6⟩ := at_T40 HR0.out t227 p228 q228; cases e228; replace hx228_0 := (HB.out.cell (World.block_lt_of_cell? w _ hx228_0)).trans hx228_0; replace hx228_1 := (HB.out.cell (World.block_lt_of_cell? w _ hx228_1)).trans hx228_1; replace hx228_2 := (HB.out.cell (World.block_lt_of_cell? w _ hx228_2)).trans hx228_2; replace hx228_3 := (HB.out.cell (World.block_lt_of_cell? w _ hx228_3)).trans hx228_3; replace hx228_4 := (HB.out.cell (World.block_lt_of_cell? w _ hx228_4)).trans hx228_4; replace hx228_5 := (HB.out.cell (World.block_lt_of_cell? w _ hx228_5)).trans hx228_5; replace hx228_6 := (HB.out.cell (World.block_lt_of_cell? w _ hx228_6)).trans hx228_6; have HR228_3 := Aside0.mk hi228_3; have HC228_3 := Aside0.mk hl228_3; clear hi228_3 hl228_3; have HR228_6 := Aside0.mk hi228_6; have HC228_6 := Aside0.mk hl228_6; clear hi228_6 hl228_6; replace p228 := eq_true p228; replace q228 := eq_true q228) | (go_at_call 19; (with_reducible refine (limelightref04_Above.calls k _ _ l0 t227 a2 true _ ?side1 ?side2 A8.out).mono ?_); (case side1 => repeat (first | exact (Kd.C_below HR0.out HB.out) | (with_reducible refine Kd.C_alloc ?_ _) | (with_reducible refine Kd.C_drewN ?_ _) | (with_reducible refine Kd.C_drew ?_))); (case side2 => exact HC0.out); rintro e w11 ⟨rfl, hb⟩; have n0_ := Aside0.mk (below_step (by repeat (first | (with_reducible first | exact HB.out | apply below_alloc | apply pw_below_drewN | apply below_drew1) | exact HB.out)) hb); clear HB; have HB := n0_; clear n0_; (try clear hb); (try clear hb2); (try clear hk); (try clear hi)))
          go_ret
          exact ⟨by first | rfl | (simp [errW_none, errW_some] <;> rfl) | (simp [*, errW_none, errW_some] <;> rfl), by repeat (first | (with_reducible first | exact HB.out | apply below_alloc | apply pw_below_drewN | apply below_drew1) | exact HB.out)⟩
        · replace c9 := Bool.eq_false_iff.mpr c9
          subst c9
          have H1 : ((limelightref04_Retarget.f k l0 ((rd_T40 l0 t227).f4) a2).bind fun t231 => (some t231)) = some r := by rw [if_neg (show ¬ (false = true) by decide)] at H; exact H
          clear H
          have H := H1
          clear H1
          replace H := Option.bind_eq_some_iff.mp H
          obtain ⟨t231, A120, H⟩ := H
          replace H : (some t231) = some r := H
          have A12 := Aside0.mk A120
          clear A120
          obtain rfl := Option.some.inj H
          go_enter Try.func30, Try.ntmps30
          go_wp2_with (first | ((with_reducible refine gate_callee (f := 20) rfl ?_); refine goesL_ (some 10) rfl rfl Try.func20 (by kernel_rfl) rfl #[.slice A0 l0.length c0, .int .i64 a1] rfl (by (try simp only [List.map_toArray, List.map_cons, List.map_nil]); first | done | rfl | (simp only [List.length_drop, List.length_take]; rfl)) ?_; (with_reducible refine (limelightref03_Top.calls k _ _ l0 a1 t227 _ ?side1 ?side2 A4.out).mono ?_); (case side1 => repeat (first | exact HR0.out | (with_reducible refine Kd.C_alloc ?_ _) | (with_reducible refine Kd.C_drewN ?_ _) | (with_reducible refine Kd.C_drew ?_))); (case side2 => exact HC0.out); rintro e w13 ⟨rfl, hb⟩; refine ⟨_, rfl, ?_⟩; have n0_ := Aside0.mk (below_step (by repeat (first | (with_reducible first | exact HB.out | apply below_alloc | apply pw_below_drewN | apply below_drew1) | exact HB.out)) hb); clear HB; have HB := n0_; clear n0_; (try clear hb); (try clear hb2); (try clear hk); (try clear hi); have p228 : 0 ≤ (t227 : Int) := of_decide_eq_true (by first | (with_reducible assumption) | assumption); have q228 : t227 < (l0.length : Int) := of_decide_eq_true (by first | (with_reducible assumption) | assumption); obtain ⟨ad228, A228_3, c228_3, A228_6, c228_6, e228, hx228_0, hx228_1, hx228_2, hx228_3, hx228_4, hx228_5, hx228_6, hl228_3, hi228_3, hl228_6, hi228_6⟩ := at_T40 HR0.out t227 p228 q228; cases e228; replace hx228_0 := (HB.out.cell (World.block_lt_of_cell? w _ hx228_0)).trans hx228_0; replace hx228_1 := (HB.out.cell (World.block_lt_of_cell? w _ hx228_1)).trans hx228_1; replace hx228_2 := (HB.out.cell (World.block_lt_of_cell? w _ hx228_2)).trans hx228_2; replace hx228_3 := (HB.out.cell (World.block_lt_of_cell? w _ hx228_3)).trans hx228_3; replace hx228_4 := (HB.out.cell (World.block_lt_of_cell? w _ hx228_4)).trans hx228_4; replace hx228_5 := (HB.out.cell (World.block_lt_of_cell? w _ hx228_5)).trans hx228_5; replace hx228_6 := (HB.out.cell (World.block_lt_of_cell? w _ hx228_6)).trans hx228_6; have HR228_3 := Aside0.mk hi228_3; have HC228_3 := Aside0.mk hl228_3; clear hi228_3 hl228_3; have HR228_6 := Aside0.mk hi228_6; have HC228_6 := Aside0.mk hl228_6; clear hi228_6 hl228_6; replace p228 := eq_true p228; replace q228 := eq_true q228) | (go_at_call 19; (with_reducible refine (limelightref04_Above.calls k _ _ l0 t227 a2 false _ ?side1 ?side2 A8.out).mono ?_); (case side1 => repeat (first | exact (Kd.C_below HR0.out HB.out) | (with_reducible refine Kd.C_alloc ?_ _) | (with_reducible refine Kd.C_drewN ?_ _) | (with_reducible refine Kd.C_drew ?_))); (case side2 => exact HC0.out); rintro e w14 ⟨rfl, hb⟩; have n0_ := Aside0.mk (below_step (by repeat (first | (with_reducible first | exact HB.out | apply below_alloc | apply pw_below_drewN | apply below_drew1) | exact HB.out)) hb); clear HB; have HB := n0_; clear n0_; (try clear hb); (try clear hb2); (try clear hk); (try clear hi); have p230 : 0 ≤ (t227 : Int) := of_decide_eq_true (by first | (with_reducible assumption) | assumption); have q230 : t227 < (l0.length : Int) := of_decide_eq_true (by first | (with_reducible assumption) | assumption); obtain ⟨ad230, A230_3, c230_3, A230_6, c230_6, e230, hx230_0, hx230_1, hx230_2, hx230_3, hx230_4, hx230_5, hx230_6, hl230_3, hi230_3, hl230_6, hi230_6⟩ := at_T40 HR0.out t227 p230 q230; obtain rfl : ad228 = ad230 := (by injection e230); replace hx230_0 := (HB.out.cell (World.block_lt_of_cell? w _ hx230_0)).trans hx230_0; replace hx230_1 := (HB.out.cell (World.block_lt_of_cell? w _ hx230_1)).trans hx230_1; replace hx230_2 := (HB.out.cell (World.block_lt_of_cell? w _ hx230_2)).trans hx230_2; replace hx230_3 := (HB.out.cell (World.block_lt_of_cell? w _ hx230_3)).trans hx230_3; replace hx230_4 := (HB.out.cell (World.block_lt_of_cell? w _ hx230_4)).trans hx230_4; replace hx230_5 := (HB.out.cell (World.block_lt_of_cell? w _ hx230_5)).trans hx230_5; replace hx230_6 := (HB.out.cell (World.block_lt_of_cell? w _ hx230_6)).trans hx230_6; have HR230_3 := Aside0.mk hi230_3; have HC230_3 := Aside0.mk hl230_3; clear hi230_3 hl230_3; have HR230_6 := Aside0.mk hi230_6; have HC230_6 := Aside0.mk hl230_6; clear hi230_6 hl230_6; replace p230 := eq_true p230; replace q230 := eq_true q230) | ((with_reducible refine gate_callee (f := 30) rfl ?_); refine goesL_ (some 31) rfl rfl Try.func30 (by kernel_rfl) rfl #[.slice (some ad228) l0.length c0, .int .i64 ((rd_T40 l0 t227).f4), .int .i64 a2] rfl (by (try simp only [List.map_toArray, List.map_cons, List.map_nil]); first | done | rfl | (simp only [List.length_drop, List.length_take]; rfl)) ?_; (with_reducible refine (ih k (by omega) _ _ l0 ((rd_T40 l0 t227).f4) a2 t231 _ ?side1 ?side2 A12.out).mono ?_); (case side1 => repeat (first | exact (Kd.C_below HR0.out HB.out) | (with_reducible refine Kd.C_alloc ?_ _) | (with_reducible refine Kd.C_drewN ?_ _) | (with_reducible refine Kd.C_drew ?_))); (case side2 => exact HC0.out); rintro e w15 ⟨rfl, hb⟩; refine ⟨_, rfl, ?_⟩; have n0_ := Aside0.mk (below_step (by repeat (first | (with_reducible first | exact HB.out | apply below_alloc | apply pw_below_drewN | apply below_drew1) | exact HB.out)) hb); clear HB; have HB := n0_; clear n0_; (try clear hb); (try clear hb2); (try clear hk); (try clear hi)))
          go_ret
          exact ⟨by first | rfl | (simp [errW_none, errW_some] <;> rfl) | (simp [*, errW_none, errW_some] <;> rfl), by repeat (first | (with_reducible first | exact HB.out | apply below_alloc | apply pw_below_drewN | apply below_drew1) | exact HB.out)⟩
      · rw [if_neg c7] at H
        have c7b0 : (((rd_T40 l0 t227).f0) == 3) = false := beq_eq_false_iff_ne.mpr c7
        have c7b1 : (((rd_T40 l0 t227).f0) != 3) = true := bne_iff_ne.mpr c7
        obtain rfl := Option.some.inj H
        go_enter Try.func30, Try.ntmps30
        go_wp2_with (first | ((with_reducible refine gate_callee (f := 20) rfl ?_); refine goesL_ (some 10) rfl rfl Try.func20 (by kernel_rfl) rfl #[.slice A0 l0.length c0, .int .i64 a1] rfl (by (try simp only [List.map_toArray, List.map_cons, List.map_nil]); first | done | rfl | (simp only [List.length_drop, List.length_take]; rfl)) ?_; (with_reducible refine (limelightref03_Top.calls k _ _ l0 a1 t227 _ ?side1 ?side2 A4.out).mono ?_); (case side1 => repeat (first | exact HR0.out | (with_reducible refine Kd.C_alloc ?_ _) | (with_reducible refine Kd.C_drewN ?_ _) | (with_reducible refine Kd.C_drew ?_))); (case side2 => exact HC0.out); rintro e w16 ⟨rfl, hb⟩; refine ⟨_, rfl, ?_⟩; have n0_ := Aside0.mk (below_step (by repeat (first | (with_reducible first | exact HB.out | apply below_alloc | apply pw_below_drewN | apply below_drew1) | exact HB.out)) hb); clear HB; have HB := n0_; clear n0_; (try clear hb); (try clear hb2); (try clear hk); (try clear hi); have p228 : 0 ≤ (t227 : Int) := of_decide_eq_true (by first | (with_reducible assumption) | assumption); have q228 : t227 < (l0.length : Int) := of_decide_eq_true (by first | (with_reducible assumption) | assumption); obtain ⟨ad228, A228_3, c228_3, A228_6, c228_6, e228, hx228_0, hx228_1, hx228_2, hx228_3, hx228_4, hx228_5, hx228_6, hl228_3, hi228_3, hl228_6, hi228_6⟩ := at_T40 HR0.out t227 p228 q228; cases e228; replace hx228_0 := (HB.out.cell (World.block_lt_of_cell? w _ hx228_0)).trans hx228_0; replace hx228_1 := (HB.out.cell (World.block_lt_of_cell? w _ hx228_1)).trans hx228_1; replace hx228_2 := (HB.out.cell (World.block_lt_of_cell? w _ hx228_2)).trans hx228_2; replace hx228_3 := (HB.out.cell (World.block_lt_of_cell? w _ hx228_3)).trans hx228_3; replace hx228_4 := (HB.out.cell (World.block_lt_of_cell? w _ hx228_4)).trans hx228_4; replace hx228_5 := (HB.out.cell (World.block_lt_of_cell? w _ hx228_5)).trans hx228_5; replace hx228_6 := (HB.out.cell (World.block_lt_of_cell? w _ hx228_6)).trans hx228_6; have HR228_3 := Aside0.mk hi228_3; have HC228_3 := Aside0.mk hl228_3; clear hi228_3 hl228_3; have HR228_6 := Aside0.mk hi228_6; have HC228_6 := Aside0.mk hl228_6; clear hi228_6 hl228_6; replace p228 := eq_true p228; replace q228 := eq_true q228))
        go_ret
        exact ⟨by first | rfl | (simp [errW_none, errW_some] <;> rfl) | (simp [*, errW_none, errW_some] <;> rfl), by repeat (first | (with_reducible first | exact HB.out | apply below_alloc | apply pw_below_drewN | apply below_drew1) | exact HB.out)⟩
    · rw [if_neg c6] at H
      exact absurd H (by simp)
  · rw [if_neg c5] at H
    exact absurd H (by simp)

end Go.Proofs.Ytbbmdpmpbggmgaa.P
