-- printed by wip/tools/pp.sh (a patched copy of the print's program), for this claim.
import Derived.Test.YtcmcjfiaemchoaaPx0
import Derived.Test.YtcmcjfiaemchoaaPx1
import Derived.Test.YtcmcjfiaemchoaaME
import Derived.Test.YtcmcjfiaemchoaaMT
import Derived.Test.YtcmcjfiaemchoaaMV
namespace Go.Proofs.Ytcmcjfiaemchoaa.P
open Go.RowKit Go.Proofs.YtcmcjfiaemchoaaW.PrintWords Go.Proofs.YtcmcjfiaemchoaaW.PrintLast Go.Proofs.YtcmcjfiaemchoaaW.PrintMore
attribute [local go_sem] max2_int min2_int max_two min_two max_three min_three max_four min_four   -- for this text's walks alone
set_option linter.unusedVariables false
set_option linter.unusedSimpArgs false

/-! ### limelightlaw05_SlotsNone: function 8 -/
mutual
def limelightlaw05_SlotsNone.j0 : Nat → List (S35) → Bool → Option (Bool)
  | 0, _, _ => none
  | k + 1, x0, x18 => if x18 = true then ((limelightlaw05_live.f).bind fun t289 => (some t289)) else (limelightlaw05_SlotsNone.l0 k x0 0)
def limelightlaw05_SlotsNone.l0 : Nat → List (S35) → Int → Option (Bool)
  | 0, _, _ => none
  | k + 1, x0, x3 => if x3 < (x0.length : Int) then ((limelightref03_Top.f k x0 x3).bind fun t291 => (if 0 ≤ t291 then (if t291 < (x0.length : Int) then (if (((rd_T35 x0 t291).f0) = 3) then (if 0 ≤ x3 then (if ((rd_T35 x0 x3).f1) = 3 then (limelightlaw05_SlotsNone.j2 k x0 x3 false) else ((slots_Assigned.f x0 x3).bind fun t294 => (limelightlaw05_SlotsNone.j2 k x0 x3 (decide ((t294.length : Int) > 0))))) else (none)) else ((slots_Assigned.f x0 x3).bind fun t297 => (limelightlaw05_SlotsNone.j2 k x0 x3 (decide ((t297.length : Int) > 0))))) else (none)) else (none))) else ((limelightlaw05_live.f).bind fun t290 => (some t290))
def limelightlaw05_SlotsNone.j2 : Nat → List (S35) → Int → Bool → Option (Bool)
  | 0, _, _, _ => none
  | k + 1, x0, x3, x50 => if x50 = true then (none) else (if 0 ≤ x3 then (if x3 < (x0.length : Int) then (if ((rd_T35 x0 x3).f5) = (-1) then (limelightlaw05_SlotsNone.j3 k x0 x3 true) else ((slots_All.f x0 ((rd_T35 x0 x3).f5)).bind fun t302 => (limelightlaw05_SlotsNone.j3 k x0 x3 (decide ((t302.length : Int) > 0))))) else (none)) else (none))
def limelightlaw05_SlotsNone.j3 : Nat → List (S35) → Int → Bool → Option (Bool)
  | 0, _, _, _ => none
  | k + 1, x0, x3, x67 => if x67 = true then (limelightlaw05_SlotsNone.l0 k x0 (wrap64 (x3 + 1))) else (limelightlaw05_SlotsNone.l1 k x0 x3 0)
def limelightlaw05_SlotsNone.l1 : Nat → List (S35) → Int → Int → Option (Bool)
  | 0, _, _, _ => none
  | k + 1, x0, x3, x5 => if 0 ≤ x3 then (if x3 < (x0.length : Int) then (if x5 < (((rd_T35 x0 x3).f3).length : Int) then (if 0 ≤ x5 then ((slots_Of.f x0 (rd ((rd_T35 x0 x3).f3) x5)).bind fun t308 => (if t308 = (-1) then (limelightlaw05_SlotsNone.l1 k x0 x3 (wrap64 (x5 + 1))) else (none))) else (none)) else (limelightlaw05_SlotsNone.l0 k x0 (wrap64 (x3 + 1)))) else (none)) else (none)
end
def limelightlaw05_SlotsNone.f (k : Nat) (l0 : List (S35)) : Option (Bool) := (limelightref01_Few.f l0).bind fun t287 => (if t287 = true then (if (l0.length : Int) > 16 then (limelightlaw05_SlotsNone.j0 k l0 true) else ((limelightref01_May.f l0).bind fun t288 => (limelightlaw05_SlotsNone.j0 k l0 (!t288)))) else (limelightlaw05_SlotsNone.j0 k l0 true))
theorem limelightlaw05_SlotsNone.mono_l : ∀ k, (∀ y0 y1, LeO (limelightlaw05_SlotsNone.j0 k y0 y1) (limelightlaw05_SlotsNone.j0 (k + 1) y0 y1)) ∧ (∀ y0 y1, LeO (limelightlaw05_SlotsNone.l0 k y0 y1) (limelightlaw05_SlotsNone.l0 (k + 1) y0 y1)) ∧ (∀ y0 y1 y2, LeO (limelightlaw05_SlotsNone.j2 k y0 y1 y2) (limelightlaw05_SlotsNone.j2 (k + 1) y0 y1 y2)) ∧ (∀ y0 y1 y2, LeO (limelightlaw05_SlotsNone.j3 k y0 y1 y2) (limelightlaw05_SlotsNone.j3 (k + 1) y0 y1 y2)) ∧ (∀ y0 y1 y2, LeO (limelightlaw05_SlotsNone.l1 k y0 y1 y2) (limelightlaw05_SlotsNone.l1 (k + 1) y0 y1 y2))
  | 0 => ⟨fun _ _ r h => by simp [limelightlaw05_SlotsNone.j0] at h, fun _ _ r h => by simp [limelightlaw05_SlotsNone.l0] at h, fun _ _ _ r h => by simp [limelightlaw05_SlotsNone.j2] at h, fun _ _ _ r h => by simp [limelightlaw05_SlotsNone.j3] at h, fun _ _ _ r h => by simp [limelightlaw05_SlotsNone.l1] at h⟩
  | k + 1 => by
    obtain ⟨ih0, ih1, ih2, ih3, ih4⟩ := limelightlaw05_SlotsNone.mono_l k
    refine ⟨?_, ?_, ?_, ?_, ?_⟩
    · intro y0 y1
      unfold limelightlaw05_SlotsNone.j0
      repeat' first
      | (with_reducible exact ih0 _ _)
      | (with_reducible exact ih1 _ _)
      | (with_reducible exact ih2 _ _ _)
      | (with_reducible exact ih3 _ _ _)
      | (with_reducible exact ih4 _ _ _)
      | (with_reducible exact limelightref03_Top.mono _ _ _)
      | (with_reducible exact LeO.refl _)
      | (with_reducible exact LeO.none _)
      | (with_reducible refine LeO.ite ?_ ?_)
      | (with_reducible refine LeO.bind ?_ (fun _ => ?_))
      | exact ih0 _ _
      | exact ih1 _ _
      | exact ih2 _ _ _
      | exact ih3 _ _ _
      | exact ih4 _ _ _
      | exact limelightref03_Top.mono _ _ _
      | exact LeO.none _
      | refine LeO.ite ?_ ?_
      | refine LeO.bind ?_ (fun _ => ?_)
    · intro y0 y1
      unfold limelightlaw05_SlotsNone.l0
      repeat' first
      | (with_reducible exact ih0 _ _)
      | (with_reducible exact ih1 _ _)
      | (with_reducible exact ih2 _ _ _)
      | (with_reducible exact ih3 _ _ _)
      | (with_reducible exact ih4 _ _ _)
      | (with_reducible exact limelightref03_Top.mono _ _ _)
      | (with_reducible exact LeO.refl _)
      | (with_reducible exact LeO.none _)
      | (with_reducible refine LeO.ite ?_ ?_)
      | (with_reducible refine LeO.bind ?_ (fun _ => ?_))
      | exact ih0 _ _
      | exact ih1 _ _
      | exact ih2 _ _ _
      | exact ih3 _ _ _
      | exact ih4 _ _ _
      | exact limelightref03_Top.mono _ _ _
      | exact LeO.none _
      | refine LeO.ite ?_ ?_
      | refine LeO.bind ?_ (fun _ => ?_)
    · intro y0 y1 y2
      unfold limelightlaw05_SlotsNone.j2
      repeat' first
      | (with_reducible exact ih0 _ _)
      | (with_reducible exact ih1 _ _)
      | (with_reducible exact ih2 _ _ _)
      | (with_reducible exact ih3 _ _ _)
      | (with_reducible exact ih4 _ _ _)
      | (with_reducible exact limelightref03_Top.mono _ _ _)
      | (with_reducible exact LeO.refl _)
      | (with_reducible exact LeO.none _)
      | (with_reducible refine LeO.ite ?_ ?_)
      | (with_reducible refine LeO.bind ?_ (fun _ => ?_))
      | exact ih0 _ _
      | exact ih1 _ _
      | exact ih2 _ _ _
      | exact ih3 _ _ _
      | exact ih4 _ _ _
      | exact limelightref03_Top.mono _ _ _
      | exact LeO.none _
      | refine LeO.ite ?_ ?_
      | refine LeO.bind ?_ (fun _ => ?_)
    · intro y0 y1 y2
      unfold limelightlaw05_SlotsNone.j3
      repeat' first
      | (with_reducible exact ih0 _ _)
      | (with_reducible exact ih1 _ _)
      | (with_reducible exact ih2 _ _ _)
      | (with_reducible exact ih3 _ _ _)
      | (with_reducible exact ih4 _ _ _)
      | (with_reducible exact limelightref03_Top.mono _ _ _)
      | (with_reducible exact LeO.refl _)
      | (with_reducible exact LeO.none _)
      | (with_reducible refine LeO.ite ?_ ?_)
      | (with_reducible refine LeO.bind ?_ (fun _ => ?_))
      | exact ih0 _ _
      | exact ih1 _ _
      | exact ih2 _ _ _
      | exact ih3 _ _ _
      | exact ih4 _ _ _
      | exact limelightref03_Top.mono _ _ _
      | exact LeO.none _
      | refine LeO.ite ?_ ?_
      | refine LeO.bind ?_ (fun _ => ?_)
    · intro y0 y1 y2
      unfold limelightlaw05_SlotsNone.l1
      repeat' first
      | (with_reducible exact ih0 _ _)
      | (with_reducible exact ih1 _ _)
      | (with_reducible exact ih2 _ _ _)
      | (with_reducible exact ih3 _ _ _)
      | (with_reducible exact ih4 _ _ _)
      | (with_reducible exact limelightref03_Top.mono _ _ _)
      | (with_reducible exact LeO.refl _)
      | (with_reducible exact LeO.none _)
      | (with_reducible refine LeO.ite ?_ ?_)
      | (with_reducible refine LeO.bind ?_ (fun _ => ?_))
      | exact ih0 _ _
      | exact ih1 _ _
      | exact ih2 _ _ _
      | exact ih3 _ _ _
      | exact ih4 _ _ _
      | exact limelightref03_Top.mono _ _ _
      | exact LeO.none _
      | refine LeO.ite ?_ ?_
      | refine LeO.bind ?_ (fun _ => ?_)
theorem limelightlaw05_SlotsNone.mono : ∀ a0 k, LeO (limelightlaw05_SlotsNone.f k a0) (limelightlaw05_SlotsNone.f (k + 1) a0) := by
  intro a0 k
  obtain ⟨ih0, ih1, ih2, ih3, ih4⟩ := limelightlaw05_SlotsNone.mono_l k
  unfold limelightlaw05_SlotsNone.f
  repeat' first
      | (with_reducible exact ih0 _ _)
      | (with_reducible exact ih1 _ _)
      | (with_reducible exact ih2 _ _ _)
      | (with_reducible exact ih3 _ _ _)
      | (with_reducible exact ih4 _ _ _)
      | (with_reducible exact limelightref03_Top.mono _ _ _)
      | (with_reducible exact LeO.refl _)
      | (with_reducible exact LeO.none _)
      | (with_reducible refine LeO.ite ?_ ?_)
      | (with_reducible refine LeO.bind ?_ (fun _ => ?_))
      | exact ih0 _ _
      | exact ih1 _ _
      | exact ih2 _ _ _
      | exact ih3 _ _ _
      | exact ih4 _ _ _
      | exact limelightref03_Top.mono _ _ _
      | exact LeO.none _
      | refine LeO.ite ?_ ?_
      | refine LeO.bind ?_ (fun _ => ?_)
set_option maxHeartbeats 8000000 in
set_option maxRecDepth 100000 in
theorem limelightlaw05_SlotsNone.calls (k : Nat) (A0 : Option Addr) (c0 : Nat) (l0 : List (S35)) (r : Bool) (w : World) (hr0 : Kd.C k35 w A0 l0.length l0) (hc0 : l0.length ≤ c0) (h : limelightlaw05_SlotsNone.f k l0 = some r) :
    Calls Try.prog 8 #[.slice A0 l0.length c0] w fun e w' => e = .returned (.bool r) ∧ Below w.heap.size w w' := by
  have HR0 := Aside0.mk hr0
  have HC0 := Aside0.mk hc0
  clear hr0 hc0
  have HB := Aside0.mk (Below.refl w.heap.size w)
  have H : ((limelightref01_Few.f l0).bind fun t287 => (if t287 = true then (if (l0.length : Int) > 16 then (limelightlaw05_SlotsNone.j0 k l0 true) else ((limelightref01_May.f l0).bind fun t288 => (limelightlaw05_SlotsNone.j0 k l0 (!t288)))) else (limelightlaw05_SlotsNone.j0 k l0 true))) = some r := h
  clear h
  have HC2 := Aside0.mk H
  clear H
  go_enter Try.func8, Try.ntmps8
  go_upto_region 1 with (fail)
  go_cut [18] (fun v18 wc => ∃ (kq : Nat) (x18_1 : Bool), v18 = .bool x18_1 ∧ Aside0 (limelightlaw05_SlotsNone.j0 kq l0 x18_1 = some r) ∧ Aside0 (kq ≤ k) ∧ Aside0 (Below w.heap.size w wc))
  case first =>
    have H := HC2.out
    clear HC2
    replace H := Option.bind_eq_some_iff.mp H
    obtain ⟨t287, A30, H⟩ := H
    replace H : (if t287 = true then (if (l0.length : Int) > 16 then (limelightlaw05_SlotsNone.j0 k l0 true) else ((limelightref01_May.f l0).bind fun t288 => (limelightlaw05_SlotsNone.j0 k l0 (!t288)))) else (limelightlaw05_SlotsNone.j0 k l0 true)) = some r := H
    have A3 := Aside0.mk A30
    clear A30
    by_cases c4 : t287 = true
    · subst c4
      have H1 : (if (l0.length : Int) > 16 then (limelightlaw05_SlotsNone.j0 k l0 true) else ((limelightref01_May.f l0).bind fun t288 => (limelightlaw05_SlotsNone.j0 k l0 (!t288)))) = some r := by rw [if_pos rfl] at H; exact H
      clear H
      have H := H1
      clear H1
      by_cases c5 : (l0.length : Int) > 16
      · rw [if_pos c5] at H
        have c5b0 : decide (16 < (l0.length : Int)) = true := decide_eq_true c5
        have c5b1 : decide (16 < l0.length) = true := decide_eq_true (by omega)
        clear c5
        (first | rw [c5b0] | (simp only [i64_w, i32_w]; rw [c5b0]) | skip)
        have H' := Aside0.mk H
        clear H
        go_wp2_with (first | ((with_reducible refine gate_callee (f := 9) rfl ?_); refine goesL_ (some 7) rfl rfl Try.func9 (by kernel_rfl) rfl #[.slice A0 l0.length c0] rfl (by (try simp only [List.map_toArray, List.map_cons, List.map_nil]); first | done | rfl | (simp only [List.length_drop, List.length_take]; rfl)) ?_; (with_reducible refine (limelightref01_Few.calls _ _ l0 true _ ?side1 ?side2 A3.out).mono ?_); (case side1 => repeat (first | exact (Kd.C_below HR0.out HB.out) | (with_reducible refine Kd.C_alloc ?_ _) | (with_reducible refine Kd.C_drewN ?_ _) | (with_reducible refine Kd.C_drew ?_))); (case side2 => exact HC0.out); rintro e w6 ⟨rfl, hb⟩; refine ⟨_, rfl, ?_⟩; have n0_ := Aside0.mk (below_step (by repeat (first | (with_reducible first | exact HB.out | apply below_alloc | apply pw_below_drewN | apply below_drew1) | exact HB.out)) hb); clear HB; have HB := n0_; clear n0_; (try clear hb); (try clear hb2); (try clear hk); (try clear hi)))
        go_meet
        case rel => exact ⟨_, (true), (by first | rfl | (simp; done) | (simp [*]; done)), H', ⟨by first | omega | exact Nat.le_refl _⟩, ⟨by repeat (first | (with_reducible first | exact HB.out | apply below_alloc | apply pw_below_drewN | apply below_drew1) | exact HB.out)⟩⟩
      · rw [if_neg c5] at H
        have c5b0 : decide (16 < (l0.length : Int)) = false := decide_eq_false c5
        have c5b1 : decide (16 < l0.length) = false := decide_eq_false (by omega)
        clear c5
        (first | rw [c5b0] | (simp only [i64_w, i32_w]; rw [c5b0]) | skip)
        replace H := Option.bind_eq_some_iff.mp H
        obtain ⟨t288, A70, H⟩ := H
        replace H : (limelightlaw05_SlotsNone.j0 k l0 (!t288)) = some r := H
        have A7 := Aside0.mk A70
        clear A70
        have H' := Aside0.mk H
        clear H
        go_wp2_with (first | ((with_reducible refine gate_callee (f := 9) rfl ?_); refine goesL_ (some 7) rfl rfl Try.func9 (by kernel_rfl) rfl #[.slice A0 l0.length c0] rfl (by (try simp only [List.map_toArray, List.map_cons, List.map_nil]); first | done | rfl | (simp only [List.length_drop, List.length_take]; rfl)) ?_; (with_reducible refine (limelightref01_Few.calls _ _ l0 true _ ?side1 ?side2 A3.out).mono ?_); (case side1 => repeat (first | exact (Kd.C_below HR0.out HB.out) | (with_reducible refine Kd.C_alloc ?_ _) | (with_reducible refine Kd.C_drewN ?_ _) | (with_reducible refine Kd.C_drew ?_))); (case side2 => exact HC0.out); rintro e w8 ⟨rfl, hb⟩; refine ⟨_, rfl, ?_⟩; have n0_ := Aside0.mk (below_step (by repeat (first | (with_reducible first | exact HB.out | apply below_alloc | apply pw_below_drewN | apply below_drew1) | exact HB.out)) hb); clear HB; have HB := n0_; clear n0_; (try clear hb); (try clear hb2); (try clear hk); (try clear hi)) | (go_at_call 19; (with_reducible refine (limelightref01_May.calls _ _ l0 t288 _ ?side1 ?side2 A7.out).mono ?_); (case side1 => repeat (first | exact (Kd.C_below HR0.out HB.out) | (with_reducible refine Kd.C_alloc ?_ _) | (with_reducible refine Kd.C_drewN ?_ _) | (with_reducible refine Kd.C_drew ?_))); (case side2 => exact HC0.out); rintro e w9 ⟨rfl, hb⟩; have n0_ := Aside0.mk (below_step (by repeat (first | (with_reducible first | exact HB.out | apply below_alloc | apply pw_below_drewN | apply below_drew1) | exact HB.out)) hb); clear HB; have HB := n0_; clear n0_; (try clear hb); (try clear hb2); (try clear hk); (try clear hi)))
        go_meet
        case rel => exact ⟨_, (!t288), (by first | rfl | (simp; done) | (simp [*]; done)), H', ⟨by first | omega | exact Nat.le_refl _⟩, ⟨by repeat (first | (with_reducible first | exact HB.out | apply below_alloc | apply pw_below_drewN | apply below_drew1) | exact HB.out)⟩⟩
    · replace c4 := Bool.eq_false_iff.mpr c4
      subst c4
      have H1 : (limelightlaw05_SlotsNone.j0 k l0 true) = some r := by rw [if_neg (show ¬ (false = true) by decide)] at H; exact H
      clear H
      have H := H1
      clear H1
      have H' := Aside0.mk H
      clear H
      go_wp2_with (first | ((with_reducible refine gate_callee (f := 9) rfl ?_); refine goesL_ (some 7) rfl rfl Try.func9 (by kernel_rfl) rfl #[.slice A0 l0.length c0] rfl (by (try simp only [List.map_toArray, List.map_cons, List.map_nil]); first | done | rfl | (simp only [List.length_drop, List.length_take]; rfl)) ?_; (with_reducible refine (limelightref01_Few.calls _ _ l0 false _ ?side1 ?side2 A3.out).mono ?_); (case side1 => repeat (first | exact (Kd.C_below HR0.out HB.out) | (with_reducible refine Kd.C_alloc ?_ _) | (with_reducible refine Kd.C_drewN ?_ _) | (with_reducible refine Kd.C_drew ?_))); (case side2 => exact HC0.out); rintro e w10 ⟨rfl, hb⟩; refine ⟨_, rfl, ?_⟩; have n0_ := Aside0.mk (below_step (by repeat (first | (with_reducible first | exact HB.out | apply below_alloc | apply pw_below_drewN | apply below_drew1) | exact HB.out)) hb); clear HB; have HB := n0_; clear n0_; (try clear hb); (try clear hb2); (try clear hk); (try clear hi)))
      go_meet
      case rel => exact ⟨_, (true), (by first | rfl | (simp; done) | (simp [*]; done)), H', ⟨by first | omega | exact Nat.le_refl _⟩, ⟨by repeat (first | (with_reducible first | exact HB.out | apply below_alloc | apply pw_below_drewN | apply below_drew1) | exact HB.out)⟩⟩
  case rest =>
    clear HC2
    try clear p2
    try clear c4
    try clear c5
    try clear c5b0
    try clear c5b1
    try clear c8
    try clear c9
    obtain ⟨kq, x18_1, rfl, HA, HJ1, HB⟩ := hcut
    cases kq with
    | zero => exact absurd HA.out (by simp [limelightlaw05_SlotsNone.j0])
    | succ kj1 =>
      have H := HA.out
      clear HA
      simp only [limelightlaw05_SlotsNone.j0] at H
      by_cases c11 : x18_1 = true
      · subst c11
        have H1 : ((limelightlaw05_live.f).bind fun t289 => (some t289)) = some r := by rw [if_pos rfl] at H; exact H
        clear H
        have H := H1
        clear H1
        replace H := Option.bind_eq_some_iff.mp H
        obtain ⟨t289, A120, H⟩ := H
        replace H : (some t289) = some r := H
        have A12 := Aside0.mk A120
        clear A120
        obtain rfl := Option.some.inj H
        go_wp2_with (first | ((with_reducible refine gate_callee (f := 10) rfl ?_); refine goesL_ (some 19) rfl rfl Try.func10 (by kernel_rfl) rfl #[] rfl (by (try simp only [List.map_toArray, List.map_cons, List.map_nil]); first | done | rfl | (simp only [List.length_drop, List.length_take]; rfl)) ?_; (with_reducible refine (limelightlaw05_live.calls  t289 _ A12.out).mono ?_); rintro e w13 ⟨rfl, hb⟩; refine ⟨_, rfl, ?_⟩; have n0_ := Aside0.mk (below_step (by repeat (first | (with_reducible first | exact HB.out | apply below_alloc | apply pw_below_drewN | apply below_drew1) | exact HB.out)) hb); clear HB; have HB := n0_; clear n0_; (try clear hb); (try clear hb2); (try clear hk); (try clear hi)))
        go_ret
        exact ⟨by first | rfl | (simp [errW_none, errW_some] <;> rfl) | (simp [*, errW_none, errW_some] <;> rfl), by repeat (first | (with_reducible first | exact HB.out | apply below_alloc | apply pw_below_drewN | apply below_drew1) | exact HB.out)⟩
      · replace c11 := Bool.eq_false_iff.mpr c11
        subst c11
        have H1 : (limelightlaw05_SlotsNone.l0 kj1 l0 0) = some r := by rw [if_neg (show ¬ (false = true) by decide)] at H; exact H
        clear H
        have H := H1
        clear H1
        have H' := Aside0.mk H
        clear H
        go_wp2
        go_loopg [3] kj1 (fun kq v3 w' => ∃ (x3_2 : Int), v3 = .int .i64 x3_2 ∧ Aside0 (limelightlaw05_SlotsNone.l0 kq l0 x3_2 = some r) ∧ Aside0 (kq ≤ kj1) ∧ Aside0 (Below w.heap.size w w'))
        case atStart => exact ⟨(0), (by first | rfl | (simp; done) | (simp [*]; done)), H', ⟨Nat.le_refl _⟩, ⟨by repeat (first | (with_reducible first | exact HB.out | apply below_alloc | apply pw_below_drewN | apply below_drew1) | exact HB.out)⟩⟩
        case round =>
          clear H'
          try clear c1
          try clear p2
          try clear c4
          try clear c5
          try clear c5b0
          try clear c5b1
          try clear c8
          try clear c9
          try clear c10
          try clear c11
          try clear p2
          obtain ⟨x3_2, rfl, HA, HK2, HB⟩ := hrel
          cases gk with
          | zero => exact absurd HA.out (by simp [limelightlaw05_SlotsNone.l0])
          | succ k2 =>
            have H := HA.out
            clear HA
            simp only [limelightlaw05_SlotsNone.l0] at H
            by_cases c14 : x3_2 < (l0.length : Int)
            · rw [if_pos c14] at H
              have c14b0 : decide (x3_2 < (l0.length : Int)) = true := decide_eq_true c14
              clear c14
              replace H := Option.bind_eq_some_iff.mp H
              obtain ⟨t291, A150, H⟩ := H
              replace H : (if 0 ≤ t291 then (if t291 < (l0.length : Int) then (if (((rd_T35 l0 t291).f0) = 3) then (if 0 ≤ x3_2 then (if ((rd_T35 l0 x3_2).f1) = 3 then (limelightlaw05_SlotsNone.j2 k2 l0 x3_2 false) else ((slots_Assigned.f l0 x3_2).bind fun t294 => (limelightlaw05_SlotsNone.j2 k2 l0 x3_2 (decide ((t294.length : Int) > 0))))) else (none)) else ((slots_Assigned.f l0 x3_2).bind fun t297 => (limelightlaw05_SlotsNone.j2 k2 l0 x3_2 (decide ((t297.length : Int) > 0))))) else (none)) else (none)) = some r := H
              have A15 := Aside0.mk A150
              clear A150
              by_cases c16 : 0 ≤ t291
              · rw [if_pos c16] at H
                have c16b0 : decide (0 ≤ t291) = true := decide_eq_true c16
                clear c16
                by_cases c17 : t291 < (l0.length : Int)
                · rw [if_pos c17] at H
                  have c17b0 : decide (t291 < (l0.length : Int)) = true := decide_eq_true c17
                  clear c17
                  have HC18 := Aside0.mk H
                  clear H
                  go_upto_region 7 with (first | ((with_reducible refine gate_callee (f := 21) rfl ?_); refine goesL_ (some 29) rfl rfl Try.func21 (by kernel_rfl) rfl #[.slice A0 l0.length c0, .int .i64 x3_2] rfl (by (try simp only [List.map_toArray, List.map_cons, List.map_nil]); first | done | rfl | (simp only [List.length_drop, List.length_take]; rfl)) ?_; (with_reducible refine (limelightref03_Top.calls k2 _ _ l0 x3_2 t291 _ ?side1 ?side2 A15.out).mono ?_); (case side1 => repeat (first | exact (Kd.C_below HR0.out HB.out) | (with_reducible refine Kd.C_alloc ?_ _) | (with_reducible refine Kd.C_drewN ?_ _) | (with_reducible refine Kd.C_drew ?_))); (case side2 => exact HC0.out); rintro e w19 ⟨rfl, hb⟩; refine ⟨_, rfl, ?_⟩; have n0_ := Aside0.mk (below_step (by repeat (first | (with_reducible first | exact HB.out | apply below_alloc | apply pw_below_drewN | apply below_drew1) | exact HB.out)) hb); clear HB; have HB := n0_; clear n0_; (try clear hb); (try clear hb2); (try clear hk); (try clear hi); have p292 : 0 ≤ (t291 : Int) := of_decide_eq_true (by first | (with_reducible assumption) | assumption); have q292 : t291 < (l0.length : Int) := of_decide_eq_true (by first | (with_reducible assumption) | assumption); obtain ⟨ad292, A292_3, c292_3, A292_6, c292_6, e292, hx292_0, hx292_1, hx292_2, hx292_3, hx292_4, hx292_5, hx292_6, hl292_3, hi292_3, hl292_6, hi292_6⟩ := at_T35 HR0.out t291 p292 q292; cases e292; replace hx292_0 := (HB.out.cell (World.block_lt_of_cell? w _ hx292_0)).trans hx292_0; replace hx292_1 := (HB.out.cell (World.block_lt_of_cell? w _ hx292_1)).trans hx292_1; replace hx292_2 := (HB.out.cell (World.block_lt_of_cell? w _ hx292_2)).trans hx292_2; replace hx292_3 := (HB.out.cell (World.block_lt_of_cell? w _ hx292_3)).trans hx292_3; replace hx292_4 := (HB.out.cell (World.block_lt_of_cell? w _ hx292_4)).trans hx292_4; replace hx292_5 := (HB.out.cell (World.block_lt_of_cell? w _ hx292_5)).trans hx292_5; replace hx292_6 := (HB.out.cell (World.block_lt_of_cell? w _ hx292_6)).trans hx292_6; have HR292_3 := Aside0.mk hi292_3; have HC292_3 := Aside0.mk hl292_3; clear hi292_3 hl292_3; have HR292_6 := Aside0.mk hi292_6; have HC292_6 := Aside0.mk hl292_6; clear hi292_6 hl292_6; replace p292 := eq_true p292; replace q292 := eq_true q292))
                  (try simp only [Act.put, List.setIfInBounds_toArray, List.set_cons_zero, List.set_cons_succ])
                  generalize hsq_c20 : (((rd_T35 l0 t291).f0) == 3) = bsq_c20
                  go_cut [50] (fun v50 wc => ∃ (kq : Nat) (x50_17 : Bool), v50 = .bool x50_17 ∧ Aside0 (limelightlaw05_SlotsNone.j2 kq l0 x3_2 x50_17 = some r) ∧ Aside0 (kq ≤ k2) ∧ Aside0 (Below w.heap.size w wc))
                  case first =>
                    have H := HC18.out
                    clear HC18
                    by_cases c20 : (((rd_T35 l0 t291).f0) = 3)
                    · rw [if_pos c20] at H
                      have c20b0 : (((rd_T35 l0 t291).f0) == 3) = true := beq_iff_eq.mpr c20
                      obtain rfl : bsq_c20 = true := hsq_c20.symm.trans c20b0
                      have c20b1 : (((rd_T35 l0 t291).f0) != 3) = false := bne_eq_false_iff_eq.mpr c20
                      clear c20
                      (first | rw [c20b0] | (simp only [i64_w, i32_w]; rw [c20b0]) | skip)
                      by_cases c21 : 0 ≤ x3_2
                      · rw [if_pos c21] at H
                        have c21b0 : decide (0 ≤ x3_2) = true := decide_eq_true c21
                        clear c21
                        by_cases c22 : ((rd_T35 l0 x3_2).f1) = 3
                        · rw [if_pos c22] at H
                          have c22b0 : (((rd_T35 l0 x3_2).f1) == 3) = true := beq_iff_eq.mpr c22
                          have c22b1 : (((rd_T35 l0 x3_2).f1) != 3) = false := bne_eq_false_iff_eq.mpr c22
                          clear c22
                          have H' := Aside0.mk H
                          clear H
                          have p293 : 0 ≤ (x3_2 : Int) := of_decide_eq_true (by first | (with_reducible assumption) | assumption)
                          have q293 : x3_2 < (l0.length : Int) := of_decide_eq_true (by first | (with_reducible assumption) | assumption)
                          obtain ⟨ad293, A293_3, c293_3, A293_6, c293_6, e293, hx293_0, hx293_1, hx293_2, hx293_3, hx293_4, hx293_5, hx293_6, hl293_3, hi293_3, hl293_6, hi293_6⟩ := at_T35 HR0.out x3_2 p293 q293
                          obtain rfl : ad292 = ad293 := (by injection e293)
                          replace hx293_0 := (HB.out.cell (World.block_lt_of_cell? w _ hx293_0)).trans hx293_0
                          replace hx293_1 := (HB.out.cell (World.block_lt_of_cell? w _ hx293_1)).trans hx293_1
                          replace hx293_2 := (HB.out.cell (World.block_lt_of_cell? w _ hx293_2)).trans hx293_2
                          replace hx293_3 := (HB.out.cell (World.block_lt_of_cell? w _ hx293_3)).trans hx293_3
                          replace hx293_4 := (HB.out.cell (World.block_lt_of_cell? w _ hx293_4)).trans hx293_4
                          replace hx293_5 := (HB.out.cell (World.block_lt_of_cell? w _ hx293_5)).trans hx293_5
                          replace hx293_6 := (HB.out.cell (World.block_lt_of_cell? w _ hx293_6)).trans hx293_6
                          have HR293_3 := Aside0.mk hi293_3
                          have HC293_3 := Aside0.mk hl293_3
                          clear hi293_3 hl293_3
                          have HR293_6 := Aside0.mk hi293_6
                          have HC293_6 := Aside0.mk hl293_6
                          clear hi293_6 hl293_6
                          replace p293 := eq_true p293
                          replace q293 := eq_true q293
                          go_wp2
                          go_meet
                          case rel => exact ⟨_, (false), (by first | rfl | (simp; done) | (simp [*]; done)), H', ⟨by have := HJ1.out; have := HK2.out; first | omega | exact Nat.le_refl _⟩, ⟨by repeat (first | (with_reducible first | exact HB.out | apply below_alloc | apply pw_below_drewN | apply below_drew1) | exact HB.out)⟩⟩
                        · rw [if_neg c22] at H
                          have c22b0 : (((rd_T35 l0 x3_2).f1) == 3) = false := beq_eq_false_iff_ne.mpr c22
                          have c22b1 : (((rd_T35 l0 x3_2).f1) != 3) = true := bne_iff_ne.mpr c22
                          replace H := Option.bind_eq_some_iff.mp H
                          obtain ⟨t294, A230, H⟩ := H
                          replace H : (limelightlaw05_SlotsNone.j2 k2 l0 x3_2 (decide ((t294.length : Int) > 0))) = some r := H
                          have A23 := Aside0.mk A230
                          clear A230
                          have H' := Aside0.mk H
                          clear H
                          have p293 : 0 ≤ (x3_2 : Int) := of_decide_eq_true (by first | (with_reducible assumption) | assumption)
                          have q293 : x3_2 < (l0.length : Int) := of_decide_eq_true (by first | (with_reducible assumption) | assumption)
                          obtain ⟨ad293, A293_3, c293_3, A293_6, c293_6, e293, hx293_0, hx293_1, hx293_2, hx293_3, hx293_4, hx293_5, hx293_6, hl293_3, hi293_3, hl293_6, hi293_6⟩ := at_T35 HR0.out x3_2 p293 q293
                          obtain rfl : ad292 = ad293 := (by injection e293)
                          replace hx293_0 := (HB.out.cell (World.block_lt_of_cell? w _ hx293_0)).trans hx293_0
                          replace hx293_1 := (HB.out.cell (World.block_lt_of_cell? w _ hx293_1)).trans hx293_1
                          replace hx293_2 := (HB.out.cell (World.block_lt_of_cell? w _ hx293_2)).trans hx293_2
                          replace hx293_3 := (HB.out.cell (World.block_lt_of_cell? w _ hx293_3)).trans hx293_3
                          replace hx293_4 := (HB.out.cell (World.block_lt_of_cell? w _ hx293_4)).trans hx293_4
                          replace hx293_5 := (HB.out.cell (World.block_lt_of_cell? w _ hx293_5)).trans hx293_5
                          replace hx293_6 := (HB.out.cell (World.block_lt_of_cell? w _ hx293_6)).trans hx293_6
                          have HR293_3 := Aside0.mk hi293_3
                          have HC293_3 := Aside0.mk hl293_3
                          clear hi293_3 hl293_3
                          have HR293_6 := Aside0.mk hi293_6
                          have HC293_6 := Aside0.mk hl293_6
                          clear hi293_6 hl293_6
                          replace p293 := eq_true p293
                          replace q293 := eq_true q293
                          go_wp2_with (first | (go_at_call 13; (with_reducible refine (slots_Assigned.calls _ _ l0 x3_2 t294 _ ?side1 ?side2 A23.out).mono ?_); (case side1 => repeat (first | exact (Kd.C_below HR0.out HB.out) | (with_reducible refine Kd.C_alloc ?_ _) | (with_reducible refine Kd.C_drewN ?_ _) | (with_reducible refine Kd.C_drew ?_))); (case side2 => exact HC0.out); rintro e w24 ⟨v295, rfl, ho0, hb⟩; have n0_ := Aside0.mk (Kd.R_lower ho0 (below_size (by repeat (first | (with_reducible first | exact HB.out | apply below_alloc | apply pw_below_drewN | apply below_drew1) | exact HB.out)))); have n1_ := Aside0.mk (below_step (by repeat (first | (with_reducible first | exact HB.out | apply below_alloc | apply pw_below_drewN | apply below_drew1) | exact HB.out)) hb); clear HB; have HO296 := n0_; have HB := n1_; clear n0_ n1_; (try clear hb); (try clear hb2); (try clear hk); (try clear hi); (try clear ho0); obtain ⟨Ao25, co25, eo25⟩ := Kd.R_slice HO296.out; subst eo25))
                          go_meet
                          case rel => exact ⟨_, (decide ((t294.length : Int) > 0)), (by first | rfl | (simp; done) | (simp [*]; done)), H', ⟨by have := HJ1.out; have := HK2.out; first | omega | exact Nat.le_refl _⟩, ⟨by repeat (first | (with_reducible first | exact HB.out | apply below_alloc | apply pw_below_drewN | apply below_drew1) | exact HB.out)⟩⟩
                      · rw [if_neg c21] at H
                        exact absurd H (by simp)
                    · rw [if_neg c20] at H
                      have c20b0 : (((rd_T35 l0 t291).f0) == 3) = false := beq_eq_false_iff_ne.mpr c20
                      obtain rfl : bsq_c20 = false := hsq_c20.symm.trans c20b0
                      have c20b1 : (((rd_T35 l0 t291).f0) != 3) = true := bne_iff_ne.mpr c20
                      (first | rw [c20b0] | (simp only [i64_w, i32_w]; rw [c20b0]) | skip)
                      replace H := Option.bind_eq_some_iff.mp H
                      obtain ⟨t297, A260, H⟩ := H
                      replace H : (limelightlaw05_SlotsNone.j2 k2 l0 x3_2 (decide ((t297.length : Int) > 0))) = some r := H
                      have A26 := Aside0.mk A260
                      clear A260
                      have H' := Aside0.mk H
                      clear H
                      go_wp2_with (first | (go_at_call 13; (with_reducible refine (slots_Assigned.calls _ _ l0 x3_2 t297 _ ?side1 ?side2 A26.out).mono ?_); (case side1 => repeat (first | exact (Kd.C_below HR0.out HB.out) | (with_reducible refine Kd.C_alloc ?_ _) | (with_reducible refine Kd.C_drewN ?_ _) | (with_reducible refine Kd.C_drew ?_))); (case side2 => exact HC0.out); rintro e w27 ⟨v298, rfl, ho0, hb⟩; have n0_ := Aside0.mk (Kd.R_lower ho0 (below_size (by repeat (first | (with_reducible first | exact HB.out | apply below_alloc | apply pw_below_drewN | apply below_drew1) | exact HB.out)))); have n1_ := Aside0.mk (below_step (by repeat (first | (with_reducible first | exact HB.out | apply below_alloc | apply pw_below_drewN | apply below_drew1) | exact HB.out)) hb); clear HB; have HO299 := n0_; have HB := n1_; clear n0_ n1_; (try clear hb); (try clear hb2); (try clear hk); (try clear hi); (try clear ho0); obtain ⟨Ao28, co28, eo28⟩ := Kd.R_slice HO299.out; subst eo28))
                      go_meet
                      case rel => exact ⟨_, (decide ((t297.length : Int) > 0)), (by first | rfl | (simp; done) | (simp [*]; done)), H', ⟨by have := HJ1.out; have := HK2.out; first | omega | exact Nat.le_refl _⟩, ⟨by repeat (first | (with_reducible first | exact HB.out | apply below_alloc | apply pw_below_drewN | apply below_drew1) | exact HB.out)⟩⟩
                  case rest =>
                    clear HC18
                    try clear c1
                    try clear c2
                    try clear p2
                    try clear q2
                    try clear hx2
                    try clear c4
                    try clear c5
                    try clear c5b0
                    try clear c5b1
                    try clear c8
                    try clear c9
                    try clear c10
                    try clear c11
                    try clear c14
                    try clear c14b0
                    try clear c16
                    try clear c16b0
                    try clear c17
                    try clear c17b0
                    try clear c20
                    try clear c20b0
                    try clear c20b1
                    try clear c21
                    try clear c21b0
                    try clear c22
                    try clear c22b0
                    try clear c22b1
                    try clear hx292_0
                    try clear hx292_1
                    try clear hx292_2
                    try clear hx292_3
                    try clear hx292_4
                    try clear hx292_5
                    try clear hx292_6
                    try clear hx293_0
                    try clear hx293_1
                    try clear hx293_2
                    try clear hx293_3
                    try clear hx293_4
                    try clear hx293_5
                    try clear hx293_6
                    try clear p2
                    try clear p292
                    try clear p293
                    try clear q292
                    try clear q293
                    obtain ⟨kq, x50_17, rfl, HA, HJ17, HB⟩ := hcut
                    cases kq with
                    | zero => exact absurd HA.out (by simp [limelightlaw05_SlotsNone.j2])
                    | succ kj17 =>
                      have H := HA.out
                      clear HA
                      simp only [limelightlaw05_SlotsNone.j2] at H
                      by_cases c29 : x50_17 = true
                      · subst c29
                        have H1 : (none) = some r := by rw [if_pos rfl] at H; exact H
                        clear H
                        have H := H1
                        clear H1
                        exact absurd H (by simp)
                      · replace c29 := Bool.eq_false_iff.mpr c29
                        subst c29
                        have H1 : (if 0 ≤ x3_2 then (if x3_2 < (l0.length : Int) then (if ((rd_T35 l0 x3_2).f5) = (-1) then (limelightlaw05_SlotsNone.j3 kj17 l0 x3_2 true) else ((slots_All.f l0 ((rd_T35 l0 x3_2).f5)).bind fun t302 => (limelightlaw05_SlotsNone.j3 kj17 l0 x3_2 (decide ((t302.length : Int) > 0))))) else (none)) else (none)) = some r := by rw [if_neg (show ¬ (false = true) by decide)] at H; exact H
                        clear H
                        have H := H1
                        clear H1
                        have HC30 := Aside0.mk H
                        clear H
                        go_upto_region 9 with (fail)
                        go_cut [67] (fun v67 wc => ∃ (kq : Nat) (x67_29 : Bool), v67 = .bool x67_29 ∧ Aside0 (limelightlaw05_SlotsNone.j3 kq l0 x3_2 x67_29 = some r) ∧ Aside0 (kq ≤ kj17) ∧ Aside0 (Below w.heap.size w wc))
                        case first =>
                          have H := HC30.out
                          clear HC30
                          by_cases c31 : 0 ≤ x3_2
                          · rw [if_pos c31] at H
                            have c31b0 : decide (0 ≤ x3_2) = true := decide_eq_true c31
                            clear c31
                            (first | rw [c31b0] | (simp only [i64_w, i32_w]; rw [c31b0]) | skip)
                            by_cases c32 : x3_2 < (l0.length : Int)
                            · rw [if_pos c32] at H
                              have c32b0 : decide (x3_2 < (l0.length : Int)) = true := decide_eq_true c32
                              clear c32
                              by_cases c33 : ((rd_T35 l0 x3_2).f5) = (-1)
                              · rw [if_pos c33] at H
                                have c33b0 : (((rd_T35 l0 x3_2).f5) == (-1)) = true := beq_iff_eq.mpr c33
                                have c33b1 : (((rd_T35 l0 x3_2).f5) != (-1)) = false := bne_eq_false_iff_eq.mpr c33
                                clear c33
                                have H' := Aside0.mk H
                                clear H
                                have p300 : 0 ≤ (x3_2 : Int) := of_decide_eq_true (by first | (with_reducible assumption) | assumption)
                                have q300 : x3_2 < (l0.length : Int) := of_decide_eq_true (by first | (with_reducible assumption) | assumption)
                                obtain ⟨ad300, A300_3, c300_3, A300_6, c300_6, e300, hx300_0, hx300_1, hx300_2, hx300_3, hx300_4, hx300_5, hx300_6, hl300_3, hi300_3, hl300_6, hi300_6⟩ := at_T35 HR0.out x3_2 p300 q300
                                obtain rfl : ad292 = ad300 := (by injection e300)
                                replace hx300_0 := (HB.out.cell (World.block_lt_of_cell? w _ hx300_0)).trans hx300_0
                                replace hx300_1 := (HB.out.cell (World.block_lt_of_cell? w _ hx300_1)).trans hx300_1
                                replace hx300_2 := (HB.out.cell (World.block_lt_of_cell? w _ hx300_2)).trans hx300_2
                                replace hx300_3 := (HB.out.cell (World.block_lt_of_cell? w _ hx300_3)).trans hx300_3
                                replace hx300_4 := (HB.out.cell (World.block_lt_of_cell? w _ hx300_4)).trans hx300_4
                                replace hx300_5 := (HB.out.cell (World.block_lt_of_cell? w _ hx300_5)).trans hx300_5
                                replace hx300_6 := (HB.out.cell (World.block_lt_of_cell? w _ hx300_6)).trans hx300_6
                                have HR300_3 := Aside0.mk hi300_3
                                have HC300_3 := Aside0.mk hl300_3
                                clear hi300_3 hl300_3
                                have HR300_6 := Aside0.mk hi300_6
                                have HC300_6 := Aside0.mk hl300_6
                                clear hi300_6 hl300_6
                                replace p300 := eq_true p300
                                replace q300 := eq_true q300
                                go_wp2
                                go_meet
                                case rel => exact ⟨_, (true), (by first | rfl | (simp; done) | (simp [*]; done)), H', ⟨by have := HJ1.out; have := HK2.out; have := HJ17.out; first | omega | exact Nat.le_refl _⟩, ⟨by repeat (first | (with_reducible first | exact HB.out | apply below_alloc | apply pw_below_drewN | apply below_drew1) | exact HB.out)⟩⟩
                              · rw [if_neg c33] at H
                                have c33b0 : (((rd_T35 l0 x3_2).f5) == (-1)) = false := beq_eq_false_iff_ne.mpr c33
                                have c33b1 : (((rd_T35 l0 x3_2).f5) != (-1)) = true := bne_iff_ne.mpr c33
                                replace H := Option.bind_eq_some_iff.mp H
                                obtain ⟨t302, A340, H⟩ := H
                                replace H : (limelightlaw05_SlotsNone.j3 kj17 l0 x3_2 (decide ((t302.length : Int) > 0))) = some r := H
                                have A34 := Aside0.mk A340
                                clear A340
                                have H' := Aside0.mk H
                                clear H
                                have p300 : 0 ≤ (x3_2 : Int) := of_decide_eq_true (by first | (with_reducible assumption) | assumption)
                                have q300 : x3_2 < (l0.length : Int) := of_decide_eq_true (by first | (with_reducible assumption) | assumption)
                                obtain ⟨ad300, A300_3, c300_3, A300_6, c300_6, e300, hx300_0, hx300_1, hx300_2, hx300_3, hx300_4, hx300_5, hx300_6, hl300_3, hi300_3, hl300_6, hi300_6⟩ := at_T35 HR0.out x3_2 p300 q300
                                obtain rfl : ad292 = ad300 := (by injection e300)
                                replace hx300_0 := (HB.out.cell (World.block_lt_of_cell? w _ hx300_0)).trans hx300_0
                                replace hx300_1 := (HB.out.cell (World.block_lt_of_cell? w _ hx300_1)).trans hx300_1
                                replace hx300_2 := (HB.out.cell (World.block_lt_of_cell? w _ hx300_2)).trans hx300_2
                                replace hx300_3 := (HB.out.cell (World.block_lt_of_cell? w _ hx300_3)).trans hx300_3
                                replace hx300_4 := (HB.out.cell (World.block_lt_of_cell? w _ hx300_4)).trans hx300_4
                                replace hx300_5 := (HB.out.cell (World.block_lt_of_cell? w _ hx300_5)).trans hx300_5
                                replace hx300_6 := (HB.out.cell (World.block_lt_of_cell? w _ hx300_6)).trans hx300_6
                                have HR300_3 := Aside0.mk hi300_3
                                have HC300_3 := Aside0.mk hl300_3
                                clear hi300_3 hl300_3
                                have HR300_6 := Aside0.mk hi300_6
                                have HC300_6 := Aside0.mk hl300_6
                                clear hi300_6 hl300_6
                                replace p300 := eq_true p300
                                replace q300 := eq_true q300
                                have p301 : 0 ≤ (x3_2 : Int) := of_decide_eq_true (by first | (with_reducible assumption) | assumption)
                                have q301 : x3_2 < (l0.length : Int) := of_decide_eq_true (by first | (with_reducible assumption) | assumption)
                                obtain ⟨ad301, A301_3, c301_3, A301_6, c301_6, e301, hx301_0, hx301_1, hx301_2, hx301_3, hx301_4, hx301_5, hx301_6, hl301_3, hi301_3, hl301_6, hi301_6⟩ := at_T35 HR0.out x3_2 p301 q301
                                obtain rfl : ad292 = ad301 := (by injection e301)
                                replace hx301_0 := (HB.out.cell (World.block_lt_of_cell? w _ hx301_0)).trans hx301_0
                                replace hx301_1 := (HB.out.cell (World.block_lt_of_cell? w _ hx301_1)).trans hx301_1
                                replace hx301_2 := (HB.out.cell (World.block_lt_of_cell? w _ hx301_2)).trans hx301_2
                                replace hx301_3 := (HB.out.cell (World.block_lt_of_cell? w _ hx301_3)).trans hx301_3
                                replace hx301_4 := (HB.out.cell (World.block_lt_of_cell? w _ hx301_4)).trans hx301_4
                                replace hx301_5 := (HB.out.cell (World.block_lt_of_cell? w _ hx301_5)).trans hx301_5
                                replace hx301_6 := (HB.out.cell (World.block_lt_of_cell? w _ hx301_6)).trans hx301_6
                                have HR301_3 := Aside0.mk hi301_3
                                have HC301_3 := Aside0.mk hl301_3
                                clear hi301_3 hl301_3
                                have HR301_6 := Aside0.mk hi301_6
                                have HC301_6 := Aside0.mk hl301_6
                                clear hi301_6 hl301_6
                                replace p301 := eq_true p301
                                replace q301 := eq_true q301
                                have ea_ := Option.some.inj (hx300_3.symm.trans hx301_3)
                                injection ea_ with ea_ en_ ec_
                                subst ea_
                                subst ec_
                                clear en_
                                have ea_ := Option.some.inj (hx300_6.symm.trans hx301_6)
                                injection ea_ with ea_ en_ ec_
                                subst ea_
                                subst ec_
                                clear en_
                                go_wp2_with (first | (go_at_call 14; (with_reducible refine (slots_All.calls _ _ l0 ((rd_T35 l0 x3_2).f5) t302 _ ?side1 ?side2 A34.out).mono ?_); (case side1 => repeat (first | exact (Kd.C_below HR0.out HB.out) | (with_reducible refine Kd.C_alloc ?_ _) | (with_reducible refine Kd.C_drewN ?_ _) | (with_reducible refine Kd.C_drew ?_))); (case side2 => exact HC0.out); rintro e w35 ⟨v303, rfl, ho0, hb⟩; have n0_ := Aside0.mk (Kd.R_lower ho0 (below_size (by repeat (first | (with_reducible first | exact HB.out | apply below_alloc | apply pw_below_drewN | apply below_drew1) | exact HB.out)))); have n1_ := Aside0.mk (below_step (by repeat (first | (with_reducible first | exact HB.out | apply below_alloc | apply pw_below_drewN | apply below_drew1) | exact HB.out)) hb); clear HB; have HO304 := n0_; have HB := n1_; clear n0_ n1_; (try clear hb); (try clear hb2); (try clear hk); (try clear hi); (try clear ho0); obtain ⟨Ao36, co36, eo36⟩ := Kd.R_slice HO304.out; subst eo36))
                                go_meet
                                case rel => exact ⟨_, (decide ((t302.length : Int) > 0)), (by first | rfl | (simp; done) | (simp [*]; done)), H', ⟨by have := HJ1.out; have := HK2.out; have := HJ17.out; first | omega | exact Nat.le_refl _⟩, ⟨by repeat (first | (with_reducible first | exact HB.out | apply below_alloc | apply pw_below_drewN | apply below_drew1) | exact HB.out)⟩⟩
                            · rw [if_neg c32] at H
                              exact absurd H (by simp)
                          · rw [if_neg c31] at H
                            exact absurd H (by simp)
                        case rest =>
                          clear HC30
                          try clear c1
                          try clear c2
                          try clear p2
                          try clear q2
                          try clear hx2
                          try clear c3
                          try clear p3
                          try clear q3
                          try clear hx3
                          try clear c4
                          try clear c5
                          try clear c5b0
                          try clear c5b1
                          try clear c8
                          try clear c9
                          try clear c10
                          try clear c11
                          try clear c14
                          try clear c14b0
                          try clear c16
                          try clear c16b0
                          try clear c17
                          try clear c17b0
                          try clear c20
                          try clear c20b0
                          try clear c20b1
                          try clear c21
                          try clear c21b0
                          try clear c22
                          try clear c22b0
                          try clear c22b1
                          try clear c29
                          try clear p29
                          try clear q29
                          try clear hx29
                          try clear c30
                          try clear p30
                          try clear q30
                          try clear hx30
                          try clear c31
                          try clear c31b0
                          try clear c32
                          try clear c32b0
                          try clear c33
                          try clear c33b0
                          try clear c33b1
                          try clear hx292_0
                          try clear hx292_1
                          try clear hx292_2
                          try clear hx292_3
                          try clear hx292_4
                          try clear hx292_5
                          try clear hx292_6
                          try clear hx293_0
                          try clear hx293_1
                          try clear hx293_2
                          try clear hx293_3
                          try clear hx293_4
                          try clear hx293_5
                          try clear hx293_6
                          try clear hx300_0
                          try clear hx300_1
                          try clear hx300_2
                          try clear hx300_3
                          try clear hx300_4
                          try clear hx300_5
                          try clear hx300_6
                          try clear hx301_0
                          try clear hx301_1
                          try clear hx301_2
                          try clear hx301_3
                          try clear hx301_4
                          try clear hx301_5
                          try clear hx301_6
                          try clear p2
                          try clear p292
                          try clear p293
                          try clear p300
                          try clear p301
                          try clear q2
                          try clear q292
                          try clear q293
                          try clear q300
                          try clear q301
                          obtain ⟨kq, x67_29, rfl, HA, HJ29, HB⟩ := hcut
                          cases kq with
                          | zero => exact absurd HA.out (by simp [limelightlaw05_SlotsNone.j3])
                          | succ kj29 =>
                            have H := HA.out
                            clear HA
                            simp only [limelightlaw05_SlotsNone.j3] at H
                            by_cases c37 : x67_29 = true
                            · subst c37
                              have H1 : (limelightlaw05_SlotsNone.l0 kj29 l0 (wrap64 (x3_2 + 1))) = some r := by rw [if_pos rfl] at H; exact H
                              clear H
                              have H := H1
                              clear H1
                              have H' := Aside0.mk H
                              clear H
                              go_wp2
                              go_roundg kj29
                              case measure => have := HJ1.out; have := HK2.out; have := HJ17.out; have := HJ29.out; omega
                              case rel => exact ⟨(wrap64 (x3_2 + 1)), (by first | rfl | (simp; done) | (simp [*]; done)), H', ⟨by have := HJ1.out; have := HK2.out; have := HJ17.out; have := HJ29.out; omega⟩, ⟨by repeat (first | (with_reducible first | exact HB.out | apply below_alloc | apply pw_below_drewN | apply below_drew1) | exact HB.out)⟩⟩
                            · replace c37 := Bool.eq_false_iff.mpr c37
                              subst c37
                              have H1 : (limelightlaw05_SlotsNone.l1 kj29 l0 x3_2 0) = some r := by rw [if_neg (show ¬ (false = true) by decide)] at H; exact H
                              clear H
                              have H := H1
                              clear H1
                              have H' := Aside0.mk H
                              clear H
                              go_wp2
                              go_loopg [5] kj29 (fun kq v5 w' => ∃ (x5_5 : Int), v5 = .int .i64 x5_5 ∧ Aside0 (limelightlaw05_SlotsNone.l1 kq l0 x3_2 x5_5 = some r) ∧ Aside0 (kq ≤ kj29) ∧ Aside0 (Below w.heap.size w w'))
                              case atStart => exact ⟨(0), (by first | rfl | (simp; done) | (simp [*]; done)), H', ⟨Nat.le_refl _⟩, ⟨by repeat (first | (with_reducible first | exact HB.out | apply below_alloc | apply pw_below_drewN | apply below_drew1) | exact HB.out)⟩⟩
                              case round =>
                                clear H'
                                try clear c1
                                try clear c2
                                try clear p2
                                try clear q2
                                try clear hx2
                                try clear c3
                                try clear p3
                                try clear q3
                                try clear hx3
                                try clear c4
                                try clear c5
                                try clear c5b0
                                try clear c5b1
                                try clear p6
                                try clear c8
                                try clear c9
                                try clear c10
                                try clear c11
                                try clear c14
                                try clear c14b0
                                try clear c16
                                try clear c16b0
                                try clear c17
                                try clear c17b0
                                try clear c20
                                try clear c20b0
                                try clear c20b1
                                try clear c21
                                try clear c21b0
                                try clear c22
                                try clear c22b0
                                try clear c22b1
                                try clear c29
                                try clear p29
                                try clear q29
                                try clear hx29
                                try clear c30
                                try clear p30
                                try clear q30
                                try clear hx30
                                try clear c31
                                try clear c31b0
                                try clear c32
                                try clear c32b0
                                try clear c33
                                try clear c33b0
                                try clear c33b1
                                try clear c37
                                try clear hx292_0
                                try clear hx292_1
                                try clear hx292_2
                                try clear hx292_3
                                try clear hx292_4
                                try clear hx292_5
                                try clear hx292_6
                                try clear hx293_0
                                try clear hx293_1
                                try clear hx293_2
                                try clear hx293_3
                                try clear hx293_4
                                try clear hx293_5
                                try clear hx293_6
                                try clear hx300_0
                                try clear hx300_1
                                try clear hx300_2
                                try clear hx300_3
                                try clear hx300_4
                                try clear hx300_5
                                try clear hx300_6
                                try clear hx301_0
                                try clear hx301_1
                                try clear hx301_2
                                try clear hx301_3
                                try clear hx301_4
                                try clear hx301_5
                                try clear hx301_6
                                try clear p2
                                try clear p29
                                try clear p292
                                try clear p293
                                try clear p3
                                try clear p30
                                try clear p300
                                try clear p301
                                try clear q2
                                try clear q29
                                try clear q292
                                try clear q293
                                try clear q3
                                try clear q30
                                try clear q300
                                try clear q301
                                obtain ⟨x5_5, rfl, HA, HK5, HB⟩ := hrel
                                cases gk with
                                | zero => exact absurd HA.out (by simp [limelightlaw05_SlotsNone.l1])
                                | succ k5 =>
                                  have H := HA.out
                                  clear HA
                                  simp only [limelightlaw05_SlotsNone.l1] at H
                                  by_cases c38 : 0 ≤ x3_2
                                  · rw [if_pos c38] at H
                                    have c38b0 : decide (0 ≤ x3_2) = true := decide_eq_true c38
                                    clear c38
                                    by_cases c39 : x3_2 < (l0.length : Int)
                                    · rw [if_pos c39] at H
                                      have c39b0 : decide (x3_2 < (l0.length : Int)) = true := decide_eq_true c39
                                      clear c39
                                      by_cases c40 : x5_5 < (((rd_T35 l0 x3_2).f3).length : Int)
                                      · rw [if_pos c40] at H
                                        have c40b0 : decide (x5_5 < (((rd_T35 l0 x3_2).f3).length : Int)) = true := decide_eq_true c40
                                        clear c40
                                        by_cases c41 : 0 ≤ x5_5
                                        · rw [if_pos c41] at H
                                          have c41b0 : decide (0 ≤ x5_5) = true := decide_eq_true c41
                                          clear c41
                                          replace H := Option.bind_eq_some_iff.mp H
                                          obtain ⟨t308, A420, H⟩ := H
                                          replace H : (if t308 = (-1) then (limelightlaw05_SlotsNone.l1 k5 l0 x3_2 (wrap64 (x5_5 + 1))) else (none)) = some r := H
                                          have A42 := Aside0.mk A420
                                          clear A420
                                          by_cases c43 : t308 = (-1)
                                          · rw [if_pos c43] at H
                                            have c43b0 : (t308 == (-1)) = true := beq_iff_eq.mpr c43
                                            have c43b1 : (t308 != (-1)) = false := bne_eq_false_iff_eq.mpr c43
                                            clear c43
                                            have H' := Aside0.mk H
                                            clear H
                                            have p305 : 0 ≤ (x3_2 : Int) := of_decide_eq_true (by first | (with_reducible assumption) | assumption)
                                            have q305 : x3_2 < (l0.length : Int) := of_decide_eq_true (by first | (with_reducible assumption) | assumption)
                                            obtain ⟨ad305, A305_3, c305_3, A305_6, c305_6, e305, hx305_0, hx305_1, hx305_2, hx305_3, hx305_4, hx305_5, hx305_6, hl305_3, hi305_3, hl305_6, hi305_6⟩ := at_T35 HR0.out x3_2 p305 q305
                                            obtain rfl : ad292 = ad305 := (by injection e305)
                                            replace hx305_0 := (HB.out.cell (World.block_lt_of_cell? w _ hx305_0)).trans hx305_0
                                            replace hx305_1 := (HB.out.cell (World.block_lt_of_cell? w _ hx305_1)).trans hx305_1
                                            replace hx305_2 := (HB.out.cell (World.block_lt_of_cell? w _ hx305_2)).trans hx305_2
                                            replace hx305_3 := (HB.out.cell (World.block_lt_of_cell? w _ hx305_3)).trans hx305_3
                                            replace hx305_4 := (HB.out.cell (World.block_lt_of_cell? w _ hx305_4)).trans hx305_4
                                            replace hx305_5 := (HB.out.cell (World.block_lt_of_cell? w _ hx305_5)).trans hx305_5
                                            replace hx305_6 := (HB.out.cell (World.block_lt_of_cell? w _ hx305_6)).trans hx305_6
                                            have HR305_3 := Aside0.mk hi305_3
                                            have HC305_3 := Aside0.mk hl305_3
                                            clear hi305_3 hl305_3
                                            have HR305_6 := Aside0.mk hi305_6
                                            have HC305_6 := Aside0.mk hl305_6
                                            clear hi305_6 hl305_6
                                            replace p305 := eq_true p305
                                            replace q305 := eq_true q305
                                            have p306 : 0 ≤ (x3_2 : Int) := of_decide_eq_true (by first | (with_reducible assumption) | assumption)
                                            have q306 : x3_2 < (l0.length : Int) := of_decide_eq_true (by first | (with_reducible assumption) | assumption)
                                            obtain ⟨ad306, A306_3, c306_3, A306_6, c306_6, e306, hx306_0, hx306_1, hx306_2, hx306_3, hx306_4, hx306_5, hx306_6, hl306_3, hi306_3, hl306_6, hi306_6⟩ := at_T35 HR0.out x3_2 p306 q306
                                            obtain rfl : ad292 = ad306 := (by injection e306)
                                            replace hx306_0 := (HB.out.cell (World.block_lt_of_cell? w _ hx306_0)).trans hx306_0
                                            replace hx306_1 := (HB.out.cell (World.block_lt_of_cell? w _ hx306_1)).trans hx306_1
                                            replace hx306_2 := (HB.out.cell (World.block_lt_of_cell? w _ hx306_2)).trans hx306_2
                                            replace hx306_3 := (HB.out.cell (World.block_lt_of_cell? w _ hx306_3)).trans hx306_3
                                            replace hx306_4 := (HB.out.cell (World.block_lt_of_cell? w _ hx306_4)).trans hx306_4
                                            replace hx306_5 := (HB.out.cell (World.block_lt_of_cell? w _ hx306_5)).trans hx306_5
                                            replace hx306_6 := (HB.out.cell (World.block_lt_of_cell? w _ hx306_6)).trans hx306_6
                                            have HR306_3 := Aside0.mk hi306_3
                                            have HC306_3 := Aside0.mk hl306_3
                                            clear hi306_3 hl306_3
                                            have HR306_6 := Aside0.mk hi306_6
                                            have HC306_6 := Aside0.mk hl306_6
                                            clear hi306_6 hl306_6
                                            replace p306 := eq_true p306
                                            replace q306 := eq_true q306
                                            have ea_ := Option.some.inj (hx305_3.symm.trans hx306_3)
                                            injection ea_ with ea_ en_ ec_
                                            subst ea_
                                            subst ec_
                                            clear en_
                                            have ea_ := Option.some.inj (hx305_6.symm.trans hx306_6)
                                            injection ea_ with ea_ en_ ec_
                                            subst ea_
                                            subst ec_
                                            clear en_
                                            have p307 : 0 ≤ (x5_5 : Int) := of_decide_eq_true (by first | (with_reducible assumption) | assumption)
                                            have q307 : x5_5 < (((rd_T35 l0 x3_2).f3).length : Int) := of_decide_eq_true (by first | (with_reducible assumption) | assumption)
                                            obtain ⟨ad307, e307, hx307_0⟩ := Kd.at_int HR306_3.out x5_5 p307 q307
                                            cases e307
                                            replace hx307_0 := (HB.out.cell (World.block_lt_of_cell? w _ hx307_0)).trans hx307_0
                                            replace p307 := eq_true p307
                                            replace q307 := eq_true q307
                                            go_wp2_with (first | ((with_reducible refine gate_callee (f := 12) rfl ?_); refine goesL_ (some 87) rfl rfl Try.func12 (by kernel_rfl) rfl #[.slice (some ad292) l0.length c0, .int .i64 (rd ((rd_T35 l0 x3_2).f3) x5_5)] rfl (by (try simp only [List.map_toArray, List.map_cons, List.map_nil]); first | done | rfl | (simp only [List.length_drop, List.length_take]; rfl)) ?_; (with_reducible refine (slots_Of.calls _ _ l0 (rd ((rd_T35 l0 x3_2).f3) x5_5) t308 _ ?side1 ?side2 A42.out).mono ?_); (case side1 => repeat (first | exact (Kd.C_below HR0.out HB.out) | (with_reducible refine Kd.C_alloc ?_ _) | (with_reducible refine Kd.C_drewN ?_ _) | (with_reducible refine Kd.C_drew ?_))); (case side2 => exact HC0.out); rintro e w44 ⟨rfl, hb⟩; refine ⟨_, rfl, ?_⟩; have n0_ := Aside0.mk (below_step (by repeat (first | (with_reducible first | exact HB.out | apply below_alloc | apply pw_below_drewN | apply below_drew1) | exact HB.out)) hb); clear HB; have HB := n0_; clear n0_; (try clear hb); (try clear hb2); (try clear hk); (try clear hi)))
                                            go_roundg k5
                                            case measure => have := HJ1.out; have := HK2.out; have := HJ17.out; have := HJ29.out; have := HK5.out; omega
                                            case rel => exact ⟨(wrap64 (x5_5 + 1)), (by first | rfl | (simp; done) | (simp [*]; done)), H', ⟨by have := HJ1.out; have := HK2.out; have := HJ17.out; have := HJ29.out; have := HK5.out; omega⟩, ⟨by repeat (first | (with_reducible first | exact HB.out | apply below_alloc | apply pw_below_drewN | apply below_drew1) | exact HB.out)⟩⟩
                                          · rw [if_neg c43] at H
                                            exact absurd H (by simp)
                                        · rw [if_neg c41] at H
                                          exact absurd H (by simp)
                                      · rw [if_neg c40] at H
                                        have c40b0 : decide (x5_5 < (((rd_T35 l0 x3_2).f3).length : Int)) = false := decide_eq_false c40
                                        clear c40
                                        have H' := Aside0.mk H
                                        clear H
                                        have p305 : 0 ≤ (x3_2 : Int) := of_decide_eq_true (by first | (with_reducible assumption) | assumption)
                                        have q305 : x3_2 < (l0.length : Int) := of_decide_eq_true (by first | (with_reducible assumption) | assumption)
                                        obtain ⟨ad305, A305_3, c305_3, A305_6, c305_6, e305, hx305_0, hx305_1, hx305_2, hx305_3, hx305_4, hx305_5, hx305_6, hl305_3, hi305_3, hl305_6, hi305_6⟩ := at_T35 HR0.out x3_2 p305 q305
                                        obtain rfl : ad292 = ad305 := (by injection e305)
                                        replace hx305_0 := (HB.out.cell (World.block_lt_of_cell? w _ hx305_0)).trans hx305_0
                                        replace hx305_1 := (HB.out.cell (World.block_lt_of_cell? w _ hx305_1)).trans hx305_1
                                        replace hx305_2 := (HB.out.cell (World.block_lt_of_cell? w _ hx305_2)).trans hx305_2
                                        replace hx305_3 := (HB.out.cell (World.block_lt_of_cell? w _ hx305_3)).trans hx305_3
                                        replace hx305_4 := (HB.out.cell (World.block_lt_of_cell? w _ hx305_4)).trans hx305_4
                                        replace hx305_5 := (HB.out.cell (World.block_lt_of_cell? w _ hx305_5)).trans hx305_5
                                        replace hx305_6 := (HB.out.cell (World.block_lt_of_cell? w _ hx305_6)).trans hx305_6
                                        have HR305_3 := Aside0.mk hi305_3
                                        have HC305_3 := Aside0.mk hl305_3
                                        clear hi305_3 hl305_3
                                        have HR305_6 := Aside0.mk hi305_6
                                        have HC305_6 := Aside0.mk hl305_6
                                        clear hi305_6 hl305_6
                                        replace p305 := eq_true p305
                                        replace q305 := eq_true q305
                                        go_wp2
                                        go_roundg k5
                                        case measure => have := HJ1.out; have := HK2.out; have := HJ17.out; have := HJ29.out; have := HK5.out; omega
                                        case rel => exact ⟨(wrap64 (x3_2 + 1)), (by first | rfl | (simp; done) | (simp [*]; done)), H', ⟨by have := HJ1.out; have := HK2.out; have := HJ17.out; have := HJ29.out; have := HK5.out; omega⟩, ⟨by repeat (first | (with_reducible first | exact HB.out | apply below_alloc | apply pw_below_drewN | apply below_drew1) | exact HB.out)⟩⟩
                                    · rw [if_neg c39] at H
                                      exact absurd H (by simp)
                                  · rw [if_neg c38] at H
                                    exact absurd H (by simp)
                · rw [if_neg c17] at H
                  exact absurd H (by simp)
              · rw [if_neg c16] at H
                exact absurd H (by simp)
            · rw [if_neg c14] at H
              have c14b0 : decide (x3_2 < (l0.length : Int)) = false := decide_eq_false c14
              clear c14
              replace H := Option.bind_eq_some_iff.mp H
              obtain ⟨t290, A450, H⟩ := H
              replace H : (some t290) = some r := H
              have A45 := Aside0.mk A450
              clear A450
              obtain rfl := Option.some.inj H
              go_wp2_with (first | ((with_reducible refine gate_callee (f := 10) rfl ?_); refine goesL_ (some 89) rfl rfl Try.func10 (by kernel_rfl) rfl #[] rfl (by (try simp only [List.map_toArray, List.map_cons, List.map_nil]); first | done | rfl | (simp only [List.length_drop, List.length_take]; rfl)) ?_; (with_reducible refine (limelightlaw05_live.calls  t290 _ A45.out).mono ?_); rintro e w46 ⟨rfl, hb⟩; refine ⟨_, rfl, ?_⟩; have n0_ := Aside0.mk (below_step (by repeat (first | (with_reducible first | exact HB.out | apply below_alloc | apply pw_below_drewN | apply below_drew1) | exact HB.out)) hb); clear HB; have HB := n0_; clear n0_; (try clear hb); (try clear hb2); (try clear hk); (try clear hi)))
              go_ret
              exact ⟨by first | rfl | (simp [errW_none, errW_some] <;> rfl) | (simp [*, errW_none, errW_some] <;> rfl), by repeat (first | (with_reducible first | exact HB.out | apply below_alloc | apply pw_below_drewN | apply below_drew1) | exact HB.out)⟩

end Go.Proofs.Ytcmcjfiaemchoaa.P
