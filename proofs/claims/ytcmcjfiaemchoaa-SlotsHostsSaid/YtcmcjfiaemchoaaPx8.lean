-- printed by wip/tools/pp.sh (a patched copy of the print's program), for this claim.
import Derived.Test.YtcmcjfiaemchoaaPx0
import Derived.Test.YtcmcjfiaemchoaaPx1
import Derived.Test.YtcmcjfiaemchoaaPx2
import Derived.Test.YtcmcjfiaemchoaaME
import Derived.Test.YtcmcjfiaemchoaaMT
import Derived.Test.YtcmcjfiaemchoaaMV
namespace Go.Proofs.Ytcmcjfiaemchoaa.P
open Go.RowKit Go.Proofs.YtcmcjfiaemchoaaW.PrintWords Go.Proofs.YtcmcjfiaemchoaaW.PrintLast Go.Proofs.YtcmcjfiaemchoaaW.PrintMore
attribute [local go_sem] max2_int min2_int max_two min_two max_three min_three max_four min_four   -- for this text's walks alone
set_option linter.unusedVariables false
set_option linter.unusedSimpArgs false

/-! ### limelightlaw05_SlotsHosts: function 6 -/
mutual
def limelightlaw05_SlotsHosts.j0 : Nat → List (S35) → Bool → Option (Bool)
  | 0, _, _ => none
  | k + 1, x0, x21 => if x21 = true then ((limelightlaw05_live.f).bind fun t244 => (some t244)) else (limelightlaw05_SlotsHosts.l0 k x0 0)
def limelightlaw05_SlotsHosts.l0 : Nat → List (S35) → Int → Option (Bool)
  | 0, _, _ => none
  | k + 1, x0, x3 => if x3 < (x0.length : Int) then ((slots_Of.f x0 x3).bind fun t246 => (if 0 ≤ x3 then (if ((rd_T35 x0 x3).f2) = (-1) then (limelightlaw05_SlotsHosts.j2 k x0 x3 t246 ((rd_T35 x0 x3).f2) true) else (if 0 ≤ ((rd_T35 x0 x3).f2) then (if ((rd_T35 x0 x3).f2) < (x0.length : Int) then (limelightlaw05_SlotsHosts.j2 k x0 x3 t246 ((rd_T35 x0 x3).f2) (((rd_T35 x0 ((rd_T35 x0 x3).f2)).f5) == (-1))) else (none)) else (none))) else (none))) else ((limelightlaw05_live.f).bind fun t245 => (some t245))
def limelightlaw05_SlotsHosts.j2 : Nat → List (S35) → Int → Int → Int → Bool → Option (Bool)
  | 0, _, _, _, _, _ => none
  | k + 1, x0, x3, x4, x5, x46 => if x46 = true then (if x4 = (-1) then (limelightlaw05_SlotsHosts.l0 k x0 (wrap64 (x3 + 1))) else (none)) else (if 0 ≤ x5 then (if x5 < (x0.length : Int) then ((slots_All.f x0 ((rd_T35 x0 x5).f5)).bind fun t250 => (if x4 = (-1) then (limelightlaw05_SlotsHosts.j3 k x0 x3 x4 x5 false) else ((limelightref03_In.f k t250 x4).bind fun t253 => (limelightlaw05_SlotsHosts.j3 k x0 x3 x4 x5 (!t253))))) else (none)) else (none))
def limelightlaw05_SlotsHosts.j3 : Nat → List (S35) → Int → Int → Int → Bool → Option (Bool)
  | 0, _, _, _, _, _ => none
  | k + 1, x0, x3, x4, x5, x63 => if x63 = true then (none) else (limelightlaw05_SlotsHosts.l1 k x0 x3 x4 x5 0)
def limelightlaw05_SlotsHosts.l1 : Nat → List (S35) → Int → Int → Int → Int → Option (Bool)
  | 0, _, _, _, _, _ => none
  | k + 1, x0, x3, x4, x5, x7 => if 0 ≤ x5 then (if x5 < (x0.length : Int) then (if x7 < (((rd_T35 x0 x5).f3).length : Int) then (if 0 ≤ x7 then (if 0 ≤ x3 then (if x3 < (x0.length : Int) then (if ((rd_T35 x0 x3).f0) = 2 then (if 0 ≤ (rd ((rd_T35 x0 x5).f3) x7) then (if (rd ((rd_T35 x0 x5).f3) x7) < (x0.length : Int) then (if ((rd_T35 x0 (rd ((rd_T35 x0 x5).f3) x7)).f0) = 2 then ((slots_Of.f x0 (rd ((rd_T35 x0 x5).f3) x7)).bind fun t259 => (if t259 = x4 then (limelightlaw05_SlotsHosts.l1 k x0 x3 x4 x5 (wrap64 (x7 + 1))) else (none))) else (limelightlaw05_SlotsHosts.l1 k x0 x3 x4 x5 (wrap64 (x7 + 1)))) else (none)) else (none)) else (limelightlaw05_SlotsHosts.l1 k x0 x3 x4 x5 (wrap64 (x7 + 1)))) else (none)) else (none)) else (none)) else (limelightlaw05_SlotsHosts.l0 k x0 (wrap64 (x3 + 1)))) else (none)) else (none)
end
def limelightlaw05_SlotsHosts.f (k : Nat) (l0 : List (S35)) : Option (Bool) := (limelightref01_Few.f l0).bind fun t242 => (if t242 = true then (if (l0.length : Int) > 16 then (limelightlaw05_SlotsHosts.j0 k l0 true) else ((limelightref01_May.f l0).bind fun t243 => (limelightlaw05_SlotsHosts.j0 k l0 (!t243)))) else (limelightlaw05_SlotsHosts.j0 k l0 true))
theorem limelightlaw05_SlotsHosts.mono_l : ∀ k, (∀ y0 y1, LeO (limelightlaw05_SlotsHosts.j0 k y0 y1) (limelightlaw05_SlotsHosts.j0 (k + 1) y0 y1)) ∧ (∀ y0 y1, LeO (limelightlaw05_SlotsHosts.l0 k y0 y1) (limelightlaw05_SlotsHosts.l0 (k + 1) y0 y1)) ∧ (∀ y0 y1 y2 y3 y4, LeO (limelightlaw05_SlotsHosts.j2 k y0 y1 y2 y3 y4) (limelightlaw05_SlotsHosts.j2 (k + 1) y0 y1 y2 y3 y4)) ∧ (∀ y0 y1 y2 y3 y4, LeO (limelightlaw05_SlotsHosts.j3 k y0 y1 y2 y3 y4) (limelightlaw05_SlotsHosts.j3 (k + 1) y0 y1 y2 y3 y4)) ∧ (∀ y0 y1 y2 y3 y4, LeO (limelightlaw05_SlotsHosts.l1 k y0 y1 y2 y3 y4) (limelightlaw05_SlotsHosts.l1 (k + 1) y0 y1 y2 y3 y4))
  | 0 => ⟨fun _ _ r h => by simp [limelightlaw05_SlotsHosts.j0] at h, fun _ _ r h => by simp [limelightlaw05_SlotsHosts.l0] at h, fun _ _ _ _ _ r h => by simp [limelightlaw05_SlotsHosts.j2] at h, fun _ _ _ _ _ r h => by simp [limelightlaw05_SlotsHosts.j3] at h, fun _ _ _ _ _ r h => by simp [limelightlaw05_SlotsHosts.l1] at h⟩
  | k + 1 => by
    obtain ⟨ih0, ih1, ih2, ih3, ih4⟩ := limelightlaw05_SlotsHosts.mono_l k
    refine ⟨?_, ?_, ?_, ?_, ?_⟩
    · intro y0 y1
      unfold limelightlaw05_SlotsHosts.j0
      repeat' first
      | (with_reducible exact ih0 _ _)
      | (with_reducible exact ih1 _ _)
      | (with_reducible exact ih2 _ _ _ _ _)
      | (with_reducible exact ih3 _ _ _ _ _)
      | (with_reducible exact ih4 _ _ _ _ _)
      | (with_reducible exact limelightref03_In.mono _ _ _)
      | (with_reducible exact LeO.refl _)
      | (with_reducible exact LeO.none _)
      | (with_reducible refine LeO.ite ?_ ?_)
      | (with_reducible refine LeO.bind ?_ (fun _ => ?_))
      | exact ih0 _ _
      | exact ih1 _ _
      | exact ih2 _ _ _ _ _
      | exact ih3 _ _ _ _ _
      | exact ih4 _ _ _ _ _
      | exact limelightref03_In.mono _ _ _
      | exact LeO.none _
      | refine LeO.ite ?_ ?_
      | refine LeO.bind ?_ (fun _ => ?_)
    · intro y0 y1
      unfold limelightlaw05_SlotsHosts.l0
      repeat' first
      | (with_reducible exact ih0 _ _)
      | (with_reducible exact ih1 _ _)
      | (with_reducible exact ih2 _ _ _ _ _)
      | (with_reducible exact ih3 _ _ _ _ _)
      | (with_reducible exact ih4 _ _ _ _ _)
      | (with_reducible exact limelightref03_In.mono _ _ _)
      | (with_reducible exact LeO.refl _)
      | (with_reducible exact LeO.none _)
      | (with_reducible refine LeO.ite ?_ ?_)
      | (with_reducible refine LeO.bind ?_ (fun _ => ?_))
      | exact ih0 _ _
      | exact ih1 _ _
      | exact ih2 _ _ _ _ _
      | exact ih3 _ _ _ _ _
      | exact ih4 _ _ _ _ _
      | exact limelightref03_In.mono _ _ _
      | exact LeO.none _
      | refine LeO.ite ?_ ?_
      | refine LeO.bind ?_ (fun _ => ?_)
    · intro y0 y1 y2 y3 y4
      unfold limelightlaw05_SlotsHosts.j2
      repeat' first
      | (with_reducible exact ih0 _ _)
      | (with_reducible exact ih1 _ _)
      | (with_reducible exact ih2 _ _ _ _ _)
      | (with_reducible exact ih3 _ _ _ _ _)
      | (with_reducible exact ih4 _ _ _ _ _)
      | (with_reducible exact limelightref03_In.mono _ _ _)
      | (with_reducible exact LeO.refl _)
      | (with_reducible exact LeO.none _)
      | (with_reducible refine LeO.ite ?_ ?_)
      | (with_reducible refine LeO.bind ?_ (fun _ => ?_))
      | exact ih0 _ _
      | exact ih1 _ _
      | exact ih2 _ _ _ _ _
      | exact ih3 _ _ _ _ _
      | exact ih4 _ _ _ _ _
      | exact limelightref03_In.mono _ _ _
      | exact LeO.none _
      | refine LeO.ite ?_ ?_
      | refine LeO.bind ?_ (fun _ => ?_)
    · intro y0 y1 y2 y3 y4
      unfold limelightlaw05_SlotsHosts.j3
      repeat' first
      | (with_reducible exact ih0 _ _)
      | (with_reducible exact ih1 _ _)
      | (with_reducible exact ih2 _ _ _ _ _)
      | (with_reducible exact ih3 _ _ _ _ _)
      | (with_reducible exact ih4 _ _ _ _ _)
      | (with_reducible exact limelightref03_In.mono _ _ _)
      | (with_reducible exact LeO.refl _)
      | (with_reducible exact LeO.none _)
      | (with_reducible refine LeO.ite ?_ ?_)
      | (with_reducible refine LeO.bind ?_ (fun _ => ?_))
      | exact ih0 _ _
      | exact ih1 _ _
      | exact ih2 _ _ _ _ _
      | exact ih3 _ _ _ _ _
      | exact ih4 _ _ _ _ _
      | exact limelightref03_In.mono _ _ _
      | exact LeO.none _
      | refine LeO.ite ?_ ?_
      | refine LeO.bind ?_ (fun _ => ?_)
    · intro y0 y1 y2 y3 y4
      unfold limelightlaw05_SlotsHosts.l1
      repeat' first
      | (with_reducible exact ih0 _ _)
      | (with_reducible exact ih1 _ _)
      | (with_reducible exact ih2 _ _ _ _ _)
      | (with_reducible exact ih3 _ _ _ _ _)
      | (with_reducible exact ih4 _ _ _ _ _)
      | (with_reducible exact limelightref03_In.mono _ _ _)
      | (with_reducible exact LeO.refl _)
      | (with_reducible exact LeO.none _)
      | (with_reducible refine LeO.ite ?_ ?_)
      | (with_reducible refine LeO.bind ?_ (fun _ => ?_))
      | exact ih0 _ _
      | exact ih1 _ _
      | exact ih2 _ _ _ _ _
      | exact ih3 _ _ _ _ _
      | exact ih4 _ _ _ _ _
      | exact limelightref03_In.mono _ _ _
      | exact LeO.none _
      | refine LeO.ite ?_ ?_
      | refine LeO.bind ?_ (fun _ => ?_)
theorem limelightlaw05_SlotsHosts.mono : ∀ a0 k, LeO (limelightlaw05_SlotsHosts.f k a0) (limelightlaw05_SlotsHosts.f (k + 1) a0) := by
  intro a0 k
  obtain ⟨ih0, ih1, ih2, ih3, ih4⟩ := limelightlaw05_SlotsHosts.mono_l k
  unfold limelightlaw05_SlotsHosts.f
  repeat' first
      | (with_reducible exact ih0 _ _)
      | (with_reducible exact ih1 _ _)
      | (with_reducible exact ih2 _ _ _ _ _)
      | (with_reducible exact ih3 _ _ _ _ _)
      | (with_reducible exact ih4 _ _ _ _ _)
      | (with_reducible exact limelightref03_In.mono _ _ _)
      | (with_reducible exact LeO.refl _)
      | (with_reducible exact LeO.none _)
      | (with_reducible refine LeO.ite ?_ ?_)
      | (with_reducible refine LeO.bind ?_ (fun _ => ?_))
      | exact ih0 _ _
      | exact ih1 _ _
      | exact ih2 _ _ _ _ _
      | exact ih3 _ _ _ _ _
      | exact ih4 _ _ _ _ _
      | exact limelightref03_In.mono _ _ _
      | exact LeO.none _
      | refine LeO.ite ?_ ?_
      | refine LeO.bind ?_ (fun _ => ?_)
set_option maxHeartbeats 8000000 in
set_option maxRecDepth 100000 in
theorem limelightlaw05_SlotsHosts.calls (k : Nat) (A0 : Option Addr) (c0 : Nat) (l0 : List (S35)) (r : Bool) (w : World) (hr0 : Kd.C k35 w A0 l0.length l0) (hc0 : l0.length ≤ c0) (h : limelightlaw05_SlotsHosts.f k l0 = some r) :
    Calls Try.prog 6 #[.slice A0 l0.length c0] w fun e w' => e = .returned (.bool r) ∧ Below w.heap.size w w' := by
  have HR0 := Aside0.mk hr0
  have HC0 := Aside0.mk hc0
  clear hr0 hc0
  have HB := Aside0.mk (Below.refl w.heap.size w)
  have H : ((limelightref01_Few.f l0).bind fun t242 => (if t242 = true then (if (l0.length : Int) > 16 then (limelightlaw05_SlotsHosts.j0 k l0 true) else ((limelightref01_May.f l0).bind fun t243 => (limelightlaw05_SlotsHosts.j0 k l0 (!t243)))) else (limelightlaw05_SlotsHosts.j0 k l0 true))) = some r := h
  clear h
  have HC2 := Aside0.mk H
  clear H
  go_enter Try.func6, Try.ntmps6
  go_upto_region 1 with (fail)
  go_cut [21] (fun v21 wc => ∃ (kq : Nat) (x21_1 : Bool), v21 = .bool x21_1 ∧ Aside0 (limelightlaw05_SlotsHosts.j0 kq l0 x21_1 = some r) ∧ Aside0 (kq ≤ k) ∧ Aside0 (Below w.heap.size w wc))
  case first =>
    have H := HC2.out
    clear HC2
    replace H := Option.bind_eq_some_iff.mp H
    obtain ⟨t242, A30, H⟩ := H
    replace H : (if t242 = true then (if (l0.length : Int) > 16 then (limelightlaw05_SlotsHosts.j0 k l0 true) else ((limelightref01_May.f l0).bind fun t243 => (limelightlaw05_SlotsHosts.j0 k l0 (!t243)))) else (limelightlaw05_SlotsHosts.j0 k l0 true)) = some r := H
    have A3 := Aside0.mk A30
    clear A30
    by_cases c4 : t242 = true
    · subst c4
      have H1 : (if (l0.length : Int) > 16 then (limelightlaw05_SlotsHosts.j0 k l0 true) else ((limelightref01_May.f l0).bind fun t243 => (limelightlaw05_SlotsHosts.j0 k l0 (!t243)))) = some r := by rw [if_pos rfl] at H; exact H
      clear H
      have H := H1
      clear H1
      by_cases c5 : (l0.length : Int) > 16
      · rw [if_pos c5] at H
        have c5b0 : decide (16 < (l0.length : Int)) = true := decide_eq_true c5
        have c5b1 : decide (16 < l0.length) = true := decide_eq_true (by omega)
        clear c5
        (first | rw [c5b0] | (simp only [i64_w, i32_w]; rw [c5b0]) | skip)
        have H' := Aside0.mk H
        clear H
        go_wp2_with (first | ((with_reducible refine gate_callee (f := 9) rfl ?_); refine goesL_ (some 10) rfl rfl Try.func9 (by kernel_rfl) rfl #[.slice A0 l0.length c0] rfl (by (try simp only [List.map_toArray, List.map_cons, List.map_nil]); first | done | rfl | (simp only [List.length_drop, List.length_take]; rfl)) ?_; (with_reducible refine (limelightref01_Few.calls _ _ l0 true _ ?side1 ?side2 A3.out).mono ?_); (case side1 => repeat (first | exact (Kd.C_below HR0.out HB.out) | (with_reducible refine Kd.C_alloc ?_ _) | (with_reducible refine Kd.C_drewN ?_ _) | (with_reducible refine Kd.C_drew ?_))); (case side2 => exact HC0.out); rintro e w6 ⟨rfl, hb⟩; refine ⟨_, rfl, ?_⟩; have n0_ := Aside0.mk (below_step (by repeat (first | (with_reducible first | exact HB.out | apply below_alloc | apply pw_below_drewN | apply below_drew1) | exact HB.out)) hb); clear HB; have HB := n0_; clear n0_; (try clear hb); (try clear hb2); (try clear hk); (try clear hi)))
        go_meet
        case rel => exact ⟨_, (true), (by first | rfl | (simp; done) | (simp [*]; done)), H', ⟨by first | omega | exact Nat.le_refl _⟩, ⟨by repeat (first | (with_reducible first | exact HB.out | apply below_alloc | apply pw_below_drewN | apply below_drew1) | exact HB.out)⟩⟩
      · rw [if_neg c5] at H
        have c5b0 : decide (16 < (l0.length : Int)) = false := decide_eq_false c5
        have c5b1 : decide (16 < l0.length) = false := decide_eq_false (by omega)
        clear c5
        (first | rw [c5b0] | (simp only [i64_w, i32_w]; rw [c5b0]) | skip)
        replace H := Option.bind_eq_some_iff.mp H
        obtain ⟨t243, A70, H⟩ := H
        replace H : (limelightlaw05_SlotsHosts.j0 k l0 (!t243)) = some r := H
        have A7 := Aside0.mk A70
        clear A70
        have H' := Aside0.mk H
        clear H
        go_wp2_with (first | ((with_reducible refine gate_callee (f := 9) rfl ?_); refine goesL_ (some 10) rfl rfl Try.func9 (by kernel_rfl) rfl #[.slice A0 l0.length c0] rfl (by (try simp only [List.map_toArray, List.map_cons, List.map_nil]); first | done | rfl | (simp only [List.length_drop, List.length_take]; rfl)) ?_; (with_reducible refine (limelightref01_Few.calls _ _ l0 true _ ?side1 ?side2 A3.out).mono ?_); (case side1 => repeat (first | exact (Kd.C_below HR0.out HB.out) | (with_reducible refine Kd.C_alloc ?_ _) | (with_reducible refine Kd.C_drewN ?_ _) | (with_reducible refine Kd.C_drew ?_))); (case side2 => exact HC0.out); rintro e w8 ⟨rfl, hb⟩; refine ⟨_, rfl, ?_⟩; have n0_ := Aside0.mk (below_step (by repeat (first | (with_reducible first | exact HB.out | apply below_alloc | apply pw_below_drewN | apply below_drew1) | exact HB.out)) hb); clear HB; have HB := n0_; clear n0_; (try clear hb); (try clear hb2); (try clear hk); (try clear hi)) | (go_at_call 19; (with_reducible refine (limelightref01_May.calls _ _ l0 t243 _ ?side1 ?side2 A7.out).mono ?_); (case side1 => repeat (first | exact (Kd.C_below HR0.out HB.out) | (with_reducible refine Kd.C_alloc ?_ _) | (with_reducible refine Kd.C_drewN ?_ _) | (with_reducible refine Kd.C_drew ?_))); (case side2 => exact HC0.out); rintro e w9 ⟨rfl, hb⟩; have n0_ := Aside0.mk (below_step (by repeat (first | (with_reducible first | exact HB.out | apply below_alloc | apply pw_below_drewN | apply below_drew1) | exact HB.out)) hb); clear HB; have HB := n0_; clear n0_; (try clear hb); (try clear hb2); (try clear hk); (try clear hi)))
        go_meet
        case rel => exact ⟨_, (!t243), (by first | rfl | (simp; done) | (simp [*]; done)), H', ⟨by first | omega | exact Nat.le_refl _⟩, ⟨by repeat (first | (with_reducible first | exact HB.out | apply below_alloc | apply pw_below_drewN | apply below_drew1) | exact HB.out)⟩⟩
    · replace c4 := Bool.eq_false_iff.mpr c4
      subst c4
      have H1 : (limelightlaw05_SlotsHosts.j0 k l0 true) = some r := by rw [if_neg (show ¬ (false = true) by decide)] at H; exact H
      clear H
      have H := H1
      clear H1
      have H' := Aside0.mk H
      clear H
      go_wp2_with (first | ((with_reducible refine gate_callee (f := 9) rfl ?_); refine goesL_ (some 10) rfl rfl Try.func9 (by kernel_rfl) rfl #[.slice A0 l0.length c0] rfl (by (try simp only [List.map_toArray, List.map_cons, List.map_nil]); first | done | rfl | (simp only [List.length_drop, List.length_take]; rfl)) ?_; (with_reducible refine (limelightref01_Few.calls _ _ l0 false _ ?side1 ?side2 A3.out).mono ?_); (case side1 => repeat (first | exact (Kd.C_below HR0.out HB.out) | (with_reducible refine Kd.C_alloc ?_ _) | (with_reducible refine Kd.C_drewN ?_ _) | (with_reducible refine Kd.C_drew ?_))); (case side2 => exact HC0.out); rintro e w10 ⟨rfl, hb⟩; refine ⟨_, rfl, ?_⟩; have n0_ := Aside0.mk (below_step (by repeat (first | (with_reducible first | exact HB.out | apply below_alloc | apply pw_below_drewN | apply below_drew1) | exact HB.out)) hb); clear HB; have HB := n0_; clear n0_; (try clear hb); (try clear hb2); (try clear hk); (try clear hi)))
      go_meet
      case rel => exact ⟨_, (true), (by first | rfl | (simp; done) | (simp [*]; done)), H', ⟨by first | omega | exact Nat.le_refl _⟩, ⟨by repeat (first | (with_reducible first | exact HB.out | apply below_alloc | apply pw_below_drewN | apply below_drew1) | exact HB.out)⟩⟩
  case rest =>
    clear HC2
    try clear p2
    try clear c4
    try clear c5
    try clear c5b0
    try clear c5b1
    try clear c6
    try clear c9
    obtain ⟨kq, x21_1, rfl, HA, HJ1, HB⟩ := hcut
    cases kq with
    | zero => exact absurd HA.out (by simp [limelightlaw05_SlotsHosts.j0])
    | succ kj1 =>
      have H := HA.out
      clear HA
      simp only [limelightlaw05_SlotsHosts.j0] at H
      by_cases c11 : x21_1 = true
      · subst c11
        have H1 : ((limelightlaw05_live.f).bind fun t244 => (some t244)) = some r := by rw [if_pos rfl] at H; exact H
        clear H
        have H := H1
        clear H1
        replace H := Option.bind_eq_some_iff.mp H
        obtain ⟨t244, A120, H⟩ := H
        replace H : (some t244) = some r := H
        have A12 := Aside0.mk A120
        clear A120
        obtain rfl := Option.some.inj H
        go_wp2_with (first | ((with_reducible refine gate_callee (f := 10) rfl ?_); refine goesL_ (some 22) rfl rfl Try.func10 (by kernel_rfl) rfl #[] rfl (by (try simp only [List.map_toArray, List.map_cons, List.map_nil]); first | done | rfl | (simp only [List.length_drop, List.length_take]; rfl)) ?_; (with_reducible refine (limelightlaw05_live.calls  t244 _ A12.out).mono ?_); rintro e w13 ⟨rfl, hb⟩; refine ⟨_, rfl, ?_⟩; have n0_ := Aside0.mk (below_step (by repeat (first | (with_reducible first | exact HB.out | apply below_alloc | apply pw_below_drewN | apply below_drew1) | exact HB.out)) hb); clear HB; have HB := n0_; clear n0_; (try clear hb); (try clear hb2); (try clear hk); (try clear hi)))
        go_ret
        exact ⟨by first | rfl | (simp [errW_none, errW_some] <;> rfl) | (simp [*, errW_none, errW_some] <;> rfl), by repeat (first | (with_reducible first | exact HB.out | apply below_alloc | apply pw_below_drewN | apply below_drew1) | exact HB.out)⟩
      · replace c11 := Bool.eq_false_iff.mpr c11
        subst c11
        have H1 : (limelightlaw05_SlotsHosts.l0 kj1 l0 0) = some r := by rw [if_neg (show ¬ (false = true) by decide)] at H; exact H
        clear H
        have H := H1
        clear H1
        have H' := Aside0.mk H
        clear H
        go_wp2
        go_loopg [3] kj1 (fun kq v3 w' => ∃ (x3_2 : Int), v3 = .int .i64 x3_2 ∧ Aside0 (limelightlaw05_SlotsHosts.l0 kq l0 x3_2 = some r) ∧ Aside0 (kq ≤ kj1) ∧ Aside0 (Below w.heap.size w w'))
        case atStart => exact ⟨(0), (by first | rfl | (simp; done) | (simp [*]; done)), H', ⟨Nat.le_refl _⟩, ⟨by repeat (first | (with_reducible first | exact HB.out | apply below_alloc | apply pw_below_drewN | apply below_drew1) | exact HB.out)⟩⟩
        case round =>
          clear H'
          try clear c1
          try clear p2
          try clear c4
          try clear c5
          try clear c5b0
          try clear c5b1
          try clear c6
          try clear c9
          try clear c10
          try clear c11
          try clear p2
          obtain ⟨x3_2, rfl, HA, HK2, HB⟩ := hrel
          cases gk with
          | zero => exact absurd HA.out (by simp [limelightlaw05_SlotsHosts.l0])
          | succ k2 =>
            have H := HA.out
            clear HA
            simp only [limelightlaw05_SlotsHosts.l0] at H
            by_cases c14 : x3_2 < (l0.length : Int)
            · rw [if_pos c14] at H
              have c14b0 : decide (x3_2 < (l0.length : Int)) = true := decide_eq_true c14
              clear c14
              replace H := Option.bind_eq_some_iff.mp H
              obtain ⟨t246, A150, H⟩ := H
              replace H : (if 0 ≤ x3_2 then (if ((rd_T35 l0 x3_2).f2) = (-1) then (limelightlaw05_SlotsHosts.j2 k2 l0 x3_2 t246 ((rd_T35 l0 x3_2).f2) true) else (if 0 ≤ ((rd_T35 l0 x3_2).f2) then (if ((rd_T35 l0 x3_2).f2) < (l0.length : Int) then (limelightlaw05_SlotsHosts.j2 k2 l0 x3_2 t246 ((rd_T35 l0 x3_2).f2) (((rd_T35 l0 ((rd_T35 l0 x3_2).f2)).f5) == (-1))) else (none)) else (none))) else (none)) = some r := H
              have A15 := Aside0.mk A150
              clear A150
              by_cases c16 : 0 ≤ x3_2
              · rw [if_pos c16] at H
                have c16b0 : decide (0 ≤ x3_2) = true := decide_eq_true c16
                clear c16
                have HC17 := Aside0.mk H
                clear H
                go_upto_region 8 with (first | ((with_reducible refine gate_callee (f := 12) rfl ?_); refine goesL_ (some 31) rfl rfl Try.func12 (by kernel_rfl) rfl #[.slice A0 l0.length c0, .int .i64 x3_2] rfl (by (try simp only [List.map_toArray, List.map_cons, List.map_nil]); first | done | rfl | (simp only [List.length_drop, List.length_take]; rfl)) ?_; (with_reducible refine (slots_Of.calls _ _ l0 x3_2 t246 _ ?side1 ?side2 A15.out).mono ?_); (case side1 => repeat (first | exact (Kd.C_below HR0.out HB.out) | (with_reducible refine Kd.C_alloc ?_ _) | (with_reducible refine Kd.C_drewN ?_ _) | (with_reducible refine Kd.C_drew ?_))); (case side2 => exact HC0.out); rintro e w18 ⟨rfl, hb⟩; refine ⟨_, rfl, ?_⟩; have n0_ := Aside0.mk (below_step (by repeat (first | (with_reducible first | exact HB.out | apply below_alloc | apply pw_below_drewN | apply below_drew1) | exact HB.out)) hb); clear HB; have HB := n0_; clear n0_; (try clear hb); (try clear hb2); (try clear hk); (try clear hi); have p247 : 0 ≤ (x3_2 : Int) := of_decide_eq_true (by first | (with_reducible assumption) | assumption); have q247 : x3_2 < (l0.length : Int) := of_decide_eq_true (by first | (with_reducible assumption) | assumption); obtain ⟨ad247, A247_3, c247_3, A247_6, c247_6, e247, hx247_0, hx247_1, hx247_2, hx247_3, hx247_4, hx247_5, hx247_6, hl247_3, hi247_3, hl247_6, hi247_6⟩ := at_T35 HR0.out x3_2 p247 q247; cases e247; replace hx247_0 := (HB.out.cell (World.block_lt_of_cell? w _ hx247_0)).trans hx247_0; replace hx247_1 := (HB.out.cell (World.block_lt_of_cell? w _ hx247_1)).trans hx247_1; replace hx247_2 := (HB.out.cell (World.block_lt_of_cell? w _ hx247_2)).trans hx247_2; replace hx247_3 := (HB.out.cell (World.block_lt_of_cell? w _ hx247_3)).trans hx247_3; replace hx247_4 := (HB.out.cell (World.block_lt_of_cell? w _ hx247_4)).trans hx247_4; replace hx247_5 := (HB.out.cell (World.block_lt_of_cell? w _ hx247_5)).trans hx247_5; replace hx247_6 := (HB.out.cell (World.block_lt_of_cell? w _ hx247_6)).trans hx247_6; have HR247_3 := Aside0.mk hi247_3; have HC247_3 := Aside0.mk hl247_3; clear hi247_3 hl247_3; have HR247_6 := Aside0.mk hi247_6; have HC247_6 := Aside0.mk hl247_6; clear hi247_6 hl247_6; replace p247 := eq_true p247; replace q247 := eq_true q247))
                (try simp only [Act.put, List.setIfInBounds_toArray, List.set_cons_zero, List.set_cons_succ])
                go_cut [46] (fun v46 wc => ∃ (kq : Nat) (x46_16 : Bool), v46 = .bool x46_16 ∧ Aside0 (limelightlaw05_SlotsHosts.j2 kq l0 x3_2 t246 ((rd_T35 l0 x3_2).f2) x46_16 = some r) ∧ Aside0 (kq ≤ k2) ∧ Aside0 (Below w.heap.size w wc))
                case first =>
                  have H := HC17.out
                  clear HC17
                  by_cases c19 : ((rd_T35 l0 x3_2).f2) = (-1)
                  · rw [if_pos c19] at H
                    have c19b0 : (((rd_T35 l0 x3_2).f2) == (-1)) = true := beq_iff_eq.mpr c19
                    have c19b1 : (((rd_T35 l0 x3_2).f2) != (-1)) = false := bne_eq_false_iff_eq.mpr c19
                    clear c19
                    (first | rw [c19b0] | (simp only [i64_w, i32_w]; rw [c19b0]) | skip)
                    have H' := Aside0.mk H
                    clear H
                    go_wp2
                    go_meet
                    case rel => exact ⟨_, (true), (by first | rfl | (simp; done) | (simp [*]; done)), H', ⟨by have := HJ1.out; have := HK2.out; first | omega | exact Nat.le_refl _⟩, ⟨by repeat (first | (with_reducible first | exact HB.out | apply below_alloc | apply pw_below_drewN | apply below_drew1) | exact HB.out)⟩⟩
                  · rw [if_neg c19] at H
                    have c19b0 : (((rd_T35 l0 x3_2).f2) == (-1)) = false := beq_eq_false_iff_ne.mpr c19
                    have c19b1 : (((rd_T35 l0 x3_2).f2) != (-1)) = true := bne_iff_ne.mpr c19
                    (first | rw [c19b0] | (simp only [i64_w, i32_w]; rw [c19b0]) | skip)
                    by_cases c20 : 0 ≤ ((rd_T35 l0 x3_2).f2)
                    · rw [if_pos c20] at H
                      have c20b0 : decide (0 ≤ ((rd_T35 l0 x3_2).f2)) = true := decide_eq_true c20
                      clear c20
                      by_cases c21 : ((rd_T35 l0 x3_2).f2) < (l0.length : Int)
                      · rw [if_pos c21] at H
                        have c21b0 : decide (((rd_T35 l0 x3_2).f2) < (l0.length : Int)) = true := decide_eq_true c21
                        clear c21
                        have H' := Aside0.mk H
                        clear H
                        have p248 : 0 ≤ (((rd_T35 l0 x3_2).f2) : Int) := of_decide_eq_true (by first | (with_reducible assumption) | assumption)
                        have q248 : ((rd_T35 l0 x3_2).f2) < (l0.length : Int) := of_decide_eq_true (by first | (with_reducible assumption) | assumption)
                        obtain ⟨ad248, A248_3, c248_3, A248_6, c248_6, e248, hx248_0, hx248_1, hx248_2, hx248_3, hx248_4, hx248_5, hx248_6, hl248_3, hi248_3, hl248_6, hi248_6⟩ := at_T35 HR0.out ((rd_T35 l0 x3_2).f2) p248 q248
                        obtain rfl : ad247 = ad248 := (by injection e248)
                        replace hx248_0 := (HB.out.cell (World.block_lt_of_cell? w _ hx248_0)).trans hx248_0
                        replace hx248_1 := (HB.out.cell (World.block_lt_of_cell? w _ hx248_1)).trans hx248_1
                        replace hx248_2 := (HB.out.cell (World.block_lt_of_cell? w _ hx248_2)).trans hx248_2
                        replace hx248_3 := (HB.out.cell (World.block_lt_of_cell? w _ hx248_3)).trans hx248_3
                        replace hx248_4 := (HB.out.cell (World.block_lt_of_cell? w _ hx248_4)).trans hx248_4
                        replace hx248_5 := (HB.out.cell (World.block_lt_of_cell? w _ hx248_5)).trans hx248_5
                        replace hx248_6 := (HB.out.cell (World.block_lt_of_cell? w _ hx248_6)).trans hx248_6
                        have HR248_3 := Aside0.mk hi248_3
                        have HC248_3 := Aside0.mk hl248_3
                        clear hi248_3 hl248_3
                        have HR248_6 := Aside0.mk hi248_6
                        have HC248_6 := Aside0.mk hl248_6
                        clear hi248_6 hl248_6
                        replace p248 := eq_true p248
                        replace q248 := eq_true q248
                        go_wp2
                        go_meet
                        case rel => exact ⟨_, ((((rd_T35 l0 ((rd_T35 l0 x3_2).f2)).f5) == (-1))), (by first | rfl | (simp; done) | (simp [*]; done)), H', ⟨by have := HJ1.out; have := HK2.out; first | omega | exact Nat.le_refl _⟩, ⟨by repeat (first | (with_reducible first | exact HB.out | apply below_alloc | apply pw_below_drewN | apply below_drew1) | exact HB.out)⟩⟩
                      · rw [if_neg c21] at H
                        exact absurd H (by simp)
                    · rw [if_neg c20] at H
                      exact absurd H (by simp)
                case rest =>
                  clear HC17
                  try clear c1
                  try clear c2
                  try clear p2
                  try clear q2
                  try clear hx2
                  try clear c4
                  try clear c5
                  try clear c5b0
                  try clear c5b1
                  try clear c6
                  try clear c9
                  try clear c10
                  try clear c11
                  try clear c12
                  try clear c14
                  try clear c14b0
                  try clear c16
                  try clear c16b0
                  try clear c19
                  try clear c19b0
                  try clear c19b1
                  try clear c20
                  try clear c20b0
                  try clear c21
                  try clear c21b0
                  try clear hx247_0
                  try clear hx247_1
                  try clear hx247_2
                  try clear hx247_3
                  try clear hx247_4
                  try clear hx247_5
                  try clear hx247_6
                  try clear hx248_0
                  try clear hx248_1
                  try clear hx248_2
                  try clear hx248_3
                  try clear hx248_4
                  try clear hx248_5
                  try clear hx248_6
                  try clear p2
                  try clear p247
                  try clear p248
                  try clear q247
                  try clear q248
                  obtain ⟨kq, x46_16, rfl, HA, HJ16, HB⟩ := hcut
                  cases kq with
                  | zero => exact absurd HA.out (by simp [limelightlaw05_SlotsHosts.j2])
                  | succ kj16 =>
                    have H := HA.out
                    clear HA
                    simp only [limelightlaw05_SlotsHosts.j2] at H
                    by_cases c22 : x46_16 = true
                    · subst c22
                      have H1 : (if t246 = (-1) then (limelightlaw05_SlotsHosts.l0 kj16 l0 (wrap64 (x3_2 + 1))) else (none)) = some r := by rw [if_pos rfl] at H; exact H
                      clear H
                      have H := H1
                      clear H1
                      by_cases c23 : t246 = (-1)
                      · rw [if_pos c23] at H
                        have c23b0 : (t246 == (-1)) = true := beq_iff_eq.mpr c23
                        have c23b1 : (t246 != (-1)) = false := bne_eq_false_iff_eq.mpr c23
                        clear c23
                        have H' := Aside0.mk H
                        clear H
                        go_wp2
                        go_roundg kj16
                        case measure => have := HJ1.out; have := HK2.out; have := HJ16.out; omega
                        case rel => exact ⟨(wrap64 (x3_2 + 1)), (by first | rfl | (simp; done) | (simp [*]; done)), H', ⟨by have := HJ1.out; have := HK2.out; have := HJ16.out; omega⟩, ⟨by repeat (first | (with_reducible first | exact HB.out | apply below_alloc | apply pw_below_drewN | apply below_drew1) | exact HB.out)⟩⟩
                      · rw [if_neg c23] at H
                        exact absurd H (by simp)
                    · replace c22 := Bool.eq_false_iff.mpr c22
                      subst c22
                      have H1 : (if 0 ≤ ((rd_T35 l0 x3_2).f2) then (if ((rd_T35 l0 x3_2).f2) < (l0.length : Int) then ((slots_All.f l0 ((rd_T35 l0 ((rd_T35 l0 x3_2).f2)).f5)).bind fun t250 => (if t246 = (-1) then (limelightlaw05_SlotsHosts.j3 kj16 l0 x3_2 t246 ((rd_T35 l0 x3_2).f2) false) else ((limelightref03_In.f kj16 t250 t246).bind fun t253 => (limelightlaw05_SlotsHosts.j3 kj16 l0 x3_2 t246 ((rd_T35 l0 x3_2).f2) (!t253))))) else (none)) else (none)) = some r := by rw [if_neg (show ¬ (false = true) by decide)] at H; exact H
                      clear H
                      have H := H1
                      clear H1
                      by_cases c24 : 0 ≤ ((rd_T35 l0 x3_2).f2)
                      · rw [if_pos c24] at H
                        have c24b0 : decide (0 ≤ ((rd_T35 l0 x3_2).f2)) = true := decide_eq_true c24
                        clear c24
                        by_cases c25 : ((rd_T35 l0 x3_2).f2) < (l0.length : Int)
                        · rw [if_pos c25] at H
                          have c25b0 : decide (((rd_T35 l0 x3_2).f2) < (l0.length : Int)) = true := decide_eq_true c25
                          clear c25
                          replace H := Option.bind_eq_some_iff.mp H
                          obtain ⟨t250, A260, H⟩ := H
                          replace H : (if t246 = (-1) then (limelightlaw05_SlotsHosts.j3 kj16 l0 x3_2 t246 ((rd_T35 l0 x3_2).f2) false) else ((limelightref03_In.f kj16 t250 t246).bind fun t253 => (limelightlaw05_SlotsHosts.j3 kj16 l0 x3_2 t246 ((rd_T35 l0 x3_2).f2) (!t253)))) = some r := H
                          have A26 := Aside0.mk A260
                          clear A260
                          have HC27 := Aside0.mk H
                          clear H
                          have p249 : 0 ≤ (((rd_T35 l0 x3_2).f2) : Int) := of_decide_eq_true (by first | (with_reducible assumption) | assumption)
                          have q249 : ((rd_T35 l0 x3_2).f2) < (l0.length : Int) := of_decide_eq_true (by first | (with_reducible assumption) | assumption)
                          obtain ⟨ad249, A249_3, c249_3, A249_6, c249_6, e249, hx249_0, hx249_1, hx249_2, hx249_3, hx249_4, hx249_5, hx249_6, hl249_3, hi249_3, hl249_6, hi249_6⟩ := at_T35 HR0.out ((rd_T35 l0 x3_2).f2) p249 q249
                          obtain rfl : ad247 = ad249 := (by injection e249)
                          replace hx249_0 := (HB.out.cell (World.block_lt_of_cell? w _ hx249_0)).trans hx249_0
                          replace hx249_1 := (HB.out.cell (World.block_lt_of_cell? w _ hx249_1)).trans hx249_1
                          replace hx249_2 := (HB.out.cell (World.block_lt_of_cell? w _ hx249_2)).trans hx249_2
                          replace hx249_3 := (HB.out.cell (World.block_lt_of_cell? w _ hx249_3)).trans hx249_3
                          replace hx249_4 := (HB.out.cell (World.block_lt_of_cell? w _ hx249_4)).trans hx249_4
                          replace hx249_5 := (HB.out.cell (World.block_lt_of_cell? w _ hx249_5)).trans hx249_5
                          replace hx249_6 := (HB.out.cell (World.block_lt_of_cell? w _ hx249_6)).trans hx249_6
                          have HR249_3 := Aside0.mk hi249_3
                          have HC249_3 := Aside0.mk hl249_3
                          clear hi249_3 hl249_3
                          have HR249_6 := Aside0.mk hi249_6
                          have HC249_6 := Aside0.mk hl249_6
                          clear hi249_6 hl249_6
                          replace p249 := eq_true p249
                          replace q249 := eq_true q249
                          go_upto_region 12 with (first | ((with_reducible refine gate_callee (f := 14) rfl ?_); refine goesL_ (some 55) rfl rfl Try.func14 (by kernel_rfl) rfl #[.slice (some ad247) l0.length c0, .int .i64 ((rd_T35 l0 ((rd_T35 l0 x3_2).f2)).f5)] rfl (by (try simp only [List.map_toArray, List.map_cons, List.map_nil]); first | done | rfl | (simp only [List.length_drop, List.length_take]; rfl)) ?_; (with_reducible refine (slots_All.calls _ _ l0 ((rd_T35 l0 ((rd_T35 l0 x3_2).f2)).f5) t250 _ ?side1 ?side2 A26.out).mono ?_); (case side1 => repeat (first | exact (Kd.C_below HR0.out HB.out) | (with_reducible refine Kd.C_alloc ?_ _) | (with_reducible refine Kd.C_drewN ?_ _) | (with_reducible refine Kd.C_drew ?_))); (case side2 => exact HC0.out); rintro e w28 ⟨v251, rfl, ho0, hb⟩; refine ⟨_, rfl, ?_⟩; have n0_ := Aside0.mk (Kd.R_lower ho0 (below_size (by repeat (first | (with_reducible first | exact HB.out | apply below_alloc | apply pw_below_drewN | apply below_drew1) | exact HB.out)))); have n1_ := Aside0.mk (below_step (by repeat (first | (with_reducible first | exact HB.out | apply below_alloc | apply pw_below_drewN | apply below_drew1) | exact HB.out)) hb); clear HB; have HO252 := n0_; have HB := n1_; clear n0_ n1_; (try clear hb); (try clear hb2); (try clear hk); (try clear hi); (try clear ho0)))
                          (try simp only [Act.put, List.setIfInBounds_toArray, List.set_cons_zero, List.set_cons_succ])
                          go_cut [63] (fun v63 wc => ∃ (kq : Nat) (x63_26 : Bool), v63 = .bool x63_26 ∧ Aside0 (limelightlaw05_SlotsHosts.j3 kq l0 x3_2 t246 ((rd_T35 l0 x3_2).f2) x63_26 = some r) ∧ Aside0 (kq ≤ kj16) ∧ Aside0 (Below w.heap.size w wc))
                          case first =>
                            have H := HC27.out
                            clear HC27
                            by_cases c29 : t246 = (-1)
                            · rw [if_pos c29] at H
                              have c29b0 : (t246 == (-1)) = true := beq_iff_eq.mpr c29
                              have c29b1 : (t246 != (-1)) = false := bne_eq_false_iff_eq.mpr c29
                              clear c29
                              (first | rw [c29b0] | (simp only [i64_w, i32_w]; rw [c29b0]) | skip)
                              have H' := Aside0.mk H
                              clear H
                              go_wp2
                              go_meet
                              case rel => exact ⟨_, (false), (by first | rfl | (simp; done) | (simp [*]; done)), H', ⟨by have := HJ1.out; have := HK2.out; have := HJ16.out; first | omega | exact Nat.le_refl _⟩, ⟨by repeat (first | (with_reducible first | exact HB.out | apply below_alloc | apply pw_below_drewN | apply below_drew1) | exact HB.out)⟩⟩
                            · rw [if_neg c29] at H
                              have c29b0 : (t246 == (-1)) = false := beq_eq_false_iff_ne.mpr c29
                              have c29b1 : (t246 != (-1)) = true := bne_iff_ne.mpr c29
                              (first | rw [c29b0] | (simp only [i64_w, i32_w]; rw [c29b0]) | skip)
                              replace H := Option.bind_eq_some_iff.mp H
                              obtain ⟨t253, A300, H⟩ := H
                              replace H : (limelightlaw05_SlotsHosts.j3 kj16 l0 x3_2 t246 ((rd_T35 l0 x3_2).f2) (!t253)) = some r := H
                              have A30 := Aside0.mk A300
                              clear A300
                              have H' := Aside0.mk H
                              clear H
                              obtain ⟨Ao31, co31, eo31⟩ := Kd.R_slice HO252.out
                              subst eo31
                              go_wp2_with (first | (go_at_call 20; (with_reducible refine (limelightref03_In.calls kj16 _ _ t250 t246 t253 _ ?side1 ?side2 A30.out).mono ?_); (case side1 => repeat (first | exact (Kd.R_reads' HO252.out).2.2 | (with_reducible refine Kd.C_alloc ?_ _) | (with_reducible refine Kd.C_drewN ?_ _) | (with_reducible refine Kd.C_drew ?_))); (case side2 => exact (Kd.R_reads' HO252.out).2.1); rintro e w' ⟨rfl, ⟨nd, rfl⟩⟩))
                              go_meet
                              case rel => exact ⟨_, (!t253), (by first | rfl | (simp; done) | (simp [*]; done)), H', ⟨by have := HJ1.out; have := HK2.out; have := HJ16.out; first | omega | exact Nat.le_refl _⟩, ⟨by repeat (first | (with_reducible first | exact HB.out | apply below_alloc | apply pw_below_drewN | apply below_drew1) | exact HB.out)⟩⟩
                          case rest =>
                            clear HC27
                            try clear c1
                            try clear c2
                            try clear p2
                            try clear q2
                            try clear hx2
                            try clear c4
                            try clear c5
                            try clear c5b0
                            try clear c5b1
                            try clear c6
                            try clear p6
                            try clear c9
                            try clear c10
                            try clear c11
                            try clear c12
                            try clear c14
                            try clear c14b0
                            try clear c16
                            try clear c16b0
                            try clear c19
                            try clear c19b0
                            try clear c19b1
                            try clear c20
                            try clear c20b0
                            try clear c21
                            try clear c21b0
                            try clear c22
                            try clear c23
                            try clear c23b0
                            try clear c23b1
                            try clear c24
                            try clear c24b0
                            try clear p24
                            try clear q24
                            try clear hx24
                            try clear c25
                            try clear c25b0
                            try clear c29
                            try clear c29b0
                            try clear c29b1
                            try clear hx247_0
                            try clear hx247_1
                            try clear hx247_2
                            try clear hx247_3
                            try clear hx247_4
                            try clear hx247_5
                            try clear hx247_6
                            try clear hx248_0
                            try clear hx248_1
                            try clear hx248_2
                            try clear hx248_3
                            try clear hx248_4
                            try clear hx248_5
                            try clear hx248_6
                            try clear hx249_0
                            try clear hx249_1
                            try clear hx249_2
                            try clear hx249_3
                            try clear hx249_4
                            try clear hx249_5
                            try clear hx249_6
                            try clear p2
                            try clear p247
                            try clear p248
                            try clear p249
                            try clear q2
                            try clear q247
                            try clear q248
                            try clear q249
                            obtain ⟨kq, x63_26, rfl, HA, HJ26, HB⟩ := hcut
                            cases kq with
                            | zero => exact absurd HA.out (by simp [limelightlaw05_SlotsHosts.j3])
                            | succ kj26 =>
                              have H := HA.out
                              clear HA
                              simp only [limelightlaw05_SlotsHosts.j3] at H
                              by_cases c32 : x63_26 = true
                              · subst c32
                                have H1 : (none) = some r := by rw [if_pos rfl] at H; exact H
                                clear H
                                have H := H1
                                clear H1
                                exact absurd H (by simp)
                              · replace c32 := Bool.eq_false_iff.mpr c32
                                subst c32
                                have H1 : (limelightlaw05_SlotsHosts.l1 kj26 l0 x3_2 t246 ((rd_T35 l0 x3_2).f2) 0) = some r := by rw [if_neg (show ¬ (false = true) by decide)] at H; exact H
                                clear H
                                have H := H1
                                clear H1
                                have H' := Aside0.mk H
                                clear H
                                go_wp2
                                go_loopg [7] kj26 (fun kq v7 w' => ∃ (x7_5 : Int), v7 = .int .i64 x7_5 ∧ Aside0 (limelightlaw05_SlotsHosts.l1 kq l0 x3_2 t246 ((rd_T35 l0 x3_2).f2) x7_5 = some r) ∧ Aside0 (kq ≤ kj26) ∧ Aside0 (Below w.heap.size w w'))
                                case atStart => exact ⟨(0), (by first | rfl | (simp; done) | (simp [*]; done)), H', ⟨Nat.le_refl _⟩, ⟨by repeat (first | (with_reducible first | exact HB.out | apply below_alloc | apply pw_below_drewN | apply below_drew1) | exact HB.out)⟩⟩
                                case round =>
                                  clear H'
                                  try clear c1
                                  try clear c2
                                  try clear p2
                                  try clear q2
                                  try clear hx2
                                  try clear c3
                                  try clear c4
                                  try clear c5
                                  try clear c5b0
                                  try clear c5b1
                                  try clear c6
                                  try clear p6
                                  try clear c9
                                  try clear c10
                                  try clear c11
                                  try clear c12
                                  try clear c14
                                  try clear c14b0
                                  try clear c16
                                  try clear c16b0
                                  try clear c19
                                  try clear c19b0
                                  try clear c19b1
                                  try clear c20
                                  try clear c20b0
                                  try clear c21
                                  try clear c21b0
                                  try clear c22
                                  try clear c23
                                  try clear c23b0
                                  try clear c23b1
                                  try clear c24
                                  try clear c24b0
                                  try clear p24
                                  try clear q24
                                  try clear hx24
                                  try clear c25
                                  try clear c25b0
                                  try clear c29
                                  try clear c29b0
                                  try clear c29b1
                                  try clear c32
                                  try clear hx247_0
                                  try clear hx247_1
                                  try clear hx247_2
                                  try clear hx247_3
                                  try clear hx247_4
                                  try clear hx247_5
                                  try clear hx247_6
                                  try clear hx248_0
                                  try clear hx248_1
                                  try clear hx248_2
                                  try clear hx248_3
                                  try clear hx248_4
                                  try clear hx248_5
                                  try clear hx248_6
                                  try clear hx249_0
                                  try clear hx249_1
                                  try clear hx249_2
                                  try clear hx249_3
                                  try clear hx249_4
                                  try clear hx249_5
                                  try clear hx249_6
                                  try clear p2
                                  try clear p24
                                  try clear p247
                                  try clear p248
                                  try clear p249
                                  try clear p6
                                  try clear q2
                                  try clear q24
                                  try clear q247
                                  try clear q248
                                  try clear q249
                                  obtain ⟨x7_5, rfl, HA, HK5, HB⟩ := hrel
                                  cases gk with
                                  | zero => exact absurd HA.out (by simp [limelightlaw05_SlotsHosts.l1])
                                  | succ k5 =>
                                    have H := HA.out
                                    clear HA
                                    simp only [limelightlaw05_SlotsHosts.l1] at H
                                    by_cases c33 : 0 ≤ ((rd_T35 l0 x3_2).f2)
                                    · rw [if_pos c33] at H
                                      have c33b0 : decide (0 ≤ ((rd_T35 l0 x3_2).f2)) = true := decide_eq_true c33
                                      clear c33
                                      by_cases c34 : ((rd_T35 l0 x3_2).f2) < (l0.length : Int)
                                      · rw [if_pos c34] at H
                                        have c34b0 : decide (((rd_T35 l0 x3_2).f2) < (l0.length : Int)) = true := decide_eq_true c34
                                        clear c34
                                        by_cases c35 : x7_5 < (((rd_T35 l0 ((rd_T35 l0 x3_2).f2)).f3).length : Int)
                                        · rw [if_pos c35] at H
                                          have c35b0 : decide (x7_5 < (((rd_T35 l0 ((rd_T35 l0 x3_2).f2)).f3).length : Int)) = true := decide_eq_true c35
                                          clear c35
                                          by_cases c36 : 0 ≤ x7_5
                                          · rw [if_pos c36] at H
                                            have c36b0 : decide (0 ≤ x7_5) = true := decide_eq_true c36
                                            clear c36
                                            by_cases c37 : 0 ≤ x3_2
                                            · rw [if_pos c37] at H
                                              have c37b0 : decide (0 ≤ x3_2) = true := decide_eq_true c37
                                              clear c37
                                              by_cases c38 : x3_2 < (l0.length : Int)
                                              · rw [if_pos c38] at H
                                                have c38b0 : decide (x3_2 < (l0.length : Int)) = true := decide_eq_true c38
                                                clear c38
                                                by_cases c39 : ((rd_T35 l0 x3_2).f0) = 2
                                                · rw [if_pos c39] at H
                                                  have c39b0 : (((rd_T35 l0 x3_2).f0) == 2) = true := beq_iff_eq.mpr c39
                                                  have c39b1 : (((rd_T35 l0 x3_2).f0) != 2) = false := bne_eq_false_iff_eq.mpr c39
                                                  clear c39
                                                  by_cases c40 : 0 ≤ (rd ((rd_T35 l0 ((rd_T35 l0 x3_2).f2)).f3) x7_5)
                                                  · rw [if_pos c40] at H
                                                    have c40b0 : decide (0 ≤ (rd ((rd_T35 l0 ((rd_T35 l0 x3_2).f2)).f3) x7_5)) = true := decide_eq_true c40
                                                    clear c40
                                                    by_cases c41 : (rd ((rd_T35 l0 ((rd_T35 l0 x3_2).f2)).f3) x7_5) < (l0.length : Int)
                                                    · rw [if_pos c41] at H
                                                      have c41b0 : decide ((rd ((rd_T35 l0 ((rd_T35 l0 x3_2).f2)).f3) x7_5) < (l0.length : Int)) = true := decide_eq_true c41
                                                      clear c41
                                                      by_cases c42 : ((rd_T35 l0 (rd ((rd_T35 l0 ((rd_T35 l0 x3_2).f2)).f3) x7_5)).f0) = 2
                                                      · rw [if_pos c42] at H
                                                        have c42b0 : (((rd_T35 l0 (rd ((rd_T35 l0 ((rd_T35 l0 x3_2).f2)).f3) x7_5)).f0) == 2) = true := beq_iff_eq.mpr c42
                                                        have c42b1 : (((rd_T35 l0 (rd ((rd_T35 l0 ((rd_T35 l0 x3_2).f2)).f3) x7_5)).f0) != 2) = false := bne_eq_false_iff_eq.mpr c42
                                                        clear c42
                                                        replace H := Option.bind_eq_some_iff.mp H
                                                        obtain ⟨t259, A430, H⟩ := H
                                                        replace H : (if t259 = t246 then (limelightlaw05_SlotsHosts.l1 k5 l0 x3_2 t246 ((rd_T35 l0 x3_2).f2) (wrap64 (x7_5 + 1))) else (none)) = some r := H
                                                        have A43 := Aside0.mk A430
                                                        clear A430
                                                        by_cases c44 : t259 = t246
                                                        · rw [if_pos c44] at H
                                                          have c44b0 : (t259 == t246) = true := beq_iff_eq.mpr c44
                                                          have c44b1 : (t259 != t246) = false := bne_eq_false_iff_eq.mpr c44
                                                          clear c44
                                                          have H' := Aside0.mk H
                                                          clear H
                                                          have p254 : 0 ≤ (((rd_T35 l0 x3_2).f2) : Int) := of_decide_eq_true (by first | (with_reducible assumption) | assumption)
                                                          have q254 : ((rd_T35 l0 x3_2).f2) < (l0.length : Int) := of_decide_eq_true (by first | (with_reducible assumption) | assumption)
                                                          obtain ⟨ad254, A254_3, c254_3, A254_6, c254_6, e254, hx254_0, hx254_1, hx254_2, hx254_3, hx254_4, hx254_5, hx254_6, hl254_3, hi254_3, hl254_6, hi254_6⟩ := at_T35 HR0.out ((rd_T35 l0 x3_2).f2) p254 q254
                                                          obtain rfl : ad247 = ad254 := (by injection e254)
                                                          replace hx254_0 := (HB.out.cell (World.block_lt_of_cell? w _ hx254_0)).trans hx254_0
                                                          replace hx254_1 := (HB.out.cell (World.block_lt_of_cell? w _ hx254_1)).trans hx254_1
                                                          replace hx254_2 := (HB.out.cell (World.block_lt_of_cell? w _ hx254_2)).trans hx254_2
                                                          replace hx254_3 := (HB.out.cell (World.block_lt_of_cell? w _ hx254_3)).trans hx254_3
                                                          replace hx254_4 := (HB.out.cell (World.block_lt_of_cell? w _ hx254_4)).trans hx254_4
                                                          replace hx254_5 := (HB.out.cell (World.block_lt_of_cell? w _ hx254_5)).trans hx254_5
                                                          replace hx254_6 := (HB.out.cell (World.block_lt_of_cell? w _ hx254_6)).trans hx254_6
                                                          have HR254_3 := Aside0.mk hi254_3
                                                          have HC254_3 := Aside0.mk hl254_3
                                                          clear hi254_3 hl254_3
                                                          have HR254_6 := Aside0.mk hi254_6
                                                          have HC254_6 := Aside0.mk hl254_6
                                                          clear hi254_6 hl254_6
                                                          replace p254 := eq_true p254
                                                          replace q254 := eq_true q254
                                                          have p255 : 0 ≤ (((rd_T35 l0 x3_2).f2) : Int) := of_decide_eq_true (by first | (with_reducible assumption) | assumption)
                                                          have q255 : ((rd_T35 l0 x3_2).f2) < (l0.length : Int) := of_decide_eq_true (by first | (with_reducible assumption) | assumption)
                                                          obtain ⟨ad255, A255_3, c255_3, A255_6, c255_6, e255, hx255_0, hx255_1, hx255_2, hx255_3, hx255_4, hx255_5, hx255_6, hl255_3, hi255_3, hl255_6, hi255_6⟩ := at_T35 HR0.out ((rd_T35 l0 x3_2).f2) p255 q255
                                                          obtain rfl : ad247 = ad255 := (by injection e255)
                                                          replace hx255_0 := (HB.out.cell (World.block_lt_of_cell? w _ hx255_0)).trans hx255_0
                                                          replace hx255_1 := (HB.out.cell (World.block_lt_of_cell? w _ hx255_1)).trans hx255_1
                                                          replace hx255_2 := (HB.out.cell (World.block_lt_of_cell? w _ hx255_2)).trans hx255_2
                                                          replace hx255_3 := (HB.out.cell (World.block_lt_of_cell? w _ hx255_3)).trans hx255_3
                                                          replace hx255_4 := (HB.out.cell (World.block_lt_of_cell? w _ hx255_4)).trans hx255_4
                                                          replace hx255_5 := (HB.out.cell (World.block_lt_of_cell? w _ hx255_5)).trans hx255_5
                                                          replace hx255_6 := (HB.out.cell (World.block_lt_of_cell? w _ hx255_6)).trans hx255_6
                                                          have HR255_3 := Aside0.mk hi255_3
                                                          have HC255_3 := Aside0.mk hl255_3
                                                          clear hi255_3 hl255_3
                                                          have HR255_6 := Aside0.mk hi255_6
                                                          have HC255_6 := Aside0.mk hl255_6
                                                          clear hi255_6 hl255_6
                                                          replace p255 := eq_true p255
                                                          replace q255 := eq_true q255
                                                          have ea_ := Option.some.inj (hx254_3.symm.trans hx255_3)
                                                          injection ea_ with ea_ en_ ec_
                                                          subst ea_
                                                          subst ec_
                                                          clear en_
                                                          have ea_ := Option.some.inj (hx254_6.symm.trans hx255_6)
                                                          injection ea_ with ea_ en_ ec_
                                                          subst ea_
                                                          subst ec_
                                                          clear en_
                                                          have p256 : 0 ≤ (x7_5 : Int) := of_decide_eq_true (by first | (with_reducible assumption) | assumption)
                                                          have q256 : x7_5 < (((rd_T35 l0 ((rd_T35 l0 x3_2).f2)).f3).length : Int) := of_decide_eq_true (by first | (with_reducible assumption) | assumption)
                                                          obtain ⟨ad256, e256, hx256_0⟩ := Kd.at_int HR255_3.out x7_5 p256 q256
                                                          cases e256
                                                          replace hx256_0 := (HB.out.cell (World.block_lt_of_cell? w _ hx256_0)).trans hx256_0
                                                          replace p256 := eq_true p256
                                                          replace q256 := eq_true q256
                                                          have p257 : 0 ≤ (x3_2 : Int) := of_decide_eq_true (by first | (with_reducible assumption) | assumption)
                                                          have q257 : x3_2 < (l0.length : Int) := of_decide_eq_true (by first | (with_reducible assumption) | assumption)
                                                          obtain ⟨ad257, A257_3, c257_3, A257_6, c257_6, e257, hx257_0, hx257_1, hx257_2, hx257_3, hx257_4, hx257_5, hx257_6, hl257_3, hi257_3, hl257_6, hi257_6⟩ := at_T35 HR0.out x3_2 p257 q257
                                                          obtain rfl : ad247 = ad257 := (by injection e257)
                                                          replace hx257_0 := (HB.out.cell (World.block_lt_of_cell? w _ hx257_0)).trans hx257_0
                                                          replace hx257_1 := (HB.out.cell (World.block_lt_of_cell? w _ hx257_1)).trans hx257_1
                                                          replace hx257_2 := (HB.out.cell (World.block_lt_of_cell? w _ hx257_2)).trans hx257_2
                                                          replace hx257_3 := (HB.out.cell (World.block_lt_of_cell? w _ hx257_3)).trans hx257_3
                                                          replace hx257_4 := (HB.out.cell (World.block_lt_of_cell? w _ hx257_4)).trans hx257_4
                                                          replace hx257_5 := (HB.out.cell (World.block_lt_of_cell? w _ hx257_5)).trans hx257_5
                                                          replace hx257_6 := (HB.out.cell (World.block_lt_of_cell? w _ hx257_6)).trans hx257_6
                                                          have HR257_3 := Aside0.mk hi257_3
                                                          have HC257_3 := Aside0.mk hl257_3
                                                          clear hi257_3 hl257_3
                                                          have HR257_6 := Aside0.mk hi257_6
                                                          have HC257_6 := Aside0.mk hl257_6
                                                          clear hi257_6 hl257_6
                                                          replace p257 := eq_true p257
                                                          replace q257 := eq_true q257
                                                          have p258 : 0 ≤ ((rd ((rd_T35 l0 ((rd_T35 l0 x3_2).f2)).f3) x7_5) : Int) := of_decide_eq_true (by first | (with_reducible assumption) | assumption)
                                                          have q258 : (rd ((rd_T35 l0 ((rd_T35 l0 x3_2).f2)).f3) x7_5) < (l0.length : Int) := of_decide_eq_true (by first | (with_reducible assumption) | assumption)
                                                          obtain ⟨ad258, A258_3, c258_3, A258_6, c258_6, e258, hx258_0, hx258_1, hx258_2, hx258_3, hx258_4, hx258_5, hx258_6, hl258_3, hi258_3, hl258_6, hi258_6⟩ := at_T35 HR0.out (rd ((rd_T35 l0 ((rd_T35 l0 x3_2).f2)).f3) x7_5) p258 q258
                                                          obtain rfl : ad247 = ad258 := (by injection e258)
                                                          replace hx258_0 := (HB.out.cell (World.block_lt_of_cell? w _ hx258_0)).trans hx258_0
                                                          replace hx258_1 := (HB.out.cell (World.block_lt_of_cell? w _ hx258_1)).trans hx258_1
                                                          replace hx258_2 := (HB.out.cell (World.block_lt_of_cell? w _ hx258_2)).trans hx258_2
                                                          replace hx258_3 := (HB.out.cell (World.block_lt_of_cell? w _ hx258_3)).trans hx258_3
                                                          replace hx258_4 := (HB.out.cell (World.block_lt_of_cell? w _ hx258_4)).trans hx258_4
                                                          replace hx258_5 := (HB.out.cell (World.block_lt_of_cell? w _ hx258_5)).trans hx258_5
                                                          replace hx258_6 := (HB.out.cell (World.block_lt_of_cell? w _ hx258_6)).trans hx258_6
                                                          have HR258_3 := Aside0.mk hi258_3
                                                          have HC258_3 := Aside0.mk hl258_3
                                                          clear hi258_3 hl258_3
                                                          have HR258_6 := Aside0.mk hi258_6
                                                          have HC258_6 := Aside0.mk hl258_6
                                                          clear hi258_6 hl258_6
                                                          replace p258 := eq_true p258
                                                          replace q258 := eq_true q258
                                                          go_wp2_with (first | (go_at_call 12; (with_reducible refine (slots_Of.calls _ _ l0 (rd ((rd_T35 l0 ((rd_T35 l0 x3_2).f2)).f3) x7_5) t259 _ ?side1 ?side2 A43.out).mono ?_); (case side1 => repeat (first | exact (Kd.C_below HR0.out HB.out) | (with_reducible refine Kd.C_alloc ?_ _) | (with_reducible refine Kd.C_drewN ?_ _) | (with_reducible refine Kd.C_drew ?_))); (case side2 => exact HC0.out); rintro e w45 ⟨rfl, hb⟩; have n0_ := Aside0.mk (below_step (by repeat (first | (with_reducible first | exact HB.out | apply below_alloc | apply pw_below_drewN | apply below_drew1) | exact HB.out)) hb); clear HB; have HB := n0_; clear n0_; (try clear hb); (try clear hb2); (try clear hk); (try clear hi)))
                                                          go_roundg k5
                                                          case measure => have := HJ1.out; have := HK2.out; have := HJ16.out; have := HJ26.out; have := HK5.out; omega
                                                          case rel => exact ⟨(wrap64 (x7_5 + 1)), (by first | rfl | (simp; done) | (simp [*]; done)), H', ⟨by have := HJ1.out; have := HK2.out; have := HJ16.out; have := HJ26.out; have := HK5.out; omega⟩, ⟨by repeat (first | (with_reducible first | exact HB.out | apply below_alloc | apply pw_below_drewN | apply below_drew1) | exact HB.out)⟩⟩
                                                        · rw [if_neg c44] at H
                                                          exact absurd H (by simp)
                                                      · rw [if_neg c42] at H
                                                        have c42b0 : (((rd_T35 l0 (rd ((rd_T35 l0 ((rd_T35 l0 x3_2).f2)).f3) x7_5)).f0) == 2) = false := beq_eq_false_iff_ne.mpr c42
                                                        have c42b1 : (((rd_T35 l0 (rd ((rd_T35 l0 ((rd_T35 l0 x3_2).f2)).f3) x7_5)).f0) != 2) = true := bne_iff_ne.mpr c42
                                                        have H' := Aside0.mk H
                                                        clear H
                                                        have p254 : 0 ≤ (((rd_T35 l0 x3_2).f2) : Int) := of_decide_eq_true (by first | (with_reducible assumption) | assumption)
                                                        have q254 : ((rd_T35 l0 x3_2).f2) < (l0.length : Int) := of_decide_eq_true (by first | (with_reducible assumption) | assumption)
                                                        obtain ⟨ad254, A254_3, c254_3, A254_6, c254_6, e254, hx254_0, hx254_1, hx254_2, hx254_3, hx254_4, hx254_5, hx254_6, hl254_3, hi254_3, hl254_6, hi254_6⟩ := at_T35 HR0.out ((rd_T35 l0 x3_2).f2) p254 q254
                                                        obtain rfl : ad247 = ad254 := (by injection e254)
                                                        replace hx254_0 := (HB.out.cell (World.block_lt_of_cell? w _ hx254_0)).trans hx254_0
                                                        replace hx254_1 := (HB.out.cell (World.block_lt_of_cell? w _ hx254_1)).trans hx254_1
                                                        replace hx254_2 := (HB.out.cell (World.block_lt_of_cell? w _ hx254_2)).trans hx254_2
                                                        replace hx254_3 := (HB.out.cell (World.block_lt_of_cell? w _ hx254_3)).trans hx254_3
                                                        replace hx254_4 := (HB.out.cell (World.block_lt_of_cell? w _ hx254_4)).trans hx254_4
                                                        replace hx254_5 := (HB.out.cell (World.block_lt_of_cell? w _ hx254_5)).trans hx254_5
                                                        replace hx254_6 := (HB.out.cell (World.block_lt_of_cell? w _ hx254_6)).trans hx254_6
                                                        have HR254_3 := Aside0.mk hi254_3
                                                        have HC254_3 := Aside0.mk hl254_3
                                                        clear hi254_3 hl254_3
                                                        have HR254_6 := Aside0.mk hi254_6
                                                        have HC254_6 := Aside0.mk hl254_6
                                                        clear hi254_6 hl254_6
                                                        replace p254 := eq_true p254
                                                        replace q254 := eq_true q254
                                                        have p255 : 0 ≤ (((rd_T35 l0 x3_2).f2) : Int) := of_decide_eq_true (by first | (with_reducible assumption) | assumption)
                                                        have q255 : ((rd_T35 l0 x3_2).f2) < (l0.length : Int) := of_decide_eq_true (by first | (with_reducible assumption) | assumption)
                                                        obtain ⟨ad255, A255_3, c255_3, A255_6, c255_6, e255, hx255_0, hx255_1, hx255_2, hx255_3, hx255_4, hx255_5, hx255_6, hl255_3, hi255_3, hl255_6, hi255_6⟩ := at_T35 HR0.out ((rd_T35 l0 x3_2).f2) p255 q255
                                                        obtain rfl : ad247 = ad255 := (by injection e255)
                                                        replace hx255_0 := (HB.out.cell (World.block_lt_of_cell? w _ hx255_0)).trans hx255_0
                                                        replace hx255_1 := (HB.out.cell (World.block_lt_of_cell? w _ hx255_1)).trans hx255_1
                                                        replace hx255_2 := (HB.out.cell (World.block_lt_of_cell? w _ hx255_2)).trans hx255_2
                                                        replace hx255_3 := (HB.out.cell (World.block_lt_of_cell? w _ hx255_3)).trans hx255_3
                                                        replace hx255_4 := (HB.out.cell (World.block_lt_of_cell? w _ hx255_4)).trans hx255_4
                                                        replace hx255_5 := (HB.out.cell (World.block_lt_of_cell? w _ hx255_5)).trans hx255_5
                                                        replace hx255_6 := (HB.out.cell (World.block_lt_of_cell? w _ hx255_6)).trans hx255_6
                                                        have HR255_3 := Aside0.mk hi255_3
                                                        have HC255_3 := Aside0.mk hl255_3
                                                        clear hi255_3 hl255_3
                                                        have HR255_6 := Aside0.mk hi255_6
                                                        have HC255_6 := Aside0.mk hl255_6
                                                        clear hi255_6 hl255_6
                                                        replace p255 := eq_true p255
                                                        replace q255 := eq_true q255
                                                        have ea_ := Option.some.inj (hx254_3.symm.trans hx255_3)
                                                        injection ea_ with ea_ en_ ec_
                                                        subst ea_
                                                        subst ec_
                                                        clear en_
                                                        have ea_ := Option.some.inj (hx254_6.symm.trans hx255_6)
                                                        injection ea_ with ea_ en_ ec_
                                                        subst ea_
                                                        subst ec_
                                                        clear en_
                                                        have p256 : 0 ≤ (x7_5 : Int) := of_decide_eq_true (by first | (with_reducible assumption) | assumption)
                                                        have q256 : x7_5 < (((rd_T35 l0 ((rd_T35 l0 x3_2).f2)).f3).length : Int) := of_decide_eq_true (by first | (with_reducible assumption) | assumption)
                                                        obtain ⟨ad256, e256, hx256_0⟩ := Kd.at_int HR255_3.out x7_5 p256 q256
                                                        cases e256
                                                        replace hx256_0 := (HB.out.cell (World.block_lt_of_cell? w _ hx256_0)).trans hx256_0
                                                        replace p256 := eq_true p256
                                                        replace q256 := eq_true q256
                                                        have p257 : 0 ≤ (x3_2 : Int) := of_decide_eq_true (by first | (with_reducible assumption) | assumption)
                                                        have q257 : x3_2 < (l0.length : Int) := of_decide_eq_true (by first | (with_reducible assumption) | assumption)
                                                        obtain ⟨ad257, A257_3, c257_3, A257_6, c257_6, e257, hx257_0, hx257_1, hx257_2, hx257_3, hx257_4, hx257_5, hx257_6, hl257_3, hi257_3, hl257_6, hi257_6⟩ := at_T35 HR0.out x3_2 p257 q257
                                                        obtain rfl : ad247 = ad257 := (by injection e257)
                                                        replace hx257_0 := (HB.out.cell (World.block_lt_of_cell? w _ hx257_0)).trans hx257_0
                                                        replace hx257_1 := (HB.out.cell (World.block_lt_of_cell? w _ hx257_1)).trans hx257_1
                                                        replace hx257_2 := (HB.out.cell (World.block_lt_of_cell? w _ hx257_2)).trans hx257_2
                                                        replace hx257_3 := (HB.out.cell (World.block_lt_of_cell? w _ hx257_3)).trans hx257_3
                                                        replace hx257_4 := (HB.out.cell (World.block_lt_of_cell? w _ hx257_4)).trans hx257_4
                                                        replace hx257_5 := (HB.out.cell (World.block_lt_of_cell? w _ hx257_5)).trans hx257_5
                                                        replace hx257_6 := (HB.out.cell (World.block_lt_of_cell? w _ hx257_6)).trans hx257_6
                                                        have HR257_3 := Aside0.mk hi257_3
                                                        have HC257_3 := Aside0.mk hl257_3
                                                        clear hi257_3 hl257_3
                                                        have HR257_6 := Aside0.mk hi257_6
                                                        have HC257_6 := Aside0.mk hl257_6
                                                        clear hi257_6 hl257_6
                                                        replace p257 := eq_true p257
                                                        replace q257 := eq_true q257
                                                        have p258 : 0 ≤ ((rd ((rd_T35 l0 ((rd_T35 l0 x3_2).f2)).f3) x7_5) : Int) := of_decide_eq_true (by first | (with_reducible assumption) | assumption)
                                                        have q258 : (rd ((rd_T35 l0 ((rd_T35 l0 x3_2).f2)).f3) x7_5) < (l0.length : Int) := of_decide_eq_true (by first | (with_reducible assumption) | assumption)
                                                        obtain ⟨ad258, A258_3, c258_3, A258_6, c258_6, e258, hx258_0, hx258_1, hx258_2, hx258_3, hx258_4, hx258_5, hx258_6, hl258_3, hi258_3, hl258_6, hi258_6⟩ := at_T35 HR0.out (rd ((rd_T35 l0 ((rd_T35 l0 x3_2).f2)).f3) x7_5) p258 q258
                                                        obtain rfl : ad247 = ad258 := (by injection e258)
                                                        replace hx258_0 := (HB.out.cell (World.block_lt_of_cell? w _ hx258_0)).trans hx258_0
                                                        replace hx258_1 := (HB.out.cell (World.block_lt_of_cell? w _ hx258_1)).trans hx258_1
                                                        replace hx258_2 := (HB.out.cell (World.block_lt_of_cell? w _ hx258_2)).trans hx258_2
                                                        replace hx258_3 := (HB.out.cell (World.block_lt_of_cell? w _ hx258_3)).trans hx258_3
                                                        replace hx258_4 := (HB.out.cell (World.block_lt_of_cell? w _ hx258_4)).trans hx258_4
                                                        replace hx258_5 := (HB.out.cell (World.block_lt_of_cell? w _ hx258_5)).trans hx258_5
                                                        replace hx258_6 := (HB.out.cell (World.block_lt_of_cell? w _ hx258_6)).trans hx258_6
                                                        have HR258_3 := Aside0.mk hi258_3
                                                        have HC258_3 := Aside0.mk hl258_3
                                                        clear hi258_3 hl258_3
                                                        have HR258_6 := Aside0.mk hi258_6
                                                        have HC258_6 := Aside0.mk hl258_6
                                                        clear hi258_6 hl258_6
                                                        replace p258 := eq_true p258
                                                        replace q258 := eq_true q258
                                                        go_wp2
                                                        go_roundg k5
                                                        case measure => have := HJ1.out; have := HK2.out; have := HJ16.out; have := HJ26.out; have := HK5.out; omega
                                                        case rel => exact ⟨(wrap64 (x7_5 + 1)), (by first | rfl | (simp; done) | (simp [*]; done)), H', ⟨by have := HJ1.out; have := HK2.out; have := HJ16.out; have := HJ26.out; have := HK5.out; omega⟩, ⟨by repeat (first | (with_reducible first | exact HB.out | apply below_alloc | apply pw_below_drewN | apply below_drew1) | exact HB.out)⟩⟩
                                                    · rw [if_neg c41] at H
                                                      exact absurd H (by simp)
                                                  · rw [if_neg c40] at H
                                                    exact absurd H (by simp)
                                                · rw [if_neg c39] at H
                                                  have c39b0 : (((rd_T35 l0 x3_2).f0) == 2) = false := beq_eq_false_iff_ne.mpr c39
                                                  have c39b1 : (((rd_T35 l0 x3_2).f0) != 2) = true := bne_iff_ne.mpr c39
                                                  have H' := Aside0.mk H
                                                  clear H
                                                  have p254 : 0 ≤ (((rd_T35 l0 x3_2).f2) : Int) := of_decide_eq_true (by first | (with_reducible assumption) | assumption)
                                                  have q254 : ((rd_T35 l0 x3_2).f2) < (l0.length : Int) := of_decide_eq_true (by first | (with_reducible assumption) | assumption)
                                                  obtain ⟨ad254, A254_3, c254_3, A254_6, c254_6, e254, hx254_0, hx254_1, hx254_2, hx254_3, hx254_4, hx254_5, hx254_6, hl254_3, hi254_3, hl254_6, hi254_6⟩ := at_T35 HR0.out ((rd_T35 l0 x3_2).f2) p254 q254
                                                  obtain rfl : ad247 = ad254 := (by injection e254)
                                                  replace hx254_0 := (HB.out.cell (World.block_lt_of_cell? w _ hx254_0)).trans hx254_0
                                                  replace hx254_1 := (HB.out.cell (World.block_lt_of_cell? w _ hx254_1)).trans hx254_1
                                                  replace hx254_2 := (HB.out.cell (World.block_lt_of_cell? w _ hx254_2)).trans hx254_2
                                                  replace hx254_3 := (HB.out.cell (World.block_lt_of_cell? w _ hx254_3)).trans hx254_3
                                                  replace hx254_4 := (HB.out.cell (World.block_lt_of_cell? w _ hx254_4)).trans hx254_4
                                                  replace hx254_5 := (HB.out.cell (World.block_lt_of_cell? w _ hx254_5)).trans hx254_5
                                                  replace hx254_6 := (HB.out.cell (World.block_lt_of_cell? w _ hx254_6)).trans hx254_6
                                                  have HR254_3 := Aside0.mk hi254_3
                                                  have HC254_3 := Aside0.mk hl254_3
                                                  clear hi254_3 hl254_3
                                                  have HR254_6 := Aside0.mk hi254_6
                                                  have HC254_6 := Aside0.mk hl254_6
                                                  clear hi254_6 hl254_6
                                                  replace p254 := eq_true p254
                                                  replace q254 := eq_true q254
                                                  have p255 : 0 ≤ (((rd_T35 l0 x3_2).f2) : Int) := of_decide_eq_true (by first | (with_reducible assumption) | assumption)
                                                  have q255 : ((rd_T35 l0 x3_2).f2) < (l0.length : Int) := of_decide_eq_true (by first | (with_reducible assumption) | assumption)
                                                  obtain ⟨ad255, A255_3, c255_3, A255_6, c255_6, e255, hx255_0, hx255_1, hx255_2, hx255_3, hx255_4, hx255_5, hx255_6, hl255_3, hi255_3, hl255_6, hi255_6⟩ := at_T35 HR0.out ((rd_T35 l0 x3_2).f2) p255 q255
                                                  obtain rfl : ad247 = ad255 := (by injection e255)
                                                  replace hx255_0 := (HB.out.cell (World.block_lt_of_cell? w _ hx255_0)).trans hx255_0
                                                  replace hx255_1 := (HB.out.cell (World.block_lt_of_cell? w _ hx255_1)).trans hx255_1
                                                  replace hx255_2 := (HB.out.cell (World.block_lt_of_cell? w _ hx255_2)).trans hx255_2
                                                  replace hx255_3 := (HB.out.cell (World.block_lt_of_cell? w _ hx255_3)).trans hx255_3
                                                  replace hx255_4 := (HB.out.cell (World.block_lt_of_cell? w _ hx255_4)).trans hx255_4
                                                  replace hx255_5 := (HB.out.cell (World.block_lt_of_cell? w _ hx255_5)).trans hx255_5
                                                  replace hx255_6 := (HB.out.cell (World.block_lt_of_cell? w _ hx255_6)).trans hx255_6
                                                  have HR255_3 := Aside0.mk hi255_3
                                                  have HC255_3 := Aside0.mk hl255_3
                                                  clear hi255_3 hl255_3
                                                  have HR255_6 := Aside0.mk hi255_6
                                                  have HC255_6 := Aside0.mk hl255_6
                                                  clear hi255_6 hl255_6
                                                  replace p255 := eq_true p255
                                                  replace q255 := eq_true q255
                                                  have ea_ := Option.some.inj (hx254_3.symm.trans hx255_3)
                                                  injection ea_ with ea_ en_ ec_
                                                  subst ea_
                                                  subst ec_
                                                  clear en_
                                                  have ea_ := Option.some.inj (hx254_6.symm.trans hx255_6)
                                                  injection ea_ with ea_ en_ ec_
                                                  subst ea_
                                                  subst ec_
                                                  clear en_
                                                  have p256 : 0 ≤ (x7_5 : Int) := of_decide_eq_true (by first | (with_reducible assumption) | assumption)
                                                  have q256 : x7_5 < (((rd_T35 l0 ((rd_T35 l0 x3_2).f2)).f3).length : Int) := of_decide_eq_true (by first | (with_reducible assumption) | assumption)
                                                  obtain ⟨ad256, e256, hx256_0⟩ := Kd.at_int HR255_3.out x7_5 p256 q256
                                                  cases e256
                                                  replace hx256_0 := (HB.out.cell (World.block_lt_of_cell? w _ hx256_0)).trans hx256_0
                                                  replace p256 := eq_true p256
                                                  replace q256 := eq_true q256
                                                  have p257 : 0 ≤ (x3_2 : Int) := of_decide_eq_true (by first | (with_reducible assumption) | assumption)
                                                  have q257 : x3_2 < (l0.length : Int) := of_decide_eq_true (by first | (with_reducible assumption) | assumption)
                                                  obtain ⟨ad257, A257_3, c257_3, A257_6, c257_6, e257, hx257_0, hx257_1, hx257_2, hx257_3, hx257_4, hx257_5, hx257_6, hl257_3, hi257_3, hl257_6, hi257_6⟩ := at_T35 HR0.out x3_2 p257 q257
                                                  obtain rfl : ad247 = ad257 := (by injection e257)
                                                  replace hx257_0 := (HB.out.cell (World.block_lt_of_cell? w _ hx257_0)).trans hx257_0
                                                  replace hx257_1 := (HB.out.cell (World.block_lt_of_cell? w _ hx257_1)).trans hx257_1
                                                  replace hx257_2 := (HB.out.cell (World.block_lt_of_cell? w _ hx257_2)).trans hx257_2
                                                  replace hx257_3 := (HB.out.cell (World.block_lt_of_cell? w _ hx257_3)).trans hx257_3
                                                  replace hx257_4 := (HB.out.cell (World.block_lt_of_cell? w _ hx257_4)).trans hx257_4
                                                  replace hx257_5 := (HB.out.cell (World.block_lt_of_cell? w _ hx257_5)).trans hx257_5
                                                  replace hx257_6 := (HB.out.cell (World.block_lt_of_cell? w _ hx257_6)).trans hx257_6
                                                  have HR257_3 := Aside0.mk hi257_3
                                                  have HC257_3 := Aside0.mk hl257_3
                                                  clear hi257_3 hl257_3
                                                  have HR257_6 := Aside0.mk hi257_6
                                                  have HC257_6 := Aside0.mk hl257_6
                                                  clear hi257_6 hl257_6
                                                  replace p257 := eq_true p257
                                                  replace q257 := eq_true q257
                                                  go_wp2
                                                  go_roundg k5
                                                  case measure => have := HJ1.out; have := HK2.out; have := HJ16.out; have := HJ26.out; have := HK5.out; omega
                                                  case rel => exact ⟨(wrap64 (x7_5 + 1)), (by first | rfl | (simp; done) | (simp [*]; done)), H', ⟨by have := HJ1.out; have := HK2.out; have := HJ16.out; have := HJ26.out; have := HK5.out; omega⟩, ⟨by repeat (first | (with_reducible first | exact HB.out | apply below_alloc | apply pw_below_drewN | apply below_drew1) | exact HB.out)⟩⟩
                                              · rw [if_neg c38] at H
                                                exact absurd H (by simp)
                                            · rw [if_neg c37] at H
                                              exact absurd H (by simp)
                                          · rw [if_neg c36] at H
                                            exact absurd H (by simp)
                                        · rw [if_neg c35] at H
                                          have c35b0 : decide (x7_5 < (((rd_T35 l0 ((rd_T35 l0 x3_2).f2)).f3).length : Int)) = false := decide_eq_false c35
                                          clear c35
                                          have H' := Aside0.mk H
                                          clear H
                                          have p254 : 0 ≤ (((rd_T35 l0 x3_2).f2) : Int) := of_decide_eq_true (by first | (with_reducible assumption) | assumption)
                                          have q254 : ((rd_T35 l0 x3_2).f2) < (l0.length : Int) := of_decide_eq_true (by first | (with_reducible assumption) | assumption)
                                          obtain ⟨ad254, A254_3, c254_3, A254_6, c254_6, e254, hx254_0, hx254_1, hx254_2, hx254_3, hx254_4, hx254_5, hx254_6, hl254_3, hi254_3, hl254_6, hi254_6⟩ := at_T35 HR0.out ((rd_T35 l0 x3_2).f2) p254 q254
                                          obtain rfl : ad247 = ad254 := (by injection e254)
                                          replace hx254_0 := (HB.out.cell (World.block_lt_of_cell? w _ hx254_0)).trans hx254_0
                                          replace hx254_1 := (HB.out.cell (World.block_lt_of_cell? w _ hx254_1)).trans hx254_1
                                          replace hx254_2 := (HB.out.cell (World.block_lt_of_cell? w _ hx254_2)).trans hx254_2
                                          replace hx254_3 := (HB.out.cell (World.block_lt_of_cell? w _ hx254_3)).trans hx254_3
                                          replace hx254_4 := (HB.out.cell (World.block_lt_of_cell? w _ hx254_4)).trans hx254_4
                                          replace hx254_5 := (HB.out.cell (World.block_lt_of_cell? w _ hx254_5)).trans hx254_5
                                          replace hx254_6 := (HB.out.cell (World.block_lt_of_cell? w _ hx254_6)).trans hx254_6
                                          have HR254_3 := Aside0.mk hi254_3
                                          have HC254_3 := Aside0.mk hl254_3
                                          clear hi254_3 hl254_3
                                          have HR254_6 := Aside0.mk hi254_6
                                          have HC254_6 := Aside0.mk hl254_6
                                          clear hi254_6 hl254_6
                                          replace p254 := eq_true p254
                                          replace q254 := eq_true q254
                                          go_wp2
                                          go_roundg k5
                                          case measure => have := HJ1.out; have := HK2.out; have := HJ16.out; have := HJ26.out; have := HK5.out; omega
                                          case rel => exact ⟨(wrap64 (x3_2 + 1)), (by first | rfl | (simp; done) | (simp [*]; done)), H', ⟨by have := HJ1.out; have := HK2.out; have := HJ16.out; have := HJ26.out; have := HK5.out; omega⟩, ⟨by repeat (first | (with_reducible first | exact HB.out | apply below_alloc | apply pw_below_drewN | apply below_drew1) | exact HB.out)⟩⟩
                                      · rw [if_neg c34] at H
                                        exact absurd H (by simp)
                                    · rw [if_neg c33] at H
                                      exact absurd H (by simp)
                        · rw [if_neg c25] at H
                          exact absurd H (by simp)
                      · rw [if_neg c24] at H
                        exact absurd H (by simp)
              · rw [if_neg c16] at H
                exact absurd H (by simp)
            · rw [if_neg c14] at H
              have c14b0 : decide (x3_2 < (l0.length : Int)) = false := decide_eq_false c14
              clear c14
              replace H := Option.bind_eq_some_iff.mp H
              obtain ⟨t245, A460, H⟩ := H
              replace H : (some t245) = some r := H
              have A46 := Aside0.mk A460
              clear A460
              obtain rfl := Option.some.inj H
              go_wp2_with (first | ((with_reducible refine gate_callee (f := 10) rfl ?_); refine goesL_ (some 103) rfl rfl Try.func10 (by kernel_rfl) rfl #[] rfl (by (try simp only [List.map_toArray, List.map_cons, List.map_nil]); first | done | rfl | (simp only [List.length_drop, List.length_take]; rfl)) ?_; (with_reducible refine (limelightlaw05_live.calls  t245 _ A46.out).mono ?_); rintro e w47 ⟨rfl, hb⟩; refine ⟨_, rfl, ?_⟩; have n0_ := Aside0.mk (below_step (by repeat (first | (with_reducible first | exact HB.out | apply below_alloc | apply pw_below_drewN | apply below_drew1) | exact HB.out)) hb); clear HB; have HB := n0_; clear n0_; (try clear hb); (try clear hb2); (try clear hk); (try clear hi)))
              go_ret
              exact ⟨by first | rfl | (simp [errW_none, errW_some] <;> rfl) | (simp [*, errW_none, errW_some] <;> rfl), by repeat (first | (with_reducible first | exact HB.out | apply below_alloc | apply pw_below_drewN | apply below_drew1) | exact HB.out)⟩

end Go.Proofs.Ytcmcjfiaemchoaa.P
