-- printed by wip/tools/pp.sh (a patched copy of the print's program), for this claim.
import Derived.Test.YtcmcjfiaemchoaaPx0
import Derived.Test.YtcmcjfiaemchoaaPx1
import Derived.Test.YtcmcjfiaemchoaaPx6
import Derived.Test.YtcmcjfiaemchoaaMT
import Derived.Test.YtcmcjfiaemchoaaMV
namespace Go.Proofs.Ytcmcjfiaemchoaa.P
open Go.RowKit Go.Proofs.YtcmcjfiaemchoaaW.PrintWords Go.Proofs.YtcmcjfiaemchoaaW.PrintLast Go.Proofs.YtcmcjfiaemchoaaW.PrintMore
attribute [local go_sem] max2_int min2_int max_two min_two max_three min_three max_four min_four   -- for this text's walks alone
set_option linter.unusedVariables false
set_option linter.unusedSimpArgs false

/-! ### limelightlaw05_SlotsNamed: function 5 -/
mutual
def limelightlaw05_SlotsNamed.j0 : Nat → List (S35) → Int → Bool → Option (Bool)
  | 0, _, _, _ => none
  | k + 1, x0, x1, x19 => if x19 = true then ((limelightlaw05_live.f).bind fun t222 => (some t222)) else ((slots_All.f x0 x1).bind fun t223 => (if 0 ≤ x1 then (if x1 < (x0.length : Int) then (if ((rd_T35 x0 x1).f0) = 3 then (limelightlaw05_SlotsNamed.l0 k x0 x1 t223 false 0) else (if (t223.length : Int) = 0 then ((limelightlaw05_live.f).bind fun t227 => (some t227)) else (none))) else (none)) else (none)))
def limelightlaw05_SlotsNamed.l0 : Nat → List (S35) → Int → List Int → Bool → Int → Option (Bool)
  | 0, _, _, _, _, _ => none
  | k + 1, x0, x1, x5, x6, x7 => if 0 ≤ x1 then (if x1 < (x0.length : Int) then (if x7 < (((rd_T35 x0 x1).f6).length : Int) then (if x6 = true then (limelightlaw05_SlotsNamed.l0 k x0 x1 x5 true (wrap64 (x7 + 1))) else (if 0 ≤ x7 then (limelightlaw05_SlotsNamed.l0 k x0 x1 x5 (((rd_T37 ((rd_T35 x0 x1).f6) x7).f0) == 8) (wrap64 (x7 + 1))) else (none))) else (limelightlaw05_SlotsNamed.l1 k x0 x5 x6 0)) else (none)) else (none)
def limelightlaw05_SlotsNamed.l1 : Nat → List (S35) → List Int → Bool → Int → Option (Bool)
  | 0, _, _, _, _ => none
  | k + 1, x0, x5, x6, x8 => if x8 < (x5.length : Int) then (limelightlaw05_SlotsNamed.j3 k x0 x5 x6 x8 (!x6)) else (limelightlaw05_SlotsNamed.j3 k x0 x5 x6 x8 false)
def limelightlaw05_SlotsNamed.j3 : Nat → List (S35) → List Int → Bool → Int → Bool → Option (Bool)
  | 0, _, _, _, _, _ => none
  | k + 1, x0, x5, x6, x8, x66 => if x66 = true then (limelightlaw05_SlotsNamed.l2 k x0 x5 x6 x8 0) else ((limelightlaw05_live.f).bind fun t231 => (some t231))
def limelightlaw05_SlotsNamed.l2 : Nat → List (S35) → List Int → Bool → Int → Int → Option (Bool)
  | 0, _, _, _, _, _ => none
  | k + 1, x0, x5, x6, x8, x9 => if x9 < x8 then (if 0 ≤ x8 then (if x8 < (x5.length : Int) then (if 0 ≤ (rd x5 x8) then (if (rd x5 x8) < (x0.length : Int) then ((limelightlaw05_value.f k ((rd_T35 x0 (rd x5 x8)).f0) ((rd_T35 x0 (rd x5 x8)).f1) ((rd_T35 x0 (rd x5 x8)).f2) ((rd_T35 x0 (rd x5 x8)).f3) ((rd_T35 x0 (rd x5 x8)).f4) ((rd_T35 x0 (rd x5 x8)).f5) ((rd_T35 x0 (rd x5 x8)).f6)).bind fun t234 => (if 0 ≤ x9 then (if x9 < (x5.length : Int) then (if 0 ≤ (rd x5 x9) then (if (rd x5 x9) < (x0.length : Int) then ((limelightlaw05_value.f k ((rd_T35 x0 (rd x5 x9)).f0) ((rd_T35 x0 (rd x5 x9)).f1) ((rd_T35 x0 (rd x5 x9)).f2) ((rd_T35 x0 (rd x5 x9)).f3) ((rd_T35 x0 (rd x5 x9)).f4) ((rd_T35 x0 (rd x5 x9)).f5) ((rd_T35 x0 (rd x5 x9)).f6)).bind fun t237 => (if t234 = t237 then ((slots_Assigned.f x0 (rd x5 x8)).bind fun t239 => (if (t239.length : Int) > 0 then (none) else (limelightlaw05_SlotsNamed.l2 k x0 x5 x6 x8 (wrap64 (x9 + 1))))) else (limelightlaw05_SlotsNamed.l2 k x0 x5 x6 x8 (wrap64 (x9 + 1))))) else (none)) else (none)) else (none)) else (none))) else (none)) else (none)) else (none)) else (none)) else (limelightlaw05_SlotsNamed.l1 k x0 x5 x6 (wrap64 (x8 + 1)))
end
def limelightlaw05_SlotsNamed.f (k : Nat) (l0 : List (S35)) (a1 : Int) : Option (Bool) := (limelightref01_Few.f l0).bind fun t220 => (if t220 = true then ((limelightref03_Both.f l0 a1 a1).bind fun t221 => (limelightlaw05_SlotsNamed.j0 k l0 a1 (!t221))) else (limelightlaw05_SlotsNamed.j0 k l0 a1 true))
theorem limelightlaw05_SlotsNamed.mono_l : ∀ k, (∀ y0 y1 y2, LeO (limelightlaw05_SlotsNamed.j0 k y0 y1 y2) (limelightlaw05_SlotsNamed.j0 (k + 1) y0 y1 y2)) ∧ (∀ y0 y1 y2 y3 y4, LeO (limelightlaw05_SlotsNamed.l0 k y0 y1 y2 y3 y4) (limelightlaw05_SlotsNamed.l0 (k + 1) y0 y1 y2 y3 y4)) ∧ (∀ y0 y1 y2 y3, LeO (limelightlaw05_SlotsNamed.l1 k y0 y1 y2 y3) (limelightlaw05_SlotsNamed.l1 (k + 1) y0 y1 y2 y3)) ∧ (∀ y0 y1 y2 y3 y4, LeO (limelightlaw05_SlotsNamed.j3 k y0 y1 y2 y3 y4) (limelightlaw05_SlotsNamed.j3 (k + 1) y0 y1 y2 y3 y4)) ∧ (∀ y0 y1 y2 y3 y4, LeO (limelightlaw05_SlotsNamed.l2 k y0 y1 y2 y3 y4) (limelightlaw05_SlotsNamed.l2 (k + 1) y0 y1 y2 y3 y4))
  | 0 => ⟨fun _ _ _ r h => by simp [limelightlaw05_SlotsNamed.j0] at h, fun _ _ _ _ _ r h => by simp [limelightlaw05_SlotsNamed.l0] at h, fun _ _ _ _ r h => by simp [limelightlaw05_SlotsNamed.l1] at h, fun _ _ _ _ _ r h => by simp [limelightlaw05_SlotsNamed.j3] at h, fun _ _ _ _ _ r h => by simp [limelightlaw05_SlotsNamed.l2] at h⟩
  | k + 1 => by
    obtain ⟨ih0, ih1, ih2, ih3, ih4⟩ := limelightlaw05_SlotsNamed.mono_l k
    refine ⟨?_, ?_, ?_, ?_, ?_⟩
    · intro y0 y1 y2
      unfold limelightlaw05_SlotsNamed.j0
      repeat' first
      | (with_reducible exact ih0 _ _ _)
      | (with_reducible exact ih1 _ _ _ _ _)
      | (with_reducible exact ih2 _ _ _ _)
      | (with_reducible exact ih3 _ _ _ _ _)
      | (with_reducible exact ih4 _ _ _ _ _)
      | (with_reducible exact limelightlaw05_value.mono _ _ _ _ _ _ _ _)
      | (with_reducible exact LeO.refl _)
      | (with_reducible exact LeO.none _)
      | (with_reducible refine LeO.ite ?_ ?_)
      | (with_reducible refine LeO.bind ?_ (fun _ => ?_))
      | exact ih0 _ _ _
      | exact ih1 _ _ _ _ _
      | exact ih2 _ _ _ _
      | exact ih3 _ _ _ _ _
      | exact ih4 _ _ _ _ _
      | exact limelightlaw05_value.mono _ _ _ _ _ _ _ _
      | exact LeO.none _
      | refine LeO.ite ?_ ?_
      | refine LeO.bind ?_ (fun _ => ?_)
    · intro y0 y1 y2 y3 y4
      unfold limelightlaw05_SlotsNamed.l0
      repeat' first
      | (with_reducible exact ih0 _ _ _)
      | (with_reducible exact ih1 _ _ _ _ _)
      | (with_reducible exact ih2 _ _ _ _)
      | (with_reducible exact ih3 _ _ _ _ _)
      | (with_reducible exact ih4 _ _ _ _ _)
      | (with_reducible exact limelightlaw05_value.mono _ _ _ _ _ _ _ _)
      | (with_reducible exact LeO.refl _)
      | (with_reducible exact LeO.none _)
      | (with_reducible refine LeO.ite ?_ ?_)
      | (with_reducible refine LeO.bind ?_ (fun _ => ?_))
      | exact ih0 _ _ _
      | exact ih1 _ _ _ _ _
      | exact ih2 _ _ _ _
      | exact ih3 _ _ _ _ _
      | exact ih4 _ _ _ _ _
      | exact limelightlaw05_value.mono _ _ _ _ _ _ _ _
      | exact LeO.none _
      | refine LeO.ite ?_ ?_
      | refine LeO.bind ?_ (fun _ => ?_)
    · intro y0 y1 y2 y3
      unfold limelightlaw05_SlotsNamed.l1
      repeat' first
      | (with_reducible exact ih0 _ _ _)
      | (with_reducible exact ih1 _ _ _ _ _)
      | (with_reducible exact ih2 _ _ _ _)
      | (with_reducible exact ih3 _ _ _ _ _)
      | (with_reducible exact ih4 _ _ _ _ _)
      | (with_reducible exact limelightlaw05_value.mono _ _ _ _ _ _ _ _)
      | (with_reducible exact LeO.refl _)
      | (with_reducible exact LeO.none _)
      | (with_reducible refine LeO.ite ?_ ?_)
      | (with_reducible refine LeO.bind ?_ (fun _ => ?_))
      | exact ih0 _ _ _
      | exact ih1 _ _ _ _ _
      | exact ih2 _ _ _ _
      | exact ih3 _ _ _ _ _
      | exact ih4 _ _ _ _ _
      | exact limelightlaw05_value.mono _ _ _ _ _ _ _ _
      | exact LeO.none _
      | refine LeO.ite ?_ ?_
      | refine LeO.bind ?_ (fun _ => ?_)
    · intro y0 y1 y2 y3 y4
      unfold limelightlaw05_SlotsNamed.j3
      repeat' first
      | (with_reducible exact ih0 _ _ _)
      | (with_reducible exact ih1 _ _ _ _ _)
      | (with_reducible exact ih2 _ _ _ _)
      | (with_reducible exact ih3 _ _ _ _ _)
      | (with_reducible exact ih4 _ _ _ _ _)
      | (with_reducible exact limelightlaw05_value.mono _ _ _ _ _ _ _ _)
      | (with_reducible exact LeO.refl _)
      | (with_reducible exact LeO.none _)
      | (with_reducible refine LeO.ite ?_ ?_)
      | (with_reducible refine LeO.bind ?_ (fun _ => ?_))
      | exact ih0 _ _ _
      | exact ih1 _ _ _ _ _
      | exact ih2 _ _ _ _
      | exact ih3 _ _ _ _ _
      | exact ih4 _ _ _ _ _
      | exact limelightlaw05_value.mono _ _ _ _ _ _ _ _
      | exact LeO.none _
      | refine LeO.ite ?_ ?_
      | refine LeO.bind ?_ (fun _ => ?_)
    · intro y0 y1 y2 y3 y4
      unfold limelightlaw05_SlotsNamed.l2
      repeat' first
      | (with_reducible exact ih0 _ _ _)
      | (with_reducible exact ih1 _ _ _ _ _)
      | (with_reducible exact ih2 _ _ _ _)
      | (with_reducible exact ih3 _ _ _ _ _)
      | (with_reducible exact ih4 _ _ _ _ _)
      | (with_reducible exact limelightlaw05_value.mono _ _ _ _ _ _ _ _)
      | (with_reducible exact LeO.refl _)
      | (with_reducible exact LeO.none _)
      | (with_reducible refine LeO.ite ?_ ?_)
      | (with_reducible refine LeO.bind ?_ (fun _ => ?_))
      | exact ih0 _ _ _
      | exact ih1 _ _ _ _ _
      | exact ih2 _ _ _ _
      | exact ih3 _ _ _ _ _
      | exact ih4 _ _ _ _ _
      | exact limelightlaw05_value.mono _ _ _ _ _ _ _ _
      | exact LeO.none _
      | refine LeO.ite ?_ ?_
      | refine LeO.bind ?_ (fun _ => ?_)
theorem limelightlaw05_SlotsNamed.mono : ∀ a0 a1 k, LeO (limelightlaw05_SlotsNamed.f k a0 a1) (limelightlaw05_SlotsNamed.f (k + 1) a0 a1) := by
  intro a0 a1 k
  obtain ⟨ih0, ih1, ih2, ih3, ih4⟩ := limelightlaw05_SlotsNamed.mono_l k
  unfold limelightlaw05_SlotsNamed.f
  repeat' first
      | (with_reducible exact ih0 _ _ _)
      | (with_reducible exact ih1 _ _ _ _ _)
      | (with_reducible exact ih2 _ _ _ _)
      | (with_reducible exact ih3 _ _ _ _ _)
      | (with_reducible exact ih4 _ _ _ _ _)
      | (with_reducible exact limelightlaw05_value.mono _ _ _ _ _ _ _ _)
      | (with_reducible exact LeO.refl _)
      | (with_reducible exact LeO.none _)
      | (with_reducible refine LeO.ite ?_ ?_)
      | (with_reducible refine LeO.bind ?_ (fun _ => ?_))
      | exact ih0 _ _ _
      | exact ih1 _ _ _ _ _
      | exact ih2 _ _ _ _
      | exact ih3 _ _ _ _ _
      | exact ih4 _ _ _ _ _
      | exact limelightlaw05_value.mono _ _ _ _ _ _ _ _
      | exact LeO.none _
      | refine LeO.ite ?_ ?_
      | refine LeO.bind ?_ (fun _ => ?_)
def limelightlaw05_SlotsNamed.T17 : Bool × List (List Nat × List Nat) := (true, [([], []), ([], []), ([], []), ([1, 2], [1, 2]), ([3], [3]), ([0, 4], [0, 4]), ([5], [5]), ([6], [6]), ([], []), ([], []), ([], []), ([9, 10], [9, 10]), ([11], [11]), ([8, 12], [8, 12]), ([13], [13]), ([14, 7], [14]), ([7, 15], [7, 15]), ([16, 15], [16]), ([17], [17]), ([17], [17]), ([17], [17]), ([19, 20, 17], [17, 19, 20]), ([21, 17], [17, 21]), ([18, 22, 17, 17], [17, 18, 22]), ([23, 17], [17, 23]), ([24, 17], [17, 24]), ([17, 25], [17, 25])])
def limelightlaw05_SlotsNamed.B17 : List Nat := [0, 0, 0, 6, 14, 31, 63, 127, 0, 0, 0, 1536, 3584, 7936, 16128, 32767, 65535, 131071, 262143, 262143, 262143, 1835007, 3932159, 8388607, 16777215, 33554431, 67108863]
theorem limelightlaw05_SlotsNamed.tab17 : rtab .any (opsOf Try.f5 17) = limelightlaw05_SlotsNamed.T17 := by kernel_rfl
theorem limelightlaw05_SlotsNamed.bits17 : waitsOk limelightlaw05_SlotsNamed.T17.2 limelightlaw05_SlotsNamed.B17 = true := by kernel_rfl
set_option maxHeartbeats 8000000 in
set_option maxRecDepth 100000 in
theorem limelightlaw05_SlotsNamed.calls (k : Nat) (A0 : Option Addr) (c0 : Nat) (l0 : List (S35)) (a1 : Int) (r : Bool) (w : World) (hr0 : Kd.C k35 w A0 l0.length l0) (hc0 : l0.length ≤ c0) (h : limelightlaw05_SlotsNamed.f k l0 a1 = some r) :
    Calls Try.prog 5 #[.slice A0 l0.length c0, .int .i64 a1] w fun e w' => e = .returned (.bool r) ∧ Below w.heap.size w w' := by
  have hu35 := Try.underlying35
  have HR0 := Aside0.mk hr0
  have HC0 := Aside0.mk hc0
  clear hr0 hc0
  have HB := Aside0.mk (Below.refl w.heap.size w)
  have H : ((limelightref01_Few.f l0).bind fun t220 => (if t220 = true then ((limelightref03_Both.f l0 a1 a1).bind fun t221 => (limelightlaw05_SlotsNamed.j0 k l0 a1 (!t221))) else (limelightlaw05_SlotsNamed.j0 k l0 a1 true))) = some r := h
  clear h
  have HC3 := Aside0.mk H
  clear H
  go_enter Try.func5, Try.ntmps5
  go_upto_region 1 with (fail)
  go_cut [19] (fun v19 wc => ∃ (kq : Nat) (x19_2 : Bool), v19 = .bool x19_2 ∧ Aside0 (limelightlaw05_SlotsNamed.j0 kq l0 a1 x19_2 = some r) ∧ Aside0 (kq ≤ k) ∧ Aside0 (Below w.heap.size w wc))
  case first =>
    have H := HC3.out
    clear HC3
    replace H := Option.bind_eq_some_iff.mp H
    obtain ⟨t220, A40, H⟩ := H
    replace H : (if t220 = true then ((limelightref03_Both.f l0 a1 a1).bind fun t221 => (limelightlaw05_SlotsNamed.j0 k l0 a1 (!t221))) else (limelightlaw05_SlotsNamed.j0 k l0 a1 true)) = some r := H
    have A4 := Aside0.mk A40
    clear A40
    by_cases c5 : t220 = true
    · subst c5
      have H1 : ((limelightref03_Both.f l0 a1 a1).bind fun t221 => (limelightlaw05_SlotsNamed.j0 k l0 a1 (!t221))) = some r := by rw [if_pos rfl] at H; exact H
      clear H
      have H := H1
      clear H1
      replace H := Option.bind_eq_some_iff.mp H
      obtain ⟨t221, A60, H⟩ := H
      replace H : (limelightlaw05_SlotsNamed.j0 k l0 a1 (!t221)) = some r := H
      have A6 := Aside0.mk A60
      clear A60
      have H' := Aside0.mk H
      clear H
      go_wp2_with (first | ((with_reducible refine gate_callee (f := 9) rfl ?_); refine goesL_ (some 11) rfl rfl Try.func9 (by kernel_rfl) rfl #[.slice A0 l0.length c0] rfl (by (try simp only [List.map_toArray, List.map_cons, List.map_nil]); first | done | rfl | (simp only [List.length_drop, List.length_take]; rfl)) ?_; (with_reducible refine (limelightref01_Few.calls _ _ l0 true _ ?side1 ?side2 A4.out).mono ?_); (case side1 => repeat (first | exact (Kd.C_below HR0.out HB.out) | (with_reducible refine Kd.C_alloc ?_ _) | (with_reducible refine Kd.C_drewN ?_ _) | (with_reducible refine Kd.C_drew ?_))); (case side2 => exact HC0.out); rintro e w7 ⟨rfl, hb⟩; refine ⟨_, rfl, ?_⟩; have n0_ := Aside0.mk (below_step (by repeat (first | (with_reducible first | exact HB.out | apply below_alloc | apply pw_below_drewN | apply below_drew1) | exact HB.out)) hb); clear HB; have HB := n0_; clear n0_; (try clear hb); (try clear hb2); (try clear hk); (try clear hi)) | (go_at_call 11; (with_reducible refine (limelightref03_Both.calls _ _ l0 a1 a1 t221 _ ?side1 ?side2 A6.out).mono ?_); (case side1 => repeat (first | exact (Kd.C_below HR0.out HB.out) | (with_reducible refine Kd.C_alloc ?_ _) | (with_reducible refine Kd.C_drewN ?_ _) | (with_reducible refine Kd.C_drew ?_))); (case side2 => exact HC0.out); rintro e w8 ⟨rfl, hb⟩; have n0_ := Aside0.mk (below_step (by repeat (first | (with_reducible first | exact HB.out | apply below_alloc | apply pw_below_drewN | apply below_drew1) | exact HB.out)) hb); clear HB; have HB := n0_; clear n0_; (try clear hb); (try clear hb2); (try clear hk); (try clear hi)))
      go_meet
      case rel => exact ⟨_, (!t221), (by first | rfl | (simp; done) | (simp [*]; done)), H', ⟨by first | omega | exact Nat.le_refl _⟩, ⟨by repeat (first | (with_reducible first | exact HB.out | apply below_alloc | apply pw_below_drewN | apply below_drew1) | exact HB.out)⟩⟩
    · replace c5 := Bool.eq_false_iff.mpr c5
      subst c5
      have H1 : (limelightlaw05_SlotsNamed.j0 k l0 a1 true) = some r := by rw [if_neg (show ¬ (false = true) by decide)] at H; exact H
      clear H
      have H := H1
      clear H1
      have H' := Aside0.mk H
      clear H
      go_wp2_with (first | ((with_reducible refine gate_callee (f := 9) rfl ?_); refine goesL_ (some 11) rfl rfl Try.func9 (by kernel_rfl) rfl #[.slice A0 l0.length c0] rfl (by (try simp only [List.map_toArray, List.map_cons, List.map_nil]); first | done | rfl | (simp only [List.length_drop, List.length_take]; rfl)) ?_; (with_reducible refine (limelightref01_Few.calls _ _ l0 false _ ?side1 ?side2 A4.out).mono ?_); (case side1 => repeat (first | exact (Kd.C_below HR0.out HB.out) | (with_reducible refine Kd.C_alloc ?_ _) | (with_reducible refine Kd.C_drewN ?_ _) | (with_reducible refine Kd.C_drew ?_))); (case side2 => exact HC0.out); rintro e w9 ⟨rfl, hb⟩; refine ⟨_, rfl, ?_⟩; have n0_ := Aside0.mk (below_step (by repeat (first | (with_reducible first | exact HB.out | apply below_alloc | apply pw_below_drewN | apply below_drew1) | exact HB.out)) hb); clear HB; have HB := n0_; clear n0_; (try clear hb); (try clear hb2); (try clear hk); (try clear hi)))
      go_meet
      case rel => exact ⟨_, (true), (by first | rfl | (simp; done) | (simp [*]; done)), H', ⟨by first | omega | exact Nat.le_refl _⟩, ⟨by repeat (first | (with_reducible first | exact HB.out | apply below_alloc | apply pw_below_drewN | apply below_drew1) | exact HB.out)⟩⟩
  case rest =>
    clear HC3
    try clear p2
    try clear c5
    try clear c9
    obtain ⟨kq, x19_2, rfl, HA, HJ2, HB⟩ := hcut
    cases kq with
    | zero => exact absurd HA.out (by simp [limelightlaw05_SlotsNamed.j0])
    | succ kj2 =>
      have H := HA.out
      clear HA
      simp only [limelightlaw05_SlotsNamed.j0] at H
      by_cases c10 : x19_2 = true
      · subst c10
        have H1 : ((limelightlaw05_live.f).bind fun t222 => (some t222)) = some r := by rw [if_pos rfl] at H; exact H
        clear H
        have H := H1
        clear H1
        replace H := Option.bind_eq_some_iff.mp H
        obtain ⟨t222, A110, H⟩ := H
        replace H : (some t222) = some r := H
        have A11 := Aside0.mk A110
        clear A110
        obtain rfl := Option.some.inj H
        go_wp2_with (first | ((with_reducible refine gate_callee (f := 10) rfl ?_); refine goesL_ (some 20) rfl rfl Try.func10 (by kernel_rfl) rfl #[] rfl (by (try simp only [List.map_toArray, List.map_cons, List.map_nil]); first | done | rfl | (simp only [List.length_drop, List.length_take]; rfl)) ?_; (with_reducible refine (limelightlaw05_live.calls  t222 _ A11.out).mono ?_); rintro e w12 ⟨rfl, hb⟩; refine ⟨_, rfl, ?_⟩; have n0_ := Aside0.mk (below_step (by repeat (first | (with_reducible first | exact HB.out | apply below_alloc | apply pw_below_drewN | apply below_drew1) | exact HB.out)) hb); clear HB; have HB := n0_; clear n0_; (try clear hb); (try clear hb2); (try clear hk); (try clear hi)))
        go_ret
        exact ⟨by first | rfl | (simp [errW_none, errW_some] <;> rfl) | (simp [*, errW_none, errW_some] <;> rfl), by repeat (first | (with_reducible first | exact HB.out | apply below_alloc | apply pw_below_drewN | apply below_drew1) | exact HB.out)⟩
      · replace c10 := Bool.eq_false_iff.mpr c10
        subst c10
        have H1 : ((slots_All.f l0 a1).bind fun t223 => (if 0 ≤ a1 then (if a1 < (l0.length : Int) then (if ((rd_T35 l0 a1).f0) = 3 then (limelightlaw05_SlotsNamed.l0 kj2 l0 a1 t223 false 0) else (if (t223.length : Int) = 0 then ((limelightlaw05_live.f).bind fun t227 => (some t227)) else (none))) else (none)) else (none))) = some r := by rw [if_neg (show ¬ (false = true) by decide)] at H; exact H
        clear H
        have H := H1
        clear H1
        replace H := Option.bind_eq_some_iff.mp H
        obtain ⟨t223, A130, H⟩ := H
        replace H : (if 0 ≤ a1 then (if a1 < (l0.length : Int) then (if ((rd_T35 l0 a1).f0) = 3 then (limelightlaw05_SlotsNamed.l0 kj2 l0 a1 t223 false 0) else (if (t223.length : Int) = 0 then ((limelightlaw05_live.f).bind fun t227 => (some t227)) else (none))) else (none)) else (none)) = some r := H
        have A13 := Aside0.mk A130
        clear A130
        by_cases c14 : 0 ≤ a1
        · rw [if_pos c14] at H
          have c14b0 : decide (0 ≤ a1) = true := decide_eq_true c14
          clear c14
          by_cases c15 : a1 < (l0.length : Int)
          · rw [if_pos c15] at H
            have c15b0 : decide (a1 < (l0.length : Int)) = true := decide_eq_true c15
            clear c15
            by_cases c16 : ((rd_T35 l0 a1).f0) = 3
            · rw [if_pos c16] at H
              have c16b0 : (((rd_T35 l0 a1).f0) == 3) = true := beq_iff_eq.mpr c16
              have c16b1 : (((rd_T35 l0 a1).f0) != 3) = false := bne_eq_false_iff_eq.mpr c16
              clear c16
              have H' := Aside0.mk H
              clear H
              go_wp2_with (first | ((with_reducible refine gate_callee (f := 14) rfl ?_); refine goesL_ (some 23) rfl rfl Try.func14 (by kernel_rfl) rfl #[.slice A0 l0.length c0, .int .i64 a1] rfl (by (try simp only [List.map_toArray, List.map_cons, List.map_nil]); first | done | rfl | (simp only [List.length_drop, List.length_take]; rfl)) ?_; (with_reducible refine (slots_All.calls _ _ l0 a1 t223 _ ?side1 ?side2 A13.out).mono ?_); (case side1 => repeat (first | exact (Kd.C_below HR0.out HB.out) | (with_reducible refine Kd.C_alloc ?_ _) | (with_reducible refine Kd.C_drewN ?_ _) | (with_reducible refine Kd.C_drew ?_))); (case side2 => exact HC0.out); rintro e w17 ⟨v224, rfl, ho0, hb⟩; refine ⟨_, rfl, ?_⟩; have n0_ := Aside0.mk (Kd.R_lower ho0 (below_size (by repeat (first | (with_reducible first | exact HB.out | apply below_alloc | apply pw_below_drewN | apply below_drew1) | exact HB.out)))); have n1_ := Aside0.mk (below_step (by repeat (first | (with_reducible first | exact HB.out | apply below_alloc | apply pw_below_drewN | apply below_drew1) | exact HB.out)) hb); clear HB; have HO225 := n0_; have HB := n1_; clear n0_ n1_; (try clear hb); (try clear hb2); (try clear hk); (try clear hi); (try clear ho0); have p226 : 0 ≤ (a1 : Int) := of_decide_eq_true (by first | (with_reducible assumption) | assumption); have q226 : a1 < (l0.length : Int) := of_decide_eq_true (by first | (with_reducible assumption) | assumption); obtain ⟨ad226, A226_3, c226_3, A226_6, c226_6, e226, hx226_0, hx226_1, hx226_2, hx226_3, hx226_4, hx226_5, hx226_6, hl226_3, hi226_3, hl226_6, hi226_6⟩ := at_T35 HR0.out a1 p226 q226; cases e226; replace hx226_0 := (HB.out.cell (World.block_lt_of_cell? w _ hx226_0)).trans hx226_0; replace hx226_1 := (HB.out.cell (World.block_lt_of_cell? w _ hx226_1)).trans hx226_1; replace hx226_2 := (HB.out.cell (World.block_lt_of_cell? w _ hx226_2)).trans hx226_2; replace hx226_3 := (HB.out.cell (World.block_lt_of_cell? w _ hx226_3)).trans hx226_3; replace hx226_4 := (HB.out.cell (World.block_lt_of_cell? w _ hx226_4)).trans hx226_4; replace hx226_5 := (HB.out.cell (World.block_lt_of_cell? w _ hx226_5)).trans hx226_5; replace hx226_6 := (HB.out.cell (World.block_lt_of_cell? w _ hx226_6)).trans hx226_6; have HR226_3 := Aside0.mk hi226_3; have HC226_3 := Aside0.mk hl226_3; clear hi226_3 hl226_3; have HR226_6 := Aside0.mk hi226_6; have HC226_6 := Aside0.mk hl226_6; clear hi226_6 hl226_6; replace p226 := eq_true p226; replace q226 := eq_true q226))
              go_loopg [6, 7] kj2 (fun kq v6 v7 w' => ∃ (x6_2 : Bool) (x7_2 : Int), v6 = .bool x6_2 ∧ v7 = .int .i64 x7_2 ∧ Aside0 (limelightlaw05_SlotsNamed.l0 kq l0 a1 t223 x6_2 x7_2 = some r) ∧ Aside0 (kq ≤ kj2) ∧ Aside0 (Kd.R (Kd.int .i64) 3 w' w.heap.size (fun _ => True) v224 t223) ∧ Aside0 (Below w.heap.size w w'))
              case atStart => exact ⟨(false), (0), (by first | rfl | (simp; done) | (simp [*]; done)), (by first | rfl | (simp; done) | (simp [*]; done)), H', ⟨Nat.le_refl _⟩, ⟨by (with_reducible repeat (first | apply Kd.R_alloc | apply Kd.R_drewN | apply Kd.R_drew)); exact HO225.out⟩, ⟨by repeat (first | (with_reducible first | exact HB.out | apply below_alloc | apply pw_below_drewN | apply below_drew1) | exact HB.out)⟩⟩
              case round =>
                clear H'
                try clear c1
                try clear c2
                try clear p2
                try clear q2
                try clear hx2
                try clear c5
                try clear c9
                try clear c10
                try clear c14
                try clear c14b0
                try clear c15
                try clear c15b0
                try clear c16
                try clear c16b0
                try clear c16b1
                try clear hx226_0
                try clear hx226_1
                try clear hx226_2
                try clear hx226_3
                try clear hx226_4
                try clear hx226_5
                try clear hx226_6
                try clear p2
                try clear p226
                try clear q226
                obtain ⟨x6_2, x7_2, rfl, rfl, HA, HK2, HO_5, HB⟩ := hrel
                cases gk with
                | zero => exact absurd HA.out (by simp [limelightlaw05_SlotsNamed.l0])
                | succ k2 =>
                  have H := HA.out
                  clear HA
                  simp only [limelightlaw05_SlotsNamed.l0] at H
                  by_cases c18 : 0 ≤ a1
                  · rw [if_pos c18] at H
                    have c18b0 : decide (0 ≤ a1) = true := decide_eq_true c18
                    clear c18
                    by_cases c19 : a1 < (l0.length : Int)
                    · rw [if_pos c19] at H
                      have c19b0 : decide (a1 < (l0.length : Int)) = true := decide_eq_true c19
                      clear c19
                      by_cases c20 : x7_2 < (((rd_T35 l0 a1).f6).length : Int)
                      · rw [if_pos c20] at H
                        have c20b0 : decide (x7_2 < (((rd_T35 l0 a1).f6).length : Int)) = true := decide_eq_true c20
                        clear c20
                        by_cases c21 : x6_2 = true
                        · subst c21
                          have H1 : (limelightlaw05_SlotsNamed.l0 k2 l0 a1 t223 true (wrap64 (x7_2 + 1))) = some r := by rw [if_pos rfl] at H; exact H
                          clear H
                          have H := H1
                          clear H1
                          have H' := Aside0.mk H
                          clear H
                          have p228 : 0 ≤ (a1 : Int) := of_decide_eq_true (by first | (with_reducible assumption) | assumption)
                          have q228 : a1 < (l0.length : Int) := of_decide_eq_true (by first | (with_reducible assumption) | assumption)
                          obtain ⟨ad228, A228_3, c228_3, A228_6, c228_6, e228, hx228_0, hx228_1, hx228_2, hx228_3, hx228_4, hx228_5, hx228_6, hl228_3, hi228_3, hl228_6, hi228_6⟩ := at_T35 HR0.out a1 p228 q228
                          obtain rfl : ad226 = ad228 := (by injection e228)
                          replace hx228_0 := (HB.out.cell (World.block_lt_of_cell? w _ hx228_0)).trans hx228_0
                          replace hx228_1 := (HB.out.cell (World.block_lt_of_cell? w _ hx228_1)).trans hx228_1
                          replace hx228_2 := (HB.out.cell (World.block_lt_of_cell? w _ hx228_2)).trans hx228_2
                          replace hx228_3 := (HB.out.cell (World.block_lt_of_cell? w _ hx228_3)).trans hx228_3
                          replace hx228_4 := (HB.out.cell (World.block_lt_of_cell? w _ hx228_4)).trans hx228_4
                          replace hx228_5 := (HB.out.cell (World.block_lt_of_cell? w _ hx228_5)).trans hx228_5
                          replace hx228_6 := (HB.out.cell (World.block_lt_of_cell? w _ hx228_6)).trans hx228_6
                          have HR228_3 := Aside0.mk hi228_3
                          have HC228_3 := Aside0.mk hl228_3
                          clear hi228_3 hl228_3
                          have HR228_6 := Aside0.mk hi228_6
                          have HC228_6 := Aside0.mk hl228_6
                          clear hi228_6 hl228_6
                          replace p228 := eq_true p228
                          replace q228 := eq_true q228
                          go_wp2
                          go_roundg k2
                          case measure => have := HJ2.out; have := HK2.out; omega
                          case rel => exact ⟨(true), (wrap64 (x7_2 + 1)), (by first | rfl | (simp; done) | (simp [*]; done)), (by first | rfl | (simp; done) | (simp [*]; done)), H', ⟨by have := HJ2.out; have := HK2.out; omega⟩, ⟨by (with_reducible repeat (first | apply Kd.R_alloc | apply Kd.R_drewN | apply Kd.R_drew)); exact HO_5.out⟩, ⟨by repeat (first | (with_reducible first | exact HB.out | apply below_alloc | apply pw_below_drewN | apply below_drew1) | exact HB.out)⟩⟩
                        · replace c21 := Bool.eq_false_iff.mpr c21
                          subst c21
                          have H1 : (if 0 ≤ x7_2 then (limelightlaw05_SlotsNamed.l0 k2 l0 a1 t223 (((rd_T37 ((rd_T35 l0 a1).f6) x7_2).f0) == 8) (wrap64 (x7_2 + 1))) else (none)) = some r := by rw [if_neg (show ¬ (false = true) by decide)] at H; exact H
                          clear H
                          have H := H1
                          clear H1
                          by_cases c22 : 0 ≤ x7_2
                          · rw [if_pos c22] at H
                            have c22b0 : decide (0 ≤ x7_2) = true := decide_eq_true c22
                            clear c22
                            have H' := Aside0.mk H
                            clear H
                            have p228 : 0 ≤ (a1 : Int) := of_decide_eq_true (by first | (with_reducible assumption) | assumption)
                            have q228 : a1 < (l0.length : Int) := of_decide_eq_true (by first | (with_reducible assumption) | assumption)
                            obtain ⟨ad228, A228_3, c228_3, A228_6, c228_6, e228, hx228_0, hx228_1, hx228_2, hx228_3, hx228_4, hx228_5, hx228_6, hl228_3, hi228_3, hl228_6, hi228_6⟩ := at_T35 HR0.out a1 p228 q228
                            obtain rfl : ad226 = ad228 := (by injection e228)
                            replace hx228_0 := (HB.out.cell (World.block_lt_of_cell? w _ hx228_0)).trans hx228_0
                            replace hx228_1 := (HB.out.cell (World.block_lt_of_cell? w _ hx228_1)).trans hx228_1
                            replace hx228_2 := (HB.out.cell (World.block_lt_of_cell? w _ hx228_2)).trans hx228_2
                            replace hx228_3 := (HB.out.cell (World.block_lt_of_cell? w _ hx228_3)).trans hx228_3
                            replace hx228_4 := (HB.out.cell (World.block_lt_of_cell? w _ hx228_4)).trans hx228_4
                            replace hx228_5 := (HB.out.cell (World.block_lt_of_cell? w _ hx228_5)).trans hx228_5
                            replace hx228_6 := (HB.out.cell (World.block_lt_of_cell? w _ hx228_6)).trans hx228_6
                            have HR228_3 := Aside0.mk hi228_3
                            have HC228_3 := Aside0.mk hl228_3
                            clear hi228_3 hl228_3
                            have HR228_6 := Aside0.mk hi228_6
                            have HC228_6 := Aside0.mk hl228_6
                            clear hi228_6 hl228_6
                            replace p228 := eq_true p228
                            replace q228 := eq_true q228
                            have p229 : 0 ≤ (a1 : Int) := of_decide_eq_true (by first | (with_reducible assumption) | assumption)
                            have q229 : a1 < (l0.length : Int) := of_decide_eq_true (by first | (with_reducible assumption) | assumption)
                            obtain ⟨ad229, A229_3, c229_3, A229_6, c229_6, e229, hx229_0, hx229_1, hx229_2, hx229_3, hx229_4, hx229_5, hx229_6, hl229_3, hi229_3, hl229_6, hi229_6⟩ := at_T35 HR0.out a1 p229 q229
                            obtain rfl : ad226 = ad229 := (by injection e229)
                            replace hx229_0 := (HB.out.cell (World.block_lt_of_cell? w _ hx229_0)).trans hx229_0
                            replace hx229_1 := (HB.out.cell (World.block_lt_of_cell? w _ hx229_1)).trans hx229_1
                            replace hx229_2 := (HB.out.cell (World.block_lt_of_cell? w _ hx229_2)).trans hx229_2
                            replace hx229_3 := (HB.out.cell (World.block_lt_of_cell? w _ hx229_3)).trans hx229_3
                            replace hx229_4 := (HB.out.cell (World.block_lt_of_cell? w _ hx229_4)).trans hx229_4
                            replace hx229_5 := (HB.out.cell (World.block_lt_of_cell? w _ hx229_5)).trans hx229_5
                            replace hx229_6 := (HB.out.cell (World.block_lt_of_cell? w _ hx229_6)).trans hx229_6
                            have HR229_3 := Aside0.mk hi229_3
                            have HC229_3 := Aside0.mk hl229_3
                            clear hi229_3 hl229_3
                            have HR229_6 := Aside0.mk hi229_6
                            have HC229_6 := Aside0.mk hl229_6
                            clear hi229_6 hl229_6
                            replace p229 := eq_true p229
                            replace q229 := eq_true q229
                            have ea_ := Option.some.inj (hx228_3.symm.trans hx229_3)
                            injection ea_ with ea_ en_ ec_
                            subst ea_
                            subst ec_
                            clear en_
                            have ea_ := Option.some.inj (hx228_6.symm.trans hx229_6)
                            injection ea_ with ea_ en_ ec_
                            subst ea_
                            subst ec_
                            clear en_
                            have p230 : 0 ≤ (x7_2 : Int) := of_decide_eq_true (by first | (with_reducible assumption) | assumption)
                            have q230 : x7_2 < (((rd_T35 l0 a1).f6).length : Int) := of_decide_eq_true (by first | (with_reducible assumption) | assumption)
                            obtain ⟨ad230, e230, hx230_0, hx230_1⟩ := at_T37 HR229_6.out x7_2 p230 q230
                            cases e230
                            replace hx230_0 := (HB.out.cell (World.block_lt_of_cell? w _ hx230_0)).trans hx230_0
                            replace hx230_1 := (HB.out.cell (World.block_lt_of_cell? w _ hx230_1)).trans hx230_1
                            replace p230 := eq_true p230
                            replace q230 := eq_true q230
                            go_wp2
                            go_roundg k2
                            case measure => have := HJ2.out; have := HK2.out; omega
                            case rel => exact ⟨((((rd_T37 ((rd_T35 l0 a1).f6) x7_2).f0) == 8)), (wrap64 (x7_2 + 1)), (by first | rfl | (simp; done) | (simp [*]; done)), (by first | rfl | (simp; done) | (simp [*]; done)), H', ⟨by have := HJ2.out; have := HK2.out; omega⟩, ⟨by (with_reducible repeat (first | apply Kd.R_alloc | apply Kd.R_drewN | apply Kd.R_drew)); exact HO_5.out⟩, ⟨by repeat (first | (with_reducible first | exact HB.out | apply below_alloc | apply pw_below_drewN | apply below_drew1) | exact HB.out)⟩⟩
                          · rw [if_neg c22] at H
                            exact absurd H (by simp)
                      · rw [if_neg c20] at H
                        have c20b0 : decide (x7_2 < (((rd_T35 l0 a1).f6).length : Int)) = false := decide_eq_false c20
                        clear c20
                        have H' := Aside0.mk H
                        clear H
                        have p228 : 0 ≤ (a1 : Int) := of_decide_eq_true (by first | (with_reducible assumption) | assumption)
                        have q228 : a1 < (l0.length : Int) := of_decide_eq_true (by first | (with_reducible assumption) | assumption)
                        obtain ⟨ad228, A228_3, c228_3, A228_6, c228_6, e228, hx228_0, hx228_1, hx228_2, hx228_3, hx228_4, hx228_5, hx228_6, hl228_3, hi228_3, hl228_6, hi228_6⟩ := at_T35 HR0.out a1 p228 q228
                        obtain rfl : ad226 = ad228 := (by injection e228)
                        replace hx228_0 := (HB.out.cell (World.block_lt_of_cell? w _ hx228_0)).trans hx228_0
                        replace hx228_1 := (HB.out.cell (World.block_lt_of_cell? w _ hx228_1)).trans hx228_1
                        replace hx228_2 := (HB.out.cell (World.block_lt_of_cell? w _ hx228_2)).trans hx228_2
                        replace hx228_3 := (HB.out.cell (World.block_lt_of_cell? w _ hx228_3)).trans hx228_3
                        replace hx228_4 := (HB.out.cell (World.block_lt_of_cell? w _ hx228_4)).trans hx228_4
                        replace hx228_5 := (HB.out.cell (World.block_lt_of_cell? w _ hx228_5)).trans hx228_5
                        replace hx228_6 := (HB.out.cell (World.block_lt_of_cell? w _ hx228_6)).trans hx228_6
                        have HR228_3 := Aside0.mk hi228_3
                        have HC228_3 := Aside0.mk hl228_3
                        clear hi228_3 hl228_3
                        have HR228_6 := Aside0.mk hi228_6
                        have HC228_6 := Aside0.mk hl228_6
                        clear hi228_6 hl228_6
                        replace p228 := eq_true p228
                        replace q228 := eq_true q228
                        go_wp2
                        go_loopg [8] k2 (fun kq v8 w' => ∃ (x8_3 : Int), v8 = .int .i64 x8_3 ∧ Aside0 (limelightlaw05_SlotsNamed.l1 kq l0 t223 x6_2 x8_3 = some r) ∧ Aside0 (kq ≤ k2) ∧ Aside0 (Kd.R (Kd.int .i64) 3 w' w.heap.size (fun _ => True) v224 t223) ∧ Aside0 (Below w.heap.size w w'))
                        case atStart => exact ⟨(0), (by first | rfl | (simp; done) | (simp [*]; done)), H', ⟨Nat.le_refl _⟩, ⟨by (with_reducible repeat (first | apply Kd.R_alloc | apply Kd.R_drewN | apply Kd.R_drew)); exact HO_5.out⟩, ⟨by repeat (first | (with_reducible first | exact HB.out | apply below_alloc | apply pw_below_drewN | apply below_drew1) | exact HB.out)⟩⟩
                        case round =>
                          clear H'
                          try clear c1
                          try clear c2
                          try clear p2
                          try clear q2
                          try clear hx2
                          try clear c5
                          try clear p6
                          try clear c9
                          try clear c10
                          try clear c14
                          try clear c14b0
                          try clear c15
                          try clear c15b0
                          try clear c16
                          try clear c16b0
                          try clear c16b1
                          try clear c18
                          try clear c18b0
                          try clear c19
                          try clear c19b0
                          try clear c20
                          try clear c20b0
                          try clear c21
                          try clear c22
                          try clear c22b0
                          try clear p22
                          try clear q22
                          try clear hx22
                          try clear hx226_0
                          try clear hx226_1
                          try clear hx226_2
                          try clear hx226_3
                          try clear hx226_4
                          try clear hx226_5
                          try clear hx226_6
                          try clear hx228_0
                          try clear hx228_1
                          try clear hx228_2
                          try clear hx228_3
                          try clear hx228_4
                          try clear hx228_5
                          try clear hx228_6
                          try clear hx229_0
                          try clear hx229_1
                          try clear hx229_2
                          try clear hx229_3
                          try clear hx229_4
                          try clear hx229_5
                          try clear hx229_6
                          try clear hx230_0
                          try clear hx230_1
                          try clear p2
                          try clear p226
                          try clear p228
                          try clear p229
                          try clear p230
                          try clear q2
                          try clear q226
                          try clear q228
                          try clear q229
                          try clear q230
                          obtain ⟨x8_3, rfl, HA, HK3, HO_5, HB⟩ := hrel
                          cases gk with
                          | zero => exact absurd HA.out (by simp [limelightlaw05_SlotsNamed.l1])
                          | succ k3 =>
                            have H := HA.out
                            clear HA
                            simp only [limelightlaw05_SlotsNamed.l1] at H
                            have HC23 := Aside0.mk H
                            clear H
                            go_upto_region 12 with (fail)
                            go_cut [66] (fun v66 wc => ∃ (kq : Nat) (x66_22 : Bool), v66 = .bool x66_22 ∧ Aside0 (limelightlaw05_SlotsNamed.j3 kq l0 t223 x6_2 x8_3 x66_22 = some r) ∧ Aside0 (kq ≤ k3) ∧ Aside0 (Kd.R (Kd.int .i64) 3 wc w.heap.size (fun _ => True) v224 t223) ∧ Aside0 (Below w.heap.size w wc))
                            case first =>
                              have H := HC23.out
                              clear HC23
                              by_cases c24 : x8_3 < (t223.length : Int)
                              · rw [if_pos c24] at H
                                have c24b0 : decide (x8_3 < (t223.length : Int)) = true := decide_eq_true c24
                                clear c24
                                (first | rw [c24b0] | (simp only [i64_w, i32_w]; rw [c24b0]) | skip)
                                have H' := Aside0.mk H
                                clear H
                                obtain ⟨Ao25, co25, eo25⟩ := Kd.R_slice HO_5.out
                                subst eo25
                                go_wp2
                                go_meet
                                case rel => exact ⟨_, (!x6_2), (by first | rfl | (simp; done) | (simp [*]; done)), H', ⟨by have := HJ2.out; have := HK2.out; have := HK3.out; first | omega | exact Nat.le_refl _⟩, ⟨by (with_reducible repeat (first | apply Kd.R_alloc | apply Kd.R_drewN | apply Kd.R_drew)); exact HO_5.out⟩, ⟨by repeat (first | (with_reducible first | exact HB.out | apply below_alloc | apply pw_below_drewN | apply below_drew1) | exact HB.out)⟩⟩
                              · rw [if_neg c24] at H
                                have c24b0 : decide (x8_3 < (t223.length : Int)) = false := decide_eq_false c24
                                clear c24
                                (first | rw [c24b0] | (simp only [i64_w, i32_w]; rw [c24b0]) | skip)
                                have H' := Aside0.mk H
                                clear H
                                obtain ⟨Ao26, co26, eo26⟩ := Kd.R_slice HO_5.out
                                subst eo26
                                go_wp2
                                go_meet
                                case rel => exact ⟨_, (false), (by first | rfl | (simp; done) | (simp [*]; done)), H', ⟨by have := HJ2.out; have := HK2.out; have := HK3.out; first | omega | exact Nat.le_refl _⟩, ⟨by (with_reducible repeat (first | apply Kd.R_alloc | apply Kd.R_drewN | apply Kd.R_drew)); exact HO_5.out⟩, ⟨by repeat (first | (with_reducible first | exact HB.out | apply below_alloc | apply pw_below_drewN | apply below_drew1) | exact HB.out)⟩⟩
                            case rest =>
                              clear HC23
                              try clear c1
                              try clear c2
                              try clear p2
                              try clear q2
                              try clear hx2
                              try clear c5
                              try clear p6
                              try clear c9
                              try clear c10
                              try clear c14
                              try clear c14b0
                              try clear c15
                              try clear c15b0
                              try clear c16
                              try clear c16b0
                              try clear c16b1
                              try clear c18
                              try clear c18b0
                              try clear c19
                              try clear c19b0
                              try clear c20
                              try clear c20b0
                              try clear c21
                              try clear c22
                              try clear c22b0
                              try clear p22
                              try clear q22
                              try clear hx22
                              try clear p23
                              try clear q23
                              try clear hx23
                              try clear c24
                              try clear c24b0
                              try clear hx226_0
                              try clear hx226_1
                              try clear hx226_2
                              try clear hx226_3
                              try clear hx226_4
                              try clear hx226_5
                              try clear hx226_6
                              try clear hx228_0
                              try clear hx228_1
                              try clear hx228_2
                              try clear hx228_3
                              try clear hx228_4
                              try clear hx228_5
                              try clear hx228_6
                              try clear hx229_0
                              try clear hx229_1
                              try clear hx229_2
                              try clear hx229_3
                              try clear hx229_4
                              try clear hx229_5
                              try clear hx229_6
                              try clear hx230_0
                              try clear hx230_1
                              try clear p2
                              try clear p22
                              try clear p226
                              try clear p228
                              try clear p229
                              try clear p230
                              try clear p6
                              try clear q2
                              try clear q22
                              try clear q226
                              try clear q228
                              try clear q229
                              try clear q230
                              obtain ⟨kq, x66_22, rfl, HA, HJ22, HO_5, HB⟩ := hcut
                              cases kq with
                              | zero => exact absurd HA.out (by simp [limelightlaw05_SlotsNamed.j3])
                              | succ kj22 =>
                                have H := HA.out
                                clear HA
                                simp only [limelightlaw05_SlotsNamed.j3] at H
                                by_cases c27 : x66_22 = true
                                · subst c27
                                  have H1 : (limelightlaw05_SlotsNamed.l2 kj22 l0 t223 x6_2 x8_3 0) = some r := by rw [if_pos rfl] at H; exact H
                                  clear H
                                  have H := H1
                                  clear H1
                                  have H' := Aside0.mk H
                                  clear H
                                  go_wp2
                                  go_loopg [9] kj22 (fun kq v9 w' => ∃ (x9_5 : Int), v9 = .int .i64 x9_5 ∧ Aside0 (limelightlaw05_SlotsNamed.l2 kq l0 t223 x6_2 x8_3 x9_5 = some r) ∧ Aside0 (kq ≤ kj22) ∧ Aside0 (Kd.R (Kd.int .i64) 3 w' w.heap.size (fun _ => True) v224 t223) ∧ Aside0 (Below w.heap.size w w'))
                                  case atStart => exact ⟨(0), (by first | rfl | (simp; done) | (simp [*]; done)), H', ⟨Nat.le_refl _⟩, ⟨by (with_reducible repeat (first | apply Kd.R_alloc | apply Kd.R_drewN | apply Kd.R_drew)); exact HO_5.out⟩, ⟨by repeat (first | (with_reducible first | exact HB.out | apply below_alloc | apply pw_below_drewN | apply below_drew1) | exact HB.out)⟩⟩
                                  case round =>
                                    clear H'
                                    try clear c1
                                    try clear c2
                                    try clear p2
                                    try clear q2
                                    try clear hx2
                                    try clear c5
                                    try clear p6
                                    try clear c9
                                    try clear c10
                                    try clear c14
                                    try clear c14b0
                                    try clear c15
                                    try clear c15b0
                                    try clear c16
                                    try clear c16b0
                                    try clear c16b1
                                    try clear c18
                                    try clear c18b0
                                    try clear c19
                                    try clear c19b0
                                    try clear c20
                                    try clear c20b0
                                    try clear c21
                                    try clear c22
                                    try clear c22b0
                                    try clear p22
                                    try clear q22
                                    try clear hx22
                                    try clear p23
                                    try clear q23
                                    try clear hx23
                                    try clear c24
                                    try clear c24b0
                                    try clear c27
                                    try clear hx226_0
                                    try clear hx226_1
                                    try clear hx226_2
                                    try clear hx226_3
                                    try clear hx226_4
                                    try clear hx226_5
                                    try clear hx226_6
                                    try clear hx228_0
                                    try clear hx228_1
                                    try clear hx228_2
                                    try clear hx228_3
                                    try clear hx228_4
                                    try clear hx228_5
                                    try clear hx228_6
                                    try clear hx229_0
                                    try clear hx229_1
                                    try clear hx229_2
                                    try clear hx229_3
                                    try clear hx229_4
                                    try clear hx229_5
                                    try clear hx229_6
                                    try clear hx230_0
                                    try clear hx230_1
                                    try clear p2
                                    try clear p22
                                    try clear p226
                                    try clear p228
                                    try clear p229
                                    try clear p23
                                    try clear p230
                                    try clear p6
                                    try clear q2
                                    try clear q22
                                    try clear q226
                                    try clear q228
                                    try clear q229
                                    try clear q23
                                    try clear q230
                                    obtain ⟨x9_5, rfl, HA, HK5, HO_5, HB⟩ := hrel
                                    cases gk with
                                    | zero => exact absurd HA.out (by simp [limelightlaw05_SlotsNamed.l2])
                                    | succ k5 =>
                                      have H := HA.out
                                      clear HA
                                      simp only [limelightlaw05_SlotsNamed.l2] at H
                                      by_cases c28 : x9_5 < x8_3
                                      · rw [if_pos c28] at H
                                        have c28b0 : decide (x9_5 < x8_3) = true := decide_eq_true c28
                                        clear c28
                                        by_cases c29 : 0 ≤ x8_3
                                        · rw [if_pos c29] at H
                                          have c29b0 : decide (0 ≤ x8_3) = true := decide_eq_true c29
                                          clear c29
                                          by_cases c30 : x8_3 < (t223.length : Int)
                                          · rw [if_pos c30] at H
                                            have c30b0 : decide (x8_3 < (t223.length : Int)) = true := decide_eq_true c30
                                            clear c30
                                            by_cases c31 : 0 ≤ (rd t223 x8_3)
                                            · rw [if_pos c31] at H
                                              have c31b0 : decide (0 ≤ (rd t223 x8_3)) = true := decide_eq_true c31
                                              clear c31
                                              by_cases c32 : (rd t223 x8_3) < (l0.length : Int)
                                              · rw [if_pos c32] at H
                                                have c32b0 : decide ((rd t223 x8_3) < (l0.length : Int)) = true := decide_eq_true c32
                                                clear c32
                                                replace H := Option.bind_eq_some_iff.mp H
                                                obtain ⟨t234, A330, H⟩ := H
                                                replace H : (if 0 ≤ x9_5 then (if x9_5 < (t223.length : Int) then (if 0 ≤ (rd t223 x9_5) then (if (rd t223 x9_5) < (l0.length : Int) then ((limelightlaw05_value.f k5 ((rd_T35 l0 (rd t223 x9_5)).f0) ((rd_T35 l0 (rd t223 x9_5)).f1) ((rd_T35 l0 (rd t223 x9_5)).f2) ((rd_T35 l0 (rd t223 x9_5)).f3) ((rd_T35 l0 (rd t223 x9_5)).f4) ((rd_T35 l0 (rd t223 x9_5)).f5) ((rd_T35 l0 (rd t223 x9_5)).f6)).bind fun t237 => (if t234 = t237 then ((slots_Assigned.f l0 (rd t223 x8_3)).bind fun t239 => (if (t239.length : Int) > 0 then (none) else (limelightlaw05_SlotsNamed.l2 k5 l0 t223 x6_2 x8_3 (wrap64 (x9_5 + 1))))) else (limelightlaw05_SlotsNamed.l2 k5 l0 t223 x6_2 x8_3 (wrap64 (x9_5 + 1))))) else (none)) else (none)) else (none)) else (none)) = some r := H
                                                have A33 := Aside0.mk A330
                                                clear A330
                                                by_cases c34 : 0 ≤ x9_5
                                                · rw [if_pos c34] at H
                                                  have c34b0 : decide (0 ≤ x9_5) = true := decide_eq_true c34
                                                  clear c34
                                                  by_cases c35 : x9_5 < (t223.length : Int)
                                                  · rw [if_pos c35] at H
                                                    have c35b0 : decide (x9_5 < (t223.length : Int)) = true := decide_eq_true c35
                                                    clear c35
                                                    by_cases c36 : 0 ≤ (rd t223 x9_5)
                                                    · rw [if_pos c36] at H
                                                      have c36b0 : decide (0 ≤ (rd t223 x9_5)) = true := decide_eq_true c36
                                                      clear c36
                                                      by_cases c37 : (rd t223 x9_5) < (l0.length : Int)
                                                      · rw [if_pos c37] at H
                                                        have c37b0 : decide ((rd t223 x9_5) < (l0.length : Int)) = true := decide_eq_true c37
                                                        clear c37
                                                        replace H := Option.bind_eq_some_iff.mp H
                                                        obtain ⟨t237, A380, H⟩ := H
                                                        replace H : (if t234 = t237 then ((slots_Assigned.f l0 (rd t223 x8_3)).bind fun t239 => (if (t239.length : Int) > 0 then (none) else (limelightlaw05_SlotsNamed.l2 k5 l0 t223 x6_2 x8_3 (wrap64 (x9_5 + 1))))) else (limelightlaw05_SlotsNamed.l2 k5 l0 t223 x6_2 x8_3 (wrap64 (x9_5 + 1)))) = some r := H
                                                        have A38 := Aside0.mk A380
                                                        clear A380
                                                        by_cases c39 : t234 = t237
                                                        · rw [if_pos c39] at H
                                                          have c39b0 : (t234 == t237) = true := beq_iff_eq.mpr c39
                                                          have c39b1 : (t234 != t237) = false := bne_eq_false_iff_eq.mpr c39
                                                          clear c39
                                                          replace H := Option.bind_eq_some_iff.mp H
                                                          obtain ⟨t239, A400, H⟩ := H
                                                          replace H : (if (t239.length : Int) > 0 then (none) else (limelightlaw05_SlotsNamed.l2 k5 l0 t223 x6_2 x8_3 (wrap64 (x9_5 + 1)))) = some r := H
                                                          have A40 := Aside0.mk A400
                                                          clear A400
                                                          by_cases c41 : (t239.length : Int) > 0
                                                          · rw [if_pos c41] at H
                                                            exact absurd H (by simp)
                                                          · rw [if_neg c41] at H
                                                            have c41b0 : decide (0 < (t239.length : Int)) = false := decide_eq_false c41
                                                            have c41b1 : decide (0 < t239.length) = false := decide_eq_false (by omega)
                                                            clear c41
                                                            have H' := Aside0.mk H
                                                            clear H
                                                            try go_wp2
                                                            have n0_ := Aside0.mk (Kd.R_drew HO_5.out)
                                                            have n1_ := Aside0.mk (below_drew1 HB.out)
                                                            clear HO_5
                                                            clear HB
                                                            have HO_5 := n0_
                                                            have HB := n1_
                                                            clear n0_ n1_
                                                            obtain ⟨Ao43, co43, eo43⟩ := Kd.R_slice HO_5.out
                                                            (first | subst eo43 | (injection eo43 with f1_ f2_ f3_; have f4_ := f1_.symm; have f5_ := f3_.symm; clear f1_ f2_ f3_; subst f4_; subst f5_))
                                                            have p232 : 0 ≤ (x8_3 : Int) := of_decide_eq_true (by first | (with_reducible assumption) | assumption)
                                                            have q232 : x8_3 < (t223.length : Int) := of_decide_eq_true (by first | (with_reducible assumption) | assumption)
                                                            obtain ⟨ad232, e232, hx232_0⟩ := Kd.at_int (Kd.R_reads' HO_5.out).2.2 x8_3 p232 q232
                                                            cases e232
                                                            replace p232 := eq_true p232
                                                            replace q232 := eq_true q232
                                                            have p233 : 0 ≤ ((rd t223 x8_3) : Int) := of_decide_eq_true (by first | (with_reducible assumption) | assumption)
                                                            have q233 : (rd t223 x8_3) < (l0.length : Int) := of_decide_eq_true (by first | (with_reducible assumption) | assumption)
                                                            obtain ⟨ad233, A233_3, c233_3, A233_6, c233_6, e233, hx233_0, hx233_1, hx233_2, hx233_3, hx233_4, hx233_5, hx233_6, hl233_3, hi233_3, hl233_6, hi233_6⟩ := at_T35 HR0.out (rd t223 x8_3) p233 q233
                                                            have hw233_6 := hx233_6
                                                            have hw233_5 := hx233_5
                                                            have hw233_4 := hx233_4
                                                            have hw233_3 := hx233_3
                                                            have hw233_2 := hx233_2
                                                            have hw233_1 := hx233_1
                                                            have hw233_0 := hx233_0
                                                            obtain rfl : ad226 = ad233 := (by injection e233)
                                                            replace hx233_0 := (HB.out.cell (World.block_lt_of_cell? w _ hx233_0)).trans hx233_0
                                                            replace hx233_1 := (HB.out.cell (World.block_lt_of_cell? w _ hx233_1)).trans hx233_1
                                                            replace hx233_2 := (HB.out.cell (World.block_lt_of_cell? w _ hx233_2)).trans hx233_2
                                                            replace hx233_3 := (HB.out.cell (World.block_lt_of_cell? w _ hx233_3)).trans hx233_3
                                                            replace hx233_4 := (HB.out.cell (World.block_lt_of_cell? w _ hx233_4)).trans hx233_4
                                                            replace hx233_5 := (HB.out.cell (World.block_lt_of_cell? w _ hx233_5)).trans hx233_5
                                                            replace hx233_6 := (HB.out.cell (World.block_lt_of_cell? w _ hx233_6)).trans hx233_6
                                                            have HR233_3 := Aside0.mk hi233_3
                                                            have HC233_3 := Aside0.mk hl233_3
                                                            clear hi233_3 hl233_3
                                                            have HR233_6 := Aside0.mk hi233_6
                                                            have HC233_6 := Aside0.mk hl233_6
                                                            clear hi233_6 hl233_6
                                                            replace p233 := eq_true p233
                                                            replace q233 := eq_true q233
                                                            have p235 : 0 ≤ (x9_5 : Int) := of_decide_eq_true (by first | (with_reducible assumption) | assumption)
                                                            have q235 : x9_5 < (t223.length : Int) := of_decide_eq_true (by first | (with_reducible assumption) | assumption)
                                                            obtain ⟨ad235, e235, hx235_0⟩ := Kd.at_int (Kd.R_reads' HO_5.out).2.2 x9_5 p235 q235
                                                            obtain rfl : ad232 = ad235 := (by injection e235)
                                                            replace p235 := eq_true p235
                                                            replace q235 := eq_true q235
                                                            have p236 : 0 ≤ ((rd t223 x9_5) : Int) := of_decide_eq_true (by first | (with_reducible assumption) | assumption)
                                                            have q236 : (rd t223 x9_5) < (l0.length : Int) := of_decide_eq_true (by first | (with_reducible assumption) | assumption)
                                                            obtain ⟨ad236, A236_3, c236_3, A236_6, c236_6, e236, hx236_0, hx236_1, hx236_2, hx236_3, hx236_4, hx236_5, hx236_6, hl236_3, hi236_3, hl236_6, hi236_6⟩ := at_T35 HR0.out (rd t223 x9_5) p236 q236
                                                            have hw236_6 := hx236_6
                                                            have hw236_5 := hx236_5
                                                            have hw236_4 := hx236_4
                                                            have hw236_3 := hx236_3
                                                            have hw236_2 := hx236_2
                                                            have hw236_1 := hx236_1
                                                            have hw236_0 := hx236_0
                                                            obtain rfl : ad226 = ad236 := (by injection e236)
                                                            replace hx236_0 := (HB.out.cell (World.block_lt_of_cell? w _ hx236_0)).trans hx236_0
                                                            replace hx236_1 := (HB.out.cell (World.block_lt_of_cell? w _ hx236_1)).trans hx236_1
                                                            replace hx236_2 := (HB.out.cell (World.block_lt_of_cell? w _ hx236_2)).trans hx236_2
                                                            replace hx236_3 := (HB.out.cell (World.block_lt_of_cell? w _ hx236_3)).trans hx236_3
                                                            replace hx236_4 := (HB.out.cell (World.block_lt_of_cell? w _ hx236_4)).trans hx236_4
                                                            replace hx236_5 := (HB.out.cell (World.block_lt_of_cell? w _ hx236_5)).trans hx236_5
                                                            replace hx236_6 := (HB.out.cell (World.block_lt_of_cell? w _ hx236_6)).trans hx236_6
                                                            have HR236_3 := Aside0.mk hi236_3
                                                            have HC236_3 := Aside0.mk hl236_3
                                                            clear hi236_3 hl236_3
                                                            have HR236_6 := Aside0.mk hi236_6
                                                            have HC236_6 := Aside0.mk hl236_6
                                                            clear hi236_6 hl236_6
                                                            replace p236 := eq_true p236
                                                            replace q236 := eq_true q236
                                                            have p238 : 0 ≤ (x8_3 : Int) := of_decide_eq_true (by first | (with_reducible assumption) | assumption)
                                                            have q238 : x8_3 < (t223.length : Int) := of_decide_eq_true (by first | (with_reducible assumption) | assumption)
                                                            obtain ⟨ad238, e238, hx238_0⟩ := Kd.at_int (Kd.R_reads' HO_5.out).2.2 x8_3 p238 q238
                                                            obtain rfl : ad232 = ad238 := (by injection e238)
                                                            replace p238 := eq_true p238
                                                            replace q238 := eq_true q238
                                                            refine start_ (n := 27) (S := fun w' => w'.cell? (ad232.add (x8_3).toNat) = some (.int .i64 (rd t223 x8_3)) ∧ w'.cell? (ad226.add (((rd t223 x8_3)).toNat * 7)) = some (.int .i64 ((rd_T35 l0 (rd t223 x8_3)).f0)) ∧ w'.cell? ⟨(ad226.add (((rd t223 x8_3)).toNat * 7)).block, (ad226.add (((rd t223 x8_3)).toNat * 7)).off + 1, none⟩ = some (.int .i64 ((rd_T35 l0 (rd t223 x8_3)).f1)) ∧ w'.cell? ⟨(ad226.add (((rd t223 x8_3)).toNat * 7)).block, (ad226.add (((rd t223 x8_3)).toNat * 7)).off + 2, none⟩ = some (.int .i64 ((rd_T35 l0 (rd t223 x8_3)).f2)) ∧ w'.cell? ⟨(ad226.add (((rd t223 x8_3)).toNat * 7)).block, (ad226.add (((rd t223 x8_3)).toNat * 7)).off + 3, none⟩ = some (.slice A233_3 ((rd_T35 l0 (rd t223 x8_3)).f3).length c233_3) ∧ w'.cell? ⟨(ad226.add (((rd t223 x8_3)).toNat * 7)).block, (ad226.add (((rd t223 x8_3)).toNat * 7)).off + 4, none⟩ = some (.int .i64 ((rd_T35 l0 (rd t223 x8_3)).f4)) ∧ w'.cell? ⟨(ad226.add (((rd t223 x8_3)).toNat * 7)).block, (ad226.add (((rd t223 x8_3)).toNat * 7)).off + 5, none⟩ = some (.int .i64 ((rd_T35 l0 (rd t223 x8_3)).f5)) ∧ w'.cell? ⟨(ad226.add (((rd t223 x8_3)).toNat * 7)).block, (ad226.add (((rd t223 x8_3)).toNat * 7)).off + 6, none⟩ = some (.slice A233_6 ((rd_T35 l0 (rd t223 x8_3)).f6).length c233_6) ∧ w'.cell? (ad232.add (x9_5).toNat) = some (.int .i64 (rd t223 x9_5)) ∧ w'.cell? (ad226.add (((rd t223 x9_5)).toNat * 7)) = some (.int .i64 ((rd_T35 l0 (rd t223 x9_5)).f0)) ∧ w'.cell? ⟨(ad226.add (((rd t223 x9_5)).toNat * 7)).block, (ad226.add (((rd t223 x9_5)).toNat * 7)).off + 1, none⟩ = some (.int .i64 ((rd_T35 l0 (rd t223 x9_5)).f1)) ∧ w'.cell? ⟨(ad226.add (((rd t223 x9_5)).toNat * 7)).block, (ad226.add (((rd t223 x9_5)).toNat * 7)).off + 2, none⟩ = some (.int .i64 ((rd_T35 l0 (rd t223 x9_5)).f2)) ∧ w'.cell? ⟨(ad226.add (((rd t223 x9_5)).toNat * 7)).block, (ad226.add (((rd t223 x9_5)).toNat * 7)).off + 3, none⟩ = some (.slice A236_3 ((rd_T35 l0 (rd t223 x9_5)).f3).length c236_3) ∧ w'.cell? ⟨(ad226.add (((rd t223 x9_5)).toNat * 7)).block, (ad226.add (((rd t223 x9_5)).toNat * 7)).off + 4, none⟩ = some (.int .i64 ((rd_T35 l0 (rd t223 x9_5)).f4)) ∧ w'.cell? ⟨(ad226.add (((rd t223 x9_5)).toNat * 7)).block, (ad226.add (((rd t223 x9_5)).toNat * 7)).off + 5, none⟩ = some (.int .i64 ((rd_T35 l0 (rd t223 x9_5)).f5)) ∧ w'.cell? ⟨(ad226.add (((rd t223 x9_5)).toNat * 7)).block, (ad226.add (((rd t223 x9_5)).toNat * 7)).off + 6, none⟩ = some (.slice A236_6 ((rd_T35 l0 (rd t223 x9_5)).f6).length c236_6) ∧ w'.cell? (ad232.add (x8_3).toNat) = some (.int .i64 (rd t223 x8_3))) (ds := []) #[false, false, false, false, false, false, false, false, false, false, false, false, false, false, false, false, false, false, false, false, false, false, false, false, false, false, false] (by kernel_rfl) rfl rfl ⟨hx232_0, ((HB.out.cell (World.block_lt_of_cell? w _ hw233_0)).trans hw233_0), ((HB.out.cell (World.block_lt_of_cell? w _ hw233_1)).trans hw233_1), ((HB.out.cell (World.block_lt_of_cell? w _ hw233_2)).trans hw233_2), ((HB.out.cell (World.block_lt_of_cell? w _ hw233_3)).trans hw233_3), ((HB.out.cell (World.block_lt_of_cell? w _ hw233_4)).trans hw233_4), ((HB.out.cell (World.block_lt_of_cell? w _ hw233_5)).trans hw233_5), ((HB.out.cell (World.block_lt_of_cell? w _ hw233_6)).trans hw233_6), hx235_0, ((HB.out.cell (World.block_lt_of_cell? w _ hw236_0)).trans hw236_0), ((HB.out.cell (World.block_lt_of_cell? w _ hw236_1)).trans hw236_1), ((HB.out.cell (World.block_lt_of_cell? w _ hw236_2)).trans hw236_2), ((HB.out.cell (World.block_lt_of_cell? w _ hw236_3)).trans hw236_3), ((HB.out.cell (World.block_lt_of_cell? w _ hw236_4)).trans hw236_4), ((HB.out.cell (World.block_lt_of_cell? w _ hw236_5)).trans hw236_5), ((HB.out.cell (World.block_lt_of_cell? w _ hw236_6)).trans hw236_6), hx238_0⟩ (fun hHeld => ?_); refine with_tabW limelightlaw05_SlotsNamed.tab17 limelightlaw05_SlotsNamed.bits17 (fun HT_ HW_ => ?_)
                                                            generalize wr.drew = w42 at HO_5 HB HR233_3 HR233_6 HR236_3 HR236_6 hx232_0 hx233_0 hx233_1 hx233_2 hx233_3 hx233_4 hx233_5 hx233_6 hx235_0 hx236_0 hx236_1 hx236_2 hx236_3 hx236_4 hx236_5 hx236_6 hx238_0 hHeld ⊢
                                                            refine pure_ (i := 0) (N := some 74) (v := ?_) (a' := ?_) #[true, false, false, false, false, false, false, false, false, false, false, false, false, false, false, false, false, false, false, false, false, false, false, false, false, false, false] rfl rfl (any_of HT_.out (by kernel_rfl)) (fun _ _ _ h => h) (Or.inl ⟨by rfl, ?_⟩) ?_ ?_
                                                            rotate_left
                                                            · intro w'
                                                              go_simp
                                                              with_reducible rfl
                                                            rotate_left
                                                            · simp only [Act.put, List.setIfInBounds_toArray, List.set_cons_zero, List.set_cons_succ, i64_w, i32_w]
                                                              rfl
                                                            refine pure_ (i := 1) (N := some 75) (v := ?_) (a' := ?_) #[true, true, false, false, false, false, false, false, false, false, false, false, false, false, false, false, false, false, false, false, false, false, false, false, false, false, false] rfl rfl (any_of HT_.out (by kernel_rfl)) (fun _ _ _ h => h) (Or.inl ⟨by rfl, ?_⟩) ?_ ?_
                                                            rotate_left
                                                            · intro w'
                                                              go_simp
                                                              with_reducible rfl
                                                            rotate_left
                                                            · simp only [Act.put, List.setIfInBounds_toArray, List.set_cons_zero, List.set_cons_succ, i64_w, i32_w]
                                                              rfl
                                                            refine pure_ (i := 2) (N := some 76) (v := ?_) (a' := ?_) #[true, true, true, false, false, false, false, false, false, false, false, false, false, false, false, false, false, false, false, false, false, false, false, false, false, false, false] rfl rfl (any_of HT_.out (by kernel_rfl)) (fun _ _ _ h => h) (Or.inl ⟨by rfl, ?_⟩) ?_ ?_
                                                            rotate_left
                                                            · intro w'
                                                              go_simp
                                                              with_reducible rfl
                                                            rotate_left
                                                            · simp only [Act.put, List.setIfInBounds_toArray, List.set_cons_zero, List.set_cons_succ, i64_w, i32_w]
                                                              rfl
                                                            refine pure_ (i := 3) (N := some 77) (v := ?_) (a' := ?_) #[true, true, true, true, false, false, false, false, false, false, false, false, false, false, false, false, false, false, false, false, false, false, false, false, false, false, false] rfl rfl (any_of HT_.out (by kernel_rfl)) (fun _ _ _ h => h) (Or.inl ⟨by rfl, ?_⟩) ?_ ?_
                                                            rotate_left
                                                            · intro w'
                                                              go_simp
                                                              with_reducible rfl
                                                            rotate_left
                                                            · simp only [Act.put, List.setIfInBounds_toArray, List.set_cons_zero, List.set_cons_succ, i64_w, i32_w]
                                                              rfl
                                                            refine pure_ (i := 8) (N := some 82) (v := ?_) (a' := ?_) #[true, true, true, true, false, false, false, false, true, false, false, false, false, false, false, false, false, false, false, false, false, false, false, false, false, false, false] rfl rfl (any_of HT_.out (by kernel_rfl)) (fun _ _ _ h => h) (Or.inl ⟨by rfl, ?_⟩) ?_ ?_
                                                            rotate_left
                                                            · intro w'
                                                              go_simp
                                                              with_reducible rfl
                                                            rotate_left
                                                            · simp only [Act.put, List.setIfInBounds_toArray, List.set_cons_zero, List.set_cons_succ, i64_w, i32_w]
                                                              rfl
                                                            refine pure_ (i := 9) (N := some 83) (v := ?_) (a' := ?_) #[true, true, true, true, false, false, false, false, true, true, false, false, false, false, false, false, false, false, false, false, false, false, false, false, false, false, false] rfl rfl (any_of HT_.out (by kernel_rfl)) (fun _ _ _ h => h) (Or.inl ⟨by rfl, ?_⟩) ?_ ?_
                                                            rotate_left
                                                            · intro w'
                                                              go_simp
                                                              with_reducible rfl
                                                            rotate_left
                                                            · simp only [Act.put, List.setIfInBounds_toArray, List.set_cons_zero, List.set_cons_succ, i64_w, i32_w]
                                                              rfl
                                                            refine pure_ (i := 10) (N := some 84) (v := ?_) (a' := ?_) #[true, true, true, true, false, false, false, false, true, true, true, false, false, false, false, false, false, false, false, false, false, false, false, false, false, false, false] rfl rfl (any_of HT_.out (by kernel_rfl)) (fun _ _ _ h => h) (Or.inl ⟨by rfl, ?_⟩) ?_ ?_
                                                            rotate_left
                                                            · intro w'
                                                              go_simp
                                                              with_reducible rfl
                                                            rotate_left
                                                            · simp only [Act.put, List.setIfInBounds_toArray, List.set_cons_zero, List.set_cons_succ, i64_w, i32_w]
                                                              rfl
                                                            refine pure_ (i := 11) (N := some 85) (v := ?_) (a' := ?_) #[true, true, true, true, false, false, false, false, true, true, true, true, false, false, false, false, false, false, false, false, false, false, false, false, false, false, false] rfl rfl (any_of HT_.out (by kernel_rfl)) (fun _ _ _ h => h) (Or.inl ⟨by rfl, ?_⟩) ?_ ?_
                                                            rotate_left
                                                            · intro w'
                                                              go_simp
                                                              with_reducible rfl
                                                            rotate_left
                                                            · simp only [Act.put, List.setIfInBounds_toArray, List.set_cons_zero, List.set_cons_succ, i64_w, i32_w]
                                                              rfl
                                                            refine take_ (i := 4) (N := some 78) (v := ?_) (a' := ?_) #[true, true, true, true, true, false, false, false, true, true, true, true, false, false, false, false, false, false, false, false, false, false, false, false, false, false, false] rfl rfl (take_ofW HT_.out HW_.out (by kernel_rfl)) (fun _ _ _ h => h) (Or.inl ⟨by rfl, ?_⟩) hHeld ?_ ?_
                                                            rotate_left
                                                            · rintro w' ⟨s0, s1, s2, s3, s4, s5, s6, s7, s8, s9, s10, s11, s12, s13, s14, s15, s16⟩
                                                              go_simp
                                                              with_reducible rfl
                                                            rotate_left
                                                            · simp only [Act.put, List.setIfInBounds_toArray, List.set_cons_zero, List.set_cons_succ, i64_w, i32_w]
                                                              rfl
                                                            refine pure_ (i := 5) (N := some 79) (v := ?_) (a' := ?_) #[true, true, true, true, true, true, false, false, true, true, true, true, false, false, false, false, false, false, false, false, false, false, false, false, false, false, false] rfl rfl (any_of HT_.out (by kernel_rfl)) (fun _ _ _ h => h) (Or.inl ⟨by rfl, ?_⟩) ?_ ?_
                                                            rotate_left
                                                            · intro w'
                                                              go_simp
                                                              with_reducible rfl
                                                            rotate_left
                                                            · simp only [Act.put, List.setIfInBounds_toArray, List.set_cons_zero, List.set_cons_succ, i64_w, i32_w]
                                                              rfl
                                                            refine take_ (i := 6) (N := some 80) (v := ?_) (a' := ?_) #[true, true, true, true, true, true, true, false, true, true, true, true, false, false, false, false, false, false, false, false, false, false, false, false, false, false, false] rfl rfl (take_ofW HT_.out HW_.out (by kernel_rfl)) (fun _ _ _ h => h) (Or.inl ⟨by rfl, ?_⟩) hHeld ?_ ?_
                                                            rotate_left
                                                            · rintro w' ⟨s0, s1, s2, s3, s4, s5, s6, s7, s8, s9, s10, s11, s12, s13, s14, s15, s16⟩
                                                              go_simp
                                                              with_reducible rfl
                                                            rotate_left
                                                            · simp only [Act.put, List.setIfInBounds_toArray, List.set_cons_zero, List.set_cons_succ, i64_w, i32_w]
                                                              rfl
                                                            refine take_ (i := 12) (N := some 86) (v := ?_) (a' := ?_) #[true, true, true, true, true, true, true, false, true, true, true, true, true, false, false, false, false, false, false, false, false, false, false, false, false, false, false] rfl rfl (take_ofW HT_.out HW_.out (by kernel_rfl)) (fun _ _ _ h => h) (Or.inl ⟨by rfl, ?_⟩) hHeld ?_ ?_
                                                            rotate_left
                                                            · rintro w' ⟨s0, s1, s2, s3, s4, s5, s6, s7, s8, s9, s10, s11, s12, s13, s14, s15, s16⟩
                                                              go_simp
                                                              with_reducible rfl
                                                            rotate_left
                                                            · simp only [Act.put, List.setIfInBounds_toArray, List.set_cons_zero, List.set_cons_succ, i64_w, i32_w]
                                                              rfl
                                                            refine pure_ (i := 13) (N := some 87) (v := ?_) (a' := ?_) #[true, true, true, true, true, true, true, false, true, true, true, true, true, true, false, false, false, false, false, false, false, false, false, false, false, false, false] rfl rfl (any_of HT_.out (by kernel_rfl)) (fun _ _ _ h => h) (Or.inl ⟨by rfl, ?_⟩) ?_ ?_
                                                            rotate_left
                                                            · intro w'
                                                              go_simp
                                                              with_reducible rfl
                                                            rotate_left
                                                            · simp only [Act.put, List.setIfInBounds_toArray, List.set_cons_zero, List.set_cons_succ, i64_w, i32_w]
                                                              rfl
                                                            refine take_ (i := 14) (N := some 88) (v := ?_) (a' := ?_) #[true, true, true, true, true, true, true, false, true, true, true, true, true, true, true, false, false, false, false, false, false, false, false, false, false, false, false] rfl rfl (take_ofW HT_.out HW_.out (by kernel_rfl)) (fun _ _ _ h => h) (Or.inl ⟨by rfl, ?_⟩) hHeld ?_ ?_
                                                            rotate_left
                                                            · rintro w' ⟨s0, s1, s2, s3, s4, s5, s6, s7, s8, s9, s10, s11, s12, s13, s14, s15, s16⟩
                                                              go_simp
                                                              with_reducible rfl
                                                            rotate_left
                                                            · simp only [Act.put, List.setIfInBounds_toArray, List.set_cons_zero, List.set_cons_succ, i64_w, i32_w]
                                                              rfl
                                                            refine one_ (i := 7) (N := some 81) #[true, true, true, true, true, true, true, true, true, true, true, true, true, true, true, false, false, false, false, false, false, false, false, false, false, false, false] rfl rfl (one_of HT_.out (by kernel_rfl)) (by decide) (fun K hK => ?_)
                                                            refine goes_ Try.func22 (by kernel_rfl) rfl #[.agg #[.int .i64 ((rd_T35 l0 (rd t223 x8_3)).f0), .int .i64 ((rd_T35 l0 (rd t223 x8_3)).f1), .int .i64 ((rd_T35 l0 (rd t223 x8_3)).f2), .slice A233_3 ((rd_T35 l0 (rd t223 x8_3)).f3).length c233_3, .int .i64 ((rd_T35 l0 (rd t223 x8_3)).f4), .int .i64 ((rd_T35 l0 (rd t223 x8_3)).f5), .slice A233_6 ((rd_T35 l0 (rd t223 x8_3)).f6).length c233_6]] (by rfl) rfl rfl (by (try simp only [List.map_toArray, List.map_cons, List.map_nil]); first | done | rfl | (simp only [List.length_drop, List.length_take]; rfl)) ?_
                                                            with_reducible refine (limelightlaw05_value.calls k5 ((rd_T35 l0 (rd t223 x8_3)).f0) ((rd_T35 l0 (rd t223 x8_3)).f1) ((rd_T35 l0 (rd t223 x8_3)).f2) _ _ ((rd_T35 l0 (rd t223 x8_3)).f3) ((rd_T35 l0 (rd t223 x8_3)).f4) ((rd_T35 l0 (rd t223 x8_3)).f5) _ _ ((rd_T35 l0 (rd t223 x8_3)).f6) t234 _ ?side1 ?side2 ?side3 ?side4 A33.out).mono ?_
                                                            (case side1 => repeat (first | exact (Kd.C_below HR233_3.out HB.out) | (with_reducible refine Kd.C_alloc ?_ _) | (with_reducible refine Kd.C_drewN ?_ _) | (with_reducible refine Kd.C_drew ?_)))
                                                            (case side2 => exact HC233_3.out)
                                                            (case side3 => repeat (first | exact (Kd.C_below HR233_6.out HB.out) | (with_reducible refine Kd.C_alloc ?_ _) | (with_reducible refine Kd.C_drewN ?_ _) | (with_reducible refine Kd.C_drew ?_)))
                                                            (case side4 => exact HC233_6.out)
                                                            rintro e w44 ⟨rfl, hb⟩
                                                            have HS0_ := (hb.cell (World.block_lt_of_cell? _ _ (hHeld.1))).trans (hHeld.1)
                                                            have HS8_ := (hb.cell (World.block_lt_of_cell? _ _ (hHeld.2.2.2.2.2.2.2.2.1))).trans (hHeld.2.2.2.2.2.2.2.2.1)
                                                            have HS16_ := (hb.cell (World.block_lt_of_cell? _ _ (hHeld.2.2.2.2.2.2.2.2.2.2.2.2.2.2.2.2))).trans (hHeld.2.2.2.2.2.2.2.2.2.2.2.2.2.2.2.2)
                                                            refine ⟨_, rfl, ?_⟩
                                                            have n0_ := Aside0.mk (Kd.R_below (by (with_reducible repeat (first | apply Kd.R_alloc | apply Kd.R_drewN | apply Kd.R_drew)); exact HO_5.out) hb)
                                                            have n1_ := Aside0.mk (below_step (by repeat (first | (with_reducible first | exact HB.out | apply below_alloc | apply pw_below_drewN | apply below_drew1) | exact HB.out)) hb)
                                                            clear HO_5
                                                            clear HB
                                                            have HO_5 := n0_
                                                            have HB := n1_
                                                            clear n0_ n1_
                                                            (try clear hb)
                                                            (try clear hb2)
                                                            (try clear hk)
                                                            (try clear hi)
                                                            refine hK.out _ _ ⟨HS0_, ((HB.out.cell (World.block_lt_of_cell? w _ hw233_0)).trans hw233_0), ((HB.out.cell (World.block_lt_of_cell? w _ hw233_1)).trans hw233_1), ((HB.out.cell (World.block_lt_of_cell? w _ hw233_2)).trans hw233_2), ((HB.out.cell (World.block_lt_of_cell? w _ hw233_3)).trans hw233_3), ((HB.out.cell (World.block_lt_of_cell? w _ hw233_4)).trans hw233_4), ((HB.out.cell (World.block_lt_of_cell? w _ hw233_5)).trans hw233_5), ((HB.out.cell (World.block_lt_of_cell? w _ hw233_6)).trans hw233_6), HS8_, ((HB.out.cell (World.block_lt_of_cell? w _ hw236_0)).trans hw236_0), ((HB.out.cell (World.block_lt_of_cell? w _ hw236_1)).trans hw236_1), ((HB.out.cell (World.block_lt_of_cell? w _ hw236_2)).trans hw236_2), ((HB.out.cell (World.block_lt_of_cell? w _ hw236_3)).trans hw236_3), ((HB.out.cell (World.block_lt_of_cell? w _ hw236_4)).trans hw236_4), ((HB.out.cell (World.block_lt_of_cell? w _ hw236_5)).trans hw236_5), ((HB.out.cell (World.block_lt_of_cell? w _ hw236_6)).trans hw236_6), HS16_⟩ (fun hHeld => ?_)
                                                            clear hK K
                                                            refine norm_ (a' := ?_) ?_ ?_
                                                            rotate_left
                                                            · show Act.put _ (some 81) _ = _
                                                              simp only [Act.put, List.setIfInBounds_toArray, List.set_cons_zero, List.set_cons_succ, i64_w, i32_w]
                                                              rfl
                                                            refine one_ (i := 15) (N := some 89) #[true, true, true, true, true, true, true, true, true, true, true, true, true, true, true, true, false, false, false, false, false, false, false, false, false, false, false] rfl rfl (one_of HT_.out (by kernel_rfl)) (by decide) (fun K hK => ?_)
                                                            refine goes_ Try.func22 (by kernel_rfl) rfl #[.agg #[.int .i64 ((rd_T35 l0 (rd t223 x9_5)).f0), .int .i64 ((rd_T35 l0 (rd t223 x9_5)).f1), .int .i64 ((rd_T35 l0 (rd t223 x9_5)).f2), .slice A236_3 ((rd_T35 l0 (rd t223 x9_5)).f3).length c236_3, .int .i64 ((rd_T35 l0 (rd t223 x9_5)).f4), .int .i64 ((rd_T35 l0 (rd t223 x9_5)).f5), .slice A236_6 ((rd_T35 l0 (rd t223 x9_5)).f6).length c236_6]] (by rfl) rfl rfl (by (try simp only [List.map_toArray, List.map_cons, List.map_nil]); first | done | rfl | (simp only [List.length_drop, List.length_take]; rfl)) ?_
                                                            with_reducible refine (limelightlaw05_value.calls k5 ((rd_T35 l0 (rd t223 x9_5)).f0) ((rd_T35 l0 (rd t223 x9_5)).f1) ((rd_T35 l0 (rd t223 x9_5)).f2) _ _ ((rd_T35 l0 (rd t223 x9_5)).f3) ((rd_T35 l0 (rd t223 x9_5)).f4) ((rd_T35 l0 (rd t223 x9_5)).f5) _ _ ((rd_T35 l0 (rd t223 x9_5)).f6) t237 _ ?side1 ?side2 ?side3 ?side4 A38.out).mono ?_
                                                            (case side1 => repeat (first | exact (Kd.C_below HR236_3.out HB.out) | (with_reducible refine Kd.C_alloc ?_ _) | (with_reducible refine Kd.C_drewN ?_ _) | (with_reducible refine Kd.C_drew ?_)))
                                                            (case side2 => exact HC236_3.out)
                                                            (case side3 => repeat (first | exact (Kd.C_below HR236_6.out HB.out) | (with_reducible refine Kd.C_alloc ?_ _) | (with_reducible refine Kd.C_drewN ?_ _) | (with_reducible refine Kd.C_drew ?_)))
                                                            (case side4 => exact HC236_6.out)
                                                            rintro e w45 ⟨rfl, hb⟩
                                                            have HS0_ := (hb.cell (World.block_lt_of_cell? _ _ (hHeld.1))).trans (hHeld.1)
                                                            have HS8_ := (hb.cell (World.block_lt_of_cell? _ _ (hHeld.2.2.2.2.2.2.2.2.1))).trans (hHeld.2.2.2.2.2.2.2.2.1)
                                                            have HS16_ := (hb.cell (World.block_lt_of_cell? _ _ (hHeld.2.2.2.2.2.2.2.2.2.2.2.2.2.2.2.2))).trans (hHeld.2.2.2.2.2.2.2.2.2.2.2.2.2.2.2.2)
                                                            refine ⟨_, rfl, ?_⟩
                                                            have n0_ := Aside0.mk (Kd.R_below (by (with_reducible repeat (first | apply Kd.R_alloc | apply Kd.R_drewN | apply Kd.R_drew)); exact HO_5.out) hb)
                                                            have n1_ := Aside0.mk (below_step (by repeat (first | (with_reducible first | exact HB.out | apply below_alloc | apply pw_below_drewN | apply below_drew1) | exact HB.out)) hb)
                                                            clear HO_5
                                                            clear HB
                                                            have HO_5 := n0_
                                                            have HB := n1_
                                                            clear n0_ n1_
                                                            (try clear hb)
                                                            (try clear hb2)
                                                            (try clear hk)
                                                            (try clear hi)
                                                            refine hK.out _ _ ⟨HS0_, ((HB.out.cell (World.block_lt_of_cell? w _ hw233_0)).trans hw233_0), ((HB.out.cell (World.block_lt_of_cell? w _ hw233_1)).trans hw233_1), ((HB.out.cell (World.block_lt_of_cell? w _ hw233_2)).trans hw233_2), ((HB.out.cell (World.block_lt_of_cell? w _ hw233_3)).trans hw233_3), ((HB.out.cell (World.block_lt_of_cell? w _ hw233_4)).trans hw233_4), ((HB.out.cell (World.block_lt_of_cell? w _ hw233_5)).trans hw233_5), ((HB.out.cell (World.block_lt_of_cell? w _ hw233_6)).trans hw233_6), HS8_, ((HB.out.cell (World.block_lt_of_cell? w _ hw236_0)).trans hw236_0), ((HB.out.cell (World.block_lt_of_cell? w _ hw236_1)).trans hw236_1), ((HB.out.cell (World.block_lt_of_cell? w _ hw236_2)).trans hw236_2), ((HB.out.cell (World.block_lt_of_cell? w _ hw236_3)).trans hw236_3), ((HB.out.cell (World.block_lt_of_cell? w _ hw236_4)).trans hw236_4), ((HB.out.cell (World.block_lt_of_cell? w _ hw236_5)).trans hw236_5), ((HB.out.cell (World.block_lt_of_cell? w _ hw236_6)).trans hw236_6), HS16_⟩ (fun hHeld => ?_)
                                                            clear hK K
                                                            refine norm_ (a' := ?_) ?_ ?_
                                                            rotate_left
                                                            · show Act.put _ (some 89) _ = _
                                                              simp only [Act.put, List.setIfInBounds_toArray, List.set_cons_zero, List.set_cons_succ, i64_w, i32_w]
                                                              rfl
                                                            refine pure_ (i := 16) (N := some 90) (v := ?_) (a' := ?_) #[true, true, true, true, true, true, true, true, true, true, true, true, true, true, true, true, true, false, false, false, false, false, false, false, false, false, false] rfl rfl (any_of HT_.out (by kernel_rfl)) (fun _ _ _ h => h) (Or.inl ⟨by rfl, ?_⟩) ?_ ?_
                                                            rotate_left
                                                            · intro w'
                                                              go_simp
                                                              with_reducible rfl
                                                            rotate_left
                                                            · simp only [Act.put, List.setIfInBounds_toArray, List.set_cons_zero, List.set_cons_succ, i64_w, i32_w]
                                                              rfl
                                                            refine pure_ (i := 17) (N := some 91) (v := ?_) (a' := ?_) #[true, true, true, true, true, true, true, true, true, true, true, true, true, true, true, true, true, true, false, false, false, false, false, false, false, false, false] rfl rfl (any_of HT_.out (by kernel_rfl)) (fun _ _ _ h => h) (Or.inl ⟨by rfl, ?_⟩) ?_ ?_
                                                            rotate_left
                                                            · intro w'
                                                              go_simp
                                                              with_reducible rfl
                                                            rotate_left
                                                            · simp only [Act.put, List.setIfInBounds_toArray, List.set_cons_zero, List.set_cons_succ, i64_w, i32_w]
                                                              rfl
                                                            refine pure_ (i := 18) (N := some 92) (v := ?_) (a' := ?_) #[true, true, true, true, true, true, true, true, true, true, true, true, true, true, true, true, true, true, true, false, false, false, false, false, false, false, false] rfl rfl (any_of HT_.out (by kernel_rfl)) (fun _ _ _ h => h) (Or.inl ⟨by rfl, ?_⟩) ?_ ?_
                                                            rotate_left
                                                            · intro w'
                                                              go_simp
                                                              with_reducible rfl
                                                            rotate_left
                                                            · simp only [Act.put, List.setIfInBounds_toArray, List.set_cons_zero, List.set_cons_succ, i64_w, i32_w]
                                                              rfl
                                                            refine pure_ (i := 19) (N := some 93) (v := ?_) (a' := ?_) #[true, true, true, true, true, true, true, true, true, true, true, true, true, true, true, true, true, true, true, true, false, false, false, false, false, false, false] rfl rfl (any_of HT_.out (by kernel_rfl)) (fun _ _ _ h => h) (Or.inl ⟨by rfl, ?_⟩) ?_ ?_
                                                            rotate_left
                                                            · intro w'
                                                              go_simp
                                                              with_reducible rfl
                                                            rotate_left
                                                            · simp only [Act.put, List.setIfInBounds_toArray, List.set_cons_zero, List.set_cons_succ, i64_w, i32_w]
                                                              rfl
                                                            refine pure_ (i := 20) (N := some 94) (v := ?_) (a' := ?_) #[true, true, true, true, true, true, true, true, true, true, true, true, true, true, true, true, true, true, true, true, true, false, false, false, false, false, false] rfl rfl (any_of HT_.out (by kernel_rfl)) (fun _ _ _ h => h) (Or.inl ⟨by rfl, ?_⟩) ?_ ?_
                                                            rotate_left
                                                            · intro w'
                                                              go_simp
                                                              with_reducible rfl
                                                            rotate_left
                                                            · simp only [Act.put, List.setIfInBounds_toArray, List.set_cons_zero, List.set_cons_succ, i64_w, i32_w]
                                                              rfl
                                                            refine pure_ (i := 21) (N := some 95) (v := ?_) (a' := ?_) #[true, true, true, true, true, true, true, true, true, true, true, true, true, true, true, true, true, true, true, true, true, true, false, false, false, false, false] rfl rfl (any_of HT_.out (by kernel_rfl)) (fun _ _ _ h => h) (Or.inl ⟨by rfl, ?_⟩) ?_ ?_
                                                            rotate_left
                                                            · intro w'
                                                              go_simp
                                                              with_reducible rfl
                                                            rotate_left
                                                            · simp only [Act.put, List.setIfInBounds_toArray, List.set_cons_zero, List.set_cons_succ, i64_w, i32_w]
                                                              rfl
                                                            refine take_ (i := 22) (N := some 96) (v := ?_) (a' := ?_) #[true, true, true, true, true, true, true, true, true, true, true, true, true, true, true, true, true, true, true, true, true, true, true, false, false, false, false] rfl rfl (take_ofW HT_.out HW_.out (by kernel_rfl)) (fun _ _ _ h => h) (Or.inl ⟨by rfl, ?_⟩) hHeld ?_ ?_
                                                            rotate_left
                                                            · rintro w' ⟨s0, s1, s2, s3, s4, s5, s6, s7, s8, s9, s10, s11, s12, s13, s14, s15, s16⟩
                                                              go_simp
                                                              with_reducible rfl
                                                            rotate_left
                                                            · simp only [Act.put, List.setIfInBounds_toArray, List.set_cons_zero, List.set_cons_succ, i64_w, i32_w]
                                                              rfl
                                                            refine one_ (i := 23) (N := some 97) #[true, true, true, true, true, true, true, true, true, true, true, true, true, true, true, true, true, true, true, true, true, true, true, true, false, false, false] rfl rfl (one_of HT_.out (by kernel_rfl)) (by decide) (fun K hK => ?_)
                                                            refine goes_ Try.func13 (by kernel_rfl) rfl #[.slice (some ad226) l0.length c0, .int .i64 (rd t223 x8_3)] (by rfl) rfl rfl (by (try simp only [List.map_toArray, List.map_cons, List.map_nil]); first | done | rfl | (simp only [List.length_drop, List.length_take]; rfl)) ?_
                                                            with_reducible refine (slots_Assigned.calls _ _ l0 (rd t223 x8_3) t239 _ ?side1 ?side2 A40.out).mono ?_
                                                            (case side1 => repeat (first | exact (Kd.C_below HR0.out HB.out) | (with_reducible refine Kd.C_alloc ?_ _) | (with_reducible refine Kd.C_drewN ?_ _) | (with_reducible refine Kd.C_drew ?_)))
                                                            (case side2 => exact HC0.out)
                                                            rintro e w46 ⟨v240, rfl, ho0, hb⟩
                                                            have HS0_ := (hb.cell (World.block_lt_of_cell? _ _ (hHeld.1))).trans (hHeld.1)
                                                            have HS8_ := (hb.cell (World.block_lt_of_cell? _ _ (hHeld.2.2.2.2.2.2.2.2.1))).trans (hHeld.2.2.2.2.2.2.2.2.1)
                                                            have HS16_ := (hb.cell (World.block_lt_of_cell? _ _ (hHeld.2.2.2.2.2.2.2.2.2.2.2.2.2.2.2.2))).trans (hHeld.2.2.2.2.2.2.2.2.2.2.2.2.2.2.2.2)
                                                            refine ⟨_, rfl, ?_⟩
                                                            have n0_ := Aside0.mk (Kd.R_elder' (by (with_reducible repeat (first | apply Kd.R_alloc | apply Kd.R_drewN | apply Kd.R_drew)); exact HO_5.out) (Kd.R_base ho0) hb)
                                                            have n1_ := Aside0.mk (Kd.R_lower (Kd.R_new' ho0 (Kd.R_lt (by (with_reducible repeat (first | apply Kd.R_alloc | apply Kd.R_drewN | apply Kd.R_drew)); exact HO_5.out))) (below_size (by repeat (first | (with_reducible first | exact HB.out | apply below_alloc | apply pw_below_drewN | apply below_drew1) | exact HB.out))))
                                                            have n2_ := Aside0.mk (below_step (by repeat (first | (with_reducible first | exact HB.out | apply below_alloc | apply pw_below_drewN | apply below_drew1) | exact HB.out)) hb)
                                                            clear HO_5
                                                            clear HB
                                                            have HO_5 := n0_
                                                            have HO241 := n1_
                                                            have HB := n2_
                                                            clear n0_ n1_ n2_
                                                            (try clear hb)
                                                            (try clear hb2)
                                                            (try clear hk)
                                                            (try clear hi)
                                                            (try clear ho0)
                                                            obtain ⟨Ao47, co47, eo47⟩ := Kd.R_slice HO241.out
                                                            (first | subst eo47 | (injection eo47 with f1_ f2_ f3_; have f4_ := f1_.symm; have f5_ := f3_.symm; clear f1_ f2_ f3_; subst f4_; subst f5_))
                                                            refine hK.out _ _ ⟨HS0_, ((HB.out.cell (World.block_lt_of_cell? w _ hw233_0)).trans hw233_0), ((HB.out.cell (World.block_lt_of_cell? w _ hw233_1)).trans hw233_1), ((HB.out.cell (World.block_lt_of_cell? w _ hw233_2)).trans hw233_2), ((HB.out.cell (World.block_lt_of_cell? w _ hw233_3)).trans hw233_3), ((HB.out.cell (World.block_lt_of_cell? w _ hw233_4)).trans hw233_4), ((HB.out.cell (World.block_lt_of_cell? w _ hw233_5)).trans hw233_5), ((HB.out.cell (World.block_lt_of_cell? w _ hw233_6)).trans hw233_6), HS8_, ((HB.out.cell (World.block_lt_of_cell? w _ hw236_0)).trans hw236_0), ((HB.out.cell (World.block_lt_of_cell? w _ hw236_1)).trans hw236_1), ((HB.out.cell (World.block_lt_of_cell? w _ hw236_2)).trans hw236_2), ((HB.out.cell (World.block_lt_of_cell? w _ hw236_3)).trans hw236_3), ((HB.out.cell (World.block_lt_of_cell? w _ hw236_4)).trans hw236_4), ((HB.out.cell (World.block_lt_of_cell? w _ hw236_5)).trans hw236_5), ((HB.out.cell (World.block_lt_of_cell? w _ hw236_6)).trans hw236_6), HS16_⟩ (fun hHeld => ?_)
                                                            clear hK K
                                                            refine norm_ (a' := ?_) ?_ ?_
                                                            rotate_left
                                                            · show Act.put _ (some 97) _ = _
                                                              simp only [Act.put, List.setIfInBounds_toArray, List.set_cons_zero, List.set_cons_succ, i64_w, i32_w]
                                                              rfl
                                                            refine pure_ (i := 24) (N := some 98) (v := ?_) (a' := ?_) #[true, true, true, true, true, true, true, true, true, true, true, true, true, true, true, true, true, true, true, true, true, true, true, true, true, false, false] rfl rfl (any_of HT_.out (by kernel_rfl)) (fun _ _ _ h => h) (Or.inl ⟨by rfl, ?_⟩) ?_ ?_
                                                            rotate_left
                                                            · intro w'
                                                              go_simp
                                                              with_reducible rfl
                                                            rotate_left
                                                            · simp only [Act.put, List.setIfInBounds_toArray, List.set_cons_zero, List.set_cons_succ, i64_w, i32_w]
                                                              rfl
                                                            refine pure_ (i := 25) (N := some 99) (v := ?_) (a' := ?_) #[true, true, true, true, true, true, true, true, true, true, true, true, true, true, true, true, true, true, true, true, true, true, true, true, true, true, false] rfl rfl (any_of HT_.out (by kernel_rfl)) (fun _ _ _ h => h) (Or.inl ⟨by rfl, ?_⟩) ?_ ?_
                                                            rotate_left
                                                            · intro w'
                                                              go_simp
                                                              with_reducible rfl
                                                            rotate_left
                                                            · simp only [Act.put, List.setIfInBounds_toArray, List.set_cons_zero, List.set_cons_succ, i64_w, i32_w]
                                                              rfl
                                                            refine pure_ (i := 26) (N := some 100) (v := ?_) (a' := ?_) #[true, true, true, true, true, true, true, true, true, true, true, true, true, true, true, true, true, true, true, true, true, true, true, true, true, true, true] rfl rfl (any_of HT_.out (by kernel_rfl)) (fun _ _ _ h => h) (Or.inl ⟨by rfl, ?_⟩) ?_ ?_
                                                            rotate_left
                                                            · intro w'
                                                              go_simp
                                                              with_reducible rfl
                                                            rotate_left
                                                            · simp only [Act.put, List.setIfInBounds_toArray, List.set_cons_zero, List.set_cons_succ, i64_w, i32_w]
                                                              rfl
                                                            refine done_ (done_of HT_.out (by kernel_rfl)) ?_
                                                            try go_wp2
                                                            go_roundg k5
                                                            case measure => have := HJ2.out; have := HK2.out; have := HK3.out; have := HJ22.out; have := HK5.out; omega
                                                            case rel => exact ⟨(wrap64 (x9_5 + 1)), (by first | rfl | (simp; done) | (simp [*]; done)), H', ⟨by have := HJ2.out; have := HK2.out; have := HK3.out; have := HJ22.out; have := HK5.out; omega⟩, ⟨by (with_reducible repeat (first | apply Kd.R_alloc | apply Kd.R_drewN | apply Kd.R_drew)); exact Kd.R_mono HO_5.out (fun _ hk => trivial)⟩, ⟨by repeat (first | (with_reducible first | exact HB.out | apply below_alloc | apply pw_below_drewN | apply below_drew1) | exact HB.out)⟩⟩
                                                        · rw [if_neg c39] at H
                                                          have c39b0 : (t234 == t237) = false := beq_eq_false_iff_ne.mpr c39
                                                          have c39b1 : (t234 != t237) = true := bne_iff_ne.mpr c39
                                                          have H' := Aside0.mk H
                                                          clear H
                                                          try go_wp2
                                                          have n0_ := Aside0.mk (Kd.R_drew HO_5.out)
                                                          have n1_ := Aside0.mk (below_drew1 HB.out)
                                                          clear HO_5
                                                          clear HB
                                                          have HO_5 := n0_
                                                          have HB := n1_
                                                          clear n0_ n1_
                                                          obtain ⟨Ao49, co49, eo49⟩ := Kd.R_slice HO_5.out
                                                          (first | subst eo49 | (injection eo49 with f1_ f2_ f3_; have f4_ := f1_.symm; have f5_ := f3_.symm; clear f1_ f2_ f3_; subst f4_; subst f5_))
                                                          have p232 : 0 ≤ (x8_3 : Int) := of_decide_eq_true (by first | (with_reducible assumption) | assumption)
                                                          have q232 : x8_3 < (t223.length : Int) := of_decide_eq_true (by first | (with_reducible assumption) | assumption)
                                                          obtain ⟨ad232, e232, hx232_0⟩ := Kd.at_int (Kd.R_reads' HO_5.out).2.2 x8_3 p232 q232
                                                          cases e232
                                                          replace p232 := eq_true p232
                                                          replace q232 := eq_true q232
                                                          have p233 : 0 ≤ ((rd t223 x8_3) : Int) := of_decide_eq_true (by first | (with_reducible assumption) | assumption)
                                                          have q233 : (rd t223 x8_3) < (l0.length : Int) := of_decide_eq_true (by first | (with_reducible assumption) | assumption)
                                                          obtain ⟨ad233, A233_3, c233_3, A233_6, c233_6, e233, hx233_0, hx233_1, hx233_2, hx233_3, hx233_4, hx233_5, hx233_6, hl233_3, hi233_3, hl233_6, hi233_6⟩ := at_T35 HR0.out (rd t223 x8_3) p233 q233
                                                          have hw233_6 := hx233_6
                                                          have hw233_5 := hx233_5
                                                          have hw233_4 := hx233_4
                                                          have hw233_3 := hx233_3
                                                          have hw233_2 := hx233_2
                                                          have hw233_1 := hx233_1
                                                          have hw233_0 := hx233_0
                                                          obtain rfl : ad226 = ad233 := (by injection e233)
                                                          replace hx233_0 := (HB.out.cell (World.block_lt_of_cell? w _ hx233_0)).trans hx233_0
                                                          replace hx233_1 := (HB.out.cell (World.block_lt_of_cell? w _ hx233_1)).trans hx233_1
                                                          replace hx233_2 := (HB.out.cell (World.block_lt_of_cell? w _ hx233_2)).trans hx233_2
                                                          replace hx233_3 := (HB.out.cell (World.block_lt_of_cell? w _ hx233_3)).trans hx233_3
                                                          replace hx233_4 := (HB.out.cell (World.block_lt_of_cell? w _ hx233_4)).trans hx233_4
                                                          replace hx233_5 := (HB.out.cell (World.block_lt_of_cell? w _ hx233_5)).trans hx233_5
                                                          replace hx233_6 := (HB.out.cell (World.block_lt_of_cell? w _ hx233_6)).trans hx233_6
                                                          have HR233_3 := Aside0.mk hi233_3
                                                          have HC233_3 := Aside0.mk hl233_3
                                                          clear hi233_3 hl233_3
                                                          have HR233_6 := Aside0.mk hi233_6
                                                          have HC233_6 := Aside0.mk hl233_6
                                                          clear hi233_6 hl233_6
                                                          replace p233 := eq_true p233
                                                          replace q233 := eq_true q233
                                                          have p235 : 0 ≤ (x9_5 : Int) := of_decide_eq_true (by first | (with_reducible assumption) | assumption)
                                                          have q235 : x9_5 < (t223.length : Int) := of_decide_eq_true (by first | (with_reducible assumption) | assumption)
                                                          obtain ⟨ad235, e235, hx235_0⟩ := Kd.at_int (Kd.R_reads' HO_5.out).2.2 x9_5 p235 q235
                                                          obtain rfl : ad232 = ad235 := (by injection e235)
                                                          replace p235 := eq_true p235
                                                          replace q235 := eq_true q235
                                                          have p236 : 0 ≤ ((rd t223 x9_5) : Int) := of_decide_eq_true (by first | (with_reducible assumption) | assumption)
                                                          have q236 : (rd t223 x9_5) < (l0.length : Int) := of_decide_eq_true (by first | (with_reducible assumption) | assumption)
                                                          obtain ⟨ad236, A236_3, c236_3, A236_6, c236_6, e236, hx236_0, hx236_1, hx236_2, hx236_3, hx236_4, hx236_5, hx236_6, hl236_3, hi236_3, hl236_6, hi236_6⟩ := at_T35 HR0.out (rd t223 x9_5) p236 q236
                                                          have hw236_6 := hx236_6
                                                          have hw236_5 := hx236_5
                                                          have hw236_4 := hx236_4
                                                          have hw236_3 := hx236_3
                                                          have hw236_2 := hx236_2
                                                          have hw236_1 := hx236_1
                                                          have hw236_0 := hx236_0
                                                          obtain rfl : ad226 = ad236 := (by injection e236)
                                                          replace hx236_0 := (HB.out.cell (World.block_lt_of_cell? w _ hx236_0)).trans hx236_0
                                                          replace hx236_1 := (HB.out.cell (World.block_lt_of_cell? w _ hx236_1)).trans hx236_1
                                                          replace hx236_2 := (HB.out.cell (World.block_lt_of_cell? w _ hx236_2)).trans hx236_2
                                                          replace hx236_3 := (HB.out.cell (World.block_lt_of_cell? w _ hx236_3)).trans hx236_3
                                                          replace hx236_4 := (HB.out.cell (World.block_lt_of_cell? w _ hx236_4)).trans hx236_4
                                                          replace hx236_5 := (HB.out.cell (World.block_lt_of_cell? w _ hx236_5)).trans hx236_5
                                                          replace hx236_6 := (HB.out.cell (World.block_lt_of_cell? w _ hx236_6)).trans hx236_6
                                                          have HR236_3 := Aside0.mk hi236_3
                                                          have HC236_3 := Aside0.mk hl236_3
                                                          clear hi236_3 hl236_3
                                                          have HR236_6 := Aside0.mk hi236_6
                                                          have HC236_6 := Aside0.mk hl236_6
                                                          clear hi236_6 hl236_6
                                                          replace p236 := eq_true p236
                                                          replace q236 := eq_true q236
                                                          refine start_ (n := 27) (S := fun w' => w'.cell? (ad232.add (x8_3).toNat) = some (.int .i64 (rd t223 x8_3)) ∧ w'.cell? (ad226.add (((rd t223 x8_3)).toNat * 7)) = some (.int .i64 ((rd_T35 l0 (rd t223 x8_3)).f0)) ∧ w'.cell? ⟨(ad226.add (((rd t223 x8_3)).toNat * 7)).block, (ad226.add (((rd t223 x8_3)).toNat * 7)).off + 1, none⟩ = some (.int .i64 ((rd_T35 l0 (rd t223 x8_3)).f1)) ∧ w'.cell? ⟨(ad226.add (((rd t223 x8_3)).toNat * 7)).block, (ad226.add (((rd t223 x8_3)).toNat * 7)).off + 2, none⟩ = some (.int .i64 ((rd_T35 l0 (rd t223 x8_3)).f2)) ∧ w'.cell? ⟨(ad226.add (((rd t223 x8_3)).toNat * 7)).block, (ad226.add (((rd t223 x8_3)).toNat * 7)).off + 3, none⟩ = some (.slice A233_3 ((rd_T35 l0 (rd t223 x8_3)).f3).length c233_3) ∧ w'.cell? ⟨(ad226.add (((rd t223 x8_3)).toNat * 7)).block, (ad226.add (((rd t223 x8_3)).toNat * 7)).off + 4, none⟩ = some (.int .i64 ((rd_T35 l0 (rd t223 x8_3)).f4)) ∧ w'.cell? ⟨(ad226.add (((rd t223 x8_3)).toNat * 7)).block, (ad226.add (((rd t223 x8_3)).toNat * 7)).off + 5, none⟩ = some (.int .i64 ((rd_T35 l0 (rd t223 x8_3)).f5)) ∧ w'.cell? ⟨(ad226.add (((rd t223 x8_3)).toNat * 7)).block, (ad226.add (((rd t223 x8_3)).toNat * 7)).off + 6, none⟩ = some (.slice A233_6 ((rd_T35 l0 (rd t223 x8_3)).f6).length c233_6) ∧ w'.cell? (ad232.add (x9_5).toNat) = some (.int .i64 (rd t223 x9_5)) ∧ w'.cell? (ad226.add (((rd t223 x9_5)).toNat * 7)) = some (.int .i64 ((rd_T35 l0 (rd t223 x9_5)).f0)) ∧ w'.cell? ⟨(ad226.add (((rd t223 x9_5)).toNat * 7)).block, (ad226.add (((rd t223 x9_5)).toNat * 7)).off + 1, none⟩ = some (.int .i64 ((rd_T35 l0 (rd t223 x9_5)).f1)) ∧ w'.cell? ⟨(ad226.add (((rd t223 x9_5)).toNat * 7)).block, (ad226.add (((rd t223 x9_5)).toNat * 7)).off + 2, none⟩ = some (.int .i64 ((rd_T35 l0 (rd t223 x9_5)).f2)) ∧ w'.cell? ⟨(ad226.add (((rd t223 x9_5)).toNat * 7)).block, (ad226.add (((rd t223 x9_5)).toNat * 7)).off + 3, none⟩ = some (.slice A236_3 ((rd_T35 l0 (rd t223 x9_5)).f3).length c236_3) ∧ w'.cell? ⟨(ad226.add (((rd t223 x9_5)).toNat * 7)).block, (ad226.add (((rd t223 x9_5)).toNat * 7)).off + 4, none⟩ = some (.int .i64 ((rd_T35 l0 (rd t223 x9_5)).f4)) ∧ w'.cell? ⟨(ad226.add (((rd t223 x9_5)).toNat * 7)).block, (ad226.add (((rd t223 x9_5)).toNat * 7)).off + 5, none⟩ = some (.int .i64 ((rd_T35 l0 (rd t223 x9_5)).f5)) ∧ w'.cell? ⟨(ad226.add (((rd t223 x9_5)).toNat * 7)).block, (ad226.add (((rd t223 x9_5)).toNat * 7)).off + 6, none⟩ = some (.slice A236_6 ((rd_T35 l0 (rd t223 x9_5)).f6).length c236_6)) (ds := []) #[false, false, false, false, false, false, false, false, false, false, false, false, false, false, false, false, false, false, false, false, false, false, false, false, false, false, false] (by kernel_rfl) rfl rfl ⟨hx232_0, ((HB.out.cell (World.block_lt_of_cell? w _ hw233_0)).trans hw233_0), ((HB.out.cell (World.block_lt_of_cell? w _ hw233_1)).trans hw233_1), ((HB.out.cell (World.block_lt_of_cell? w _ hw233_2)).trans hw233_2), ((HB.out.cell (World.block_lt_of_cell? w _ hw233_3)).trans hw233_3), ((HB.out.cell (World.block_lt_of_cell? w _ hw233_4)).trans hw233_4), ((HB.out.cell (World.block_lt_of_cell? w _ hw233_5)).trans hw233_5), ((HB.out.cell (World.block_lt_of_cell? w _ hw233_6)).trans hw233_6), hx235_0, ((HB.out.cell (World.block_lt_of_cell? w _ hw236_0)).trans hw236_0), ((HB.out.cell (World.block_lt_of_cell? w _ hw236_1)).trans hw236_1), ((HB.out.cell (World.block_lt_of_cell? w _ hw236_2)).trans hw236_2), ((HB.out.cell (World.block_lt_of_cell? w _ hw236_3)).trans hw236_3), ((HB.out.cell (World.block_lt_of_cell? w _ hw236_4)).trans hw236_4), ((HB.out.cell (World.block_lt_of_cell? w _ hw236_5)).trans hw236_5), ((HB.out.cell (World.block_lt_of_cell? w _ hw236_6)).trans hw236_6)⟩ (fun hHeld => ?_); refine with_tabW limelightlaw05_SlotsNamed.tab17 limelightlaw05_SlotsNamed.bits17 (fun HT_ HW_ => ?_)
                                                          generalize wr.drew = w48 at HO_5 HB HR233_3 HR233_6 HR236_3 HR236_6 hx232_0 hx233_0 hx233_1 hx233_2 hx233_3 hx233_4 hx233_5 hx233_6 hx235_0 hx236_0 hx236_1 hx236_2 hx236_3 hx236_4 hx236_5 hx236_6 hHeld ⊢
                                                          refine pure_ (i := 0) (N := some 74) (v := ?_) (a' := ?_) #[true, false, false, false, false, false, false, false, false, false, false, false, false, false, false, false, false, false, false, false, false, false, false, false, false, false, false] rfl rfl (any_of HT_.out (by kernel_rfl)) (fun _ _ _ h => h) (Or.inl ⟨by rfl, ?_⟩) ?_ ?_
                                                          rotate_left
                                                          · intro w'
                                                            go_simp
                                                            with_reducible rfl
                                                          rotate_left
                                                          · simp only [Act.put, List.setIfInBounds_toArray, List.set_cons_zero, List.set_cons_succ, i64_w, i32_w]
                                                            rfl
                                                          refine pure_ (i := 1) (N := some 75) (v := ?_) (a' := ?_) #[true, true, false, false, false, false, false, false, false, false, false, false, false, false, false, false, false, false, false, false, false, false, false, false, false, false, false] rfl rfl (any_of HT_.out (by kernel_rfl)) (fun _ _ _ h => h) (Or.inl ⟨by rfl, ?_⟩) ?_ ?_
                                                          rotate_left
                                                          · intro w'
                                                            go_simp
                                                            with_reducible rfl
                                                          rotate_left
                                                          · simp only [Act.put, List.setIfInBounds_toArray, List.set_cons_zero, List.set_cons_succ, i64_w, i32_w]
                                                            rfl
                                                          refine pure_ (i := 2) (N := some 76) (v := ?_) (a' := ?_) #[true, true, true, false, false, false, false, false, false, false, false, false, false, false, false, false, false, false, false, false, false, false, false, false, false, false, false] rfl rfl (any_of HT_.out (by kernel_rfl)) (fun _ _ _ h => h) (Or.inl ⟨by rfl, ?_⟩) ?_ ?_
                                                          rotate_left
                                                          · intro w'
                                                            go_simp
                                                            with_reducible rfl
                                                          rotate_left
                                                          · simp only [Act.put, List.setIfInBounds_toArray, List.set_cons_zero, List.set_cons_succ, i64_w, i32_w]
                                                            rfl
                                                          refine pure_ (i := 3) (N := some 77) (v := ?_) (a' := ?_) #[true, true, true, true, false, false, false, false, false, false, false, false, false, false, false, false, false, false, false, false, false, false, false, false, false, false, false] rfl rfl (any_of HT_.out (by kernel_rfl)) (fun _ _ _ h => h) (Or.inl ⟨by rfl, ?_⟩) ?_ ?_
                                                          rotate_left
                                                          · intro w'
                                                            go_simp
                                                            with_reducible rfl
                                                          rotate_left
                                                          · simp only [Act.put, List.setIfInBounds_toArray, List.set_cons_zero, List.set_cons_succ, i64_w, i32_w]
                                                            rfl
                                                          refine pure_ (i := 8) (N := some 82) (v := ?_) (a' := ?_) #[true, true, true, true, false, false, false, false, true, false, false, false, false, false, false, false, false, false, false, false, false, false, false, false, false, false, false] rfl rfl (any_of HT_.out (by kernel_rfl)) (fun _ _ _ h => h) (Or.inl ⟨by rfl, ?_⟩) ?_ ?_
                                                          rotate_left
                                                          · intro w'
                                                            go_simp
                                                            with_reducible rfl
                                                          rotate_left
                                                          · simp only [Act.put, List.setIfInBounds_toArray, List.set_cons_zero, List.set_cons_succ, i64_w, i32_w]
                                                            rfl
                                                          refine pure_ (i := 9) (N := some 83) (v := ?_) (a' := ?_) #[true, true, true, true, false, false, false, false, true, true, false, false, false, false, false, false, false, false, false, false, false, false, false, false, false, false, false] rfl rfl (any_of HT_.out (by kernel_rfl)) (fun _ _ _ h => h) (Or.inl ⟨by rfl, ?_⟩) ?_ ?_
                                                          rotate_left
                                                          · intro w'
                                                            go_simp
                                                            with_reducible rfl
                                                          rotate_left
                                                          · simp only [Act.put, List.setIfInBounds_toArray, List.set_cons_zero, List.set_cons_succ, i64_w, i32_w]
                                                            rfl
                                                          refine pure_ (i := 10) (N := some 84) (v := ?_) (a' := ?_) #[true, true, true, true, false, false, false, false, true, true, true, false, false, false, false, false, false, false, false, false, false, false, false, false, false, false, false] rfl rfl (any_of HT_.out (by kernel_rfl)) (fun _ _ _ h => h) (Or.inl ⟨by rfl, ?_⟩) ?_ ?_
                                                          rotate_left
                                                          · intro w'
                                                            go_simp
                                                            with_reducible rfl
                                                          rotate_left
                                                          · simp only [Act.put, List.setIfInBounds_toArray, List.set_cons_zero, List.set_cons_succ, i64_w, i32_w]
                                                            rfl
                                                          refine pure_ (i := 11) (N := some 85) (v := ?_) (a' := ?_) #[true, true, true, true, false, false, false, false, true, true, true, true, false, false, false, false, false, false, false, false, false, false, false, false, false, false, false] rfl rfl (any_of HT_.out (by kernel_rfl)) (fun _ _ _ h => h) (Or.inl ⟨by rfl, ?_⟩) ?_ ?_
                                                          rotate_left
                                                          · intro w'
                                                            go_simp
                                                            with_reducible rfl
                                                          rotate_left
                                                          · simp only [Act.put, List.setIfInBounds_toArray, List.set_cons_zero, List.set_cons_succ, i64_w, i32_w]
                                                            rfl
                                                          refine take_ (i := 4) (N := some 78) (v := ?_) (a' := ?_) #[true, true, true, true, true, false, false, false, true, true, true, true, false, false, false, false, false, false, false, false, false, false, false, false, false, false, false] rfl rfl (take_ofW HT_.out HW_.out (by kernel_rfl)) (fun _ _ _ h => h) (Or.inl ⟨by rfl, ?_⟩) hHeld ?_ ?_
                                                          rotate_left
                                                          · rintro w' ⟨s0, s1, s2, s3, s4, s5, s6, s7, s8, s9, s10, s11, s12, s13, s14, s15⟩
                                                            go_simp
                                                            with_reducible rfl
                                                          rotate_left
                                                          · simp only [Act.put, List.setIfInBounds_toArray, List.set_cons_zero, List.set_cons_succ, i64_w, i32_w]
                                                            rfl
                                                          refine pure_ (i := 5) (N := some 79) (v := ?_) (a' := ?_) #[true, true, true, true, true, true, false, false, true, true, true, true, false, false, false, false, false, false, false, false, false, false, false, false, false, false, false] rfl rfl (any_of HT_.out (by kernel_rfl)) (fun _ _ _ h => h) (Or.inl ⟨by rfl, ?_⟩) ?_ ?_
                                                          rotate_left
                                                          · intro w'
                                                            go_simp
                                                            with_reducible rfl
                                                          rotate_left
                                                          · simp only [Act.put, List.setIfInBounds_toArray, List.set_cons_zero, List.set_cons_succ, i64_w, i32_w]
                                                            rfl
                                                          refine take_ (i := 6) (N := some 80) (v := ?_) (a' := ?_) #[true, true, true, true, true, true, true, false, true, true, true, true, false, false, false, false, false, false, false, false, false, false, false, false, false, false, false] rfl rfl (take_ofW HT_.out HW_.out (by kernel_rfl)) (fun _ _ _ h => h) (Or.inl ⟨by rfl, ?_⟩) hHeld ?_ ?_
                                                          rotate_left
                                                          · rintro w' ⟨s0, s1, s2, s3, s4, s5, s6, s7, s8, s9, s10, s11, s12, s13, s14, s15⟩
                                                            go_simp
                                                            with_reducible rfl
                                                          rotate_left
                                                          · simp only [Act.put, List.setIfInBounds_toArray, List.set_cons_zero, List.set_cons_succ, i64_w, i32_w]
                                                            rfl
                                                          refine take_ (i := 12) (N := some 86) (v := ?_) (a' := ?_) #[true, true, true, true, true, true, true, false, true, true, true, true, true, false, false, false, false, false, false, false, false, false, false, false, false, false, false] rfl rfl (take_ofW HT_.out HW_.out (by kernel_rfl)) (fun _ _ _ h => h) (Or.inl ⟨by rfl, ?_⟩) hHeld ?_ ?_
                                                          rotate_left
                                                          · rintro w' ⟨s0, s1, s2, s3, s4, s5, s6, s7, s8, s9, s10, s11, s12, s13, s14, s15⟩
                                                            go_simp
                                                            with_reducible rfl
                                                          rotate_left
                                                          · simp only [Act.put, List.setIfInBounds_toArray, List.set_cons_zero, List.set_cons_succ, i64_w, i32_w]
                                                            rfl
                                                          refine pure_ (i := 13) (N := some 87) (v := ?_) (a' := ?_) #[true, true, true, true, true, true, true, false, true, true, true, true, true, true, false, false, false, false, false, false, false, false, false, false, false, false, false] rfl rfl (any_of HT_.out (by kernel_rfl)) (fun _ _ _ h => h) (Or.inl ⟨by rfl, ?_⟩) ?_ ?_
                                                          rotate_left
                                                          · intro w'
                                                            go_simp
                                                            with_reducible rfl
                                                          rotate_left
                                                          · simp only [Act.put, List.setIfInBounds_toArray, List.set_cons_zero, List.set_cons_succ, i64_w, i32_w]
                                                            rfl
                                                          refine take_ (i := 14) (N := some 88) (v := ?_) (a' := ?_) #[true, true, true, true, true, true, true, false, true, true, true, true, true, true, true, false, false, false, false, false, false, false, false, false, false, false, false] rfl rfl (take_ofW HT_.out HW_.out (by kernel_rfl)) (fun _ _ _ h => h) (Or.inl ⟨by rfl, ?_⟩) hHeld ?_ ?_
                                                          rotate_left
                                                          · rintro w' ⟨s0, s1, s2, s3, s4, s5, s6, s7, s8, s9, s10, s11, s12, s13, s14, s15⟩
                                                            go_simp
                                                            with_reducible rfl
                                                          rotate_left
                                                          · simp only [Act.put, List.setIfInBounds_toArray, List.set_cons_zero, List.set_cons_succ, i64_w, i32_w]
                                                            rfl
                                                          refine one_ (i := 7) (N := some 81) #[true, true, true, true, true, true, true, true, true, true, true, true, true, true, true, false, false, false, false, false, false, false, false, false, false, false, false] rfl rfl (one_of HT_.out (by kernel_rfl)) (by decide) (fun K hK => ?_)
                                                          refine goes_ Try.func22 (by kernel_rfl) rfl #[.agg #[.int .i64 ((rd_T35 l0 (rd t223 x8_3)).f0), .int .i64 ((rd_T35 l0 (rd t223 x8_3)).f1), .int .i64 ((rd_T35 l0 (rd t223 x8_3)).f2), .slice A233_3 ((rd_T35 l0 (rd t223 x8_3)).f3).length c233_3, .int .i64 ((rd_T35 l0 (rd t223 x8_3)).f4), .int .i64 ((rd_T35 l0 (rd t223 x8_3)).f5), .slice A233_6 ((rd_T35 l0 (rd t223 x8_3)).f6).length c233_6]] (by rfl) rfl rfl (by (try simp only [List.map_toArray, List.map_cons, List.map_nil]); first | done | rfl | (simp only [List.length_drop, List.length_take]; rfl)) ?_
                                                          with_reducible refine (limelightlaw05_value.calls k5 ((rd_T35 l0 (rd t223 x8_3)).f0) ((rd_T35 l0 (rd t223 x8_3)).f1) ((rd_T35 l0 (rd t223 x8_3)).f2) _ _ ((rd_T35 l0 (rd t223 x8_3)).f3) ((rd_T35 l0 (rd t223 x8_3)).f4) ((rd_T35 l0 (rd t223 x8_3)).f5) _ _ ((rd_T35 l0 (rd t223 x8_3)).f6) t234 _ ?side1 ?side2 ?side3 ?side4 A33.out).mono ?_
                                                          (case side1 => repeat (first | exact (Kd.C_below HR233_3.out HB.out) | (with_reducible refine Kd.C_alloc ?_ _) | (with_reducible refine Kd.C_drewN ?_ _) | (with_reducible refine Kd.C_drew ?_)))
                                                          (case side2 => exact HC233_3.out)
                                                          (case side3 => repeat (first | exact (Kd.C_below HR233_6.out HB.out) | (with_reducible refine Kd.C_alloc ?_ _) | (with_reducible refine Kd.C_drewN ?_ _) | (with_reducible refine Kd.C_drew ?_)))
                                                          (case side4 => exact HC233_6.out)
                                                          rintro e w50 ⟨rfl, hb⟩
                                                          have HS0_ := (hb.cell (World.block_lt_of_cell? _ _ (hHeld.1))).trans (hHeld.1)
                                                          have HS8_ := (hb.cell (World.block_lt_of_cell? _ _ (hHeld.2.2.2.2.2.2.2.2.1))).trans (hHeld.2.2.2.2.2.2.2.2.1)
                                                          refine ⟨_, rfl, ?_⟩
                                                          have n0_ := Aside0.mk (Kd.R_below (by (with_reducible repeat (first | apply Kd.R_alloc | apply Kd.R_drewN | apply Kd.R_drew)); exact HO_5.out) hb)
                                                          have n1_ := Aside0.mk (below_step (by repeat (first | (with_reducible first | exact HB.out | apply below_alloc | apply pw_below_drewN | apply below_drew1) | exact HB.out)) hb)
                                                          clear HO_5
                                                          clear HB
                                                          have HO_5 := n0_
                                                          have HB := n1_
                                                          clear n0_ n1_
                                                          (try clear hb)
                                                          (try clear hb2)
                                                          (try clear hk)
                                                          (try clear hi)
                                                          refine hK.out _ _ ⟨HS0_, ((HB.out.cell (World.block_lt_of_cell? w _ hw233_0)).trans hw233_0), ((HB.out.cell (World.block_lt_of_cell? w _ hw233_1)).trans hw233_1), ((HB.out.cell (World.block_lt_of_cell? w _ hw233_2)).trans hw233_2), ((HB.out.cell (World.block_lt_of_cell? w _ hw233_3)).trans hw233_3), ((HB.out.cell (World.block_lt_of_cell? w _ hw233_4)).trans hw233_4), ((HB.out.cell (World.block_lt_of_cell? w _ hw233_5)).trans hw233_5), ((HB.out.cell (World.block_lt_of_cell? w _ hw233_6)).trans hw233_6), HS8_, ((HB.out.cell (World.block_lt_of_cell? w _ hw236_0)).trans hw236_0), ((HB.out.cell (World.block_lt_of_cell? w _ hw236_1)).trans hw236_1), ((HB.out.cell (World.block_lt_of_cell? w _ hw236_2)).trans hw236_2), ((HB.out.cell (World.block_lt_of_cell? w _ hw236_3)).trans hw236_3), ((HB.out.cell (World.block_lt_of_cell? w _ hw236_4)).trans hw236_4), ((HB.out.cell (World.block_lt_of_cell? w _ hw236_5)).trans hw236_5), ((HB.out.cell (World.block_lt_of_cell? w _ hw236_6)).trans hw236_6)⟩ (fun hHeld => ?_)
                                                          clear hK K
                                                          refine norm_ (a' := ?_) ?_ ?_
                                                          rotate_left
                                                          · show Act.put _ (some 81) _ = _
                                                            simp only [Act.put, List.setIfInBounds_toArray, List.set_cons_zero, List.set_cons_succ, i64_w, i32_w]
                                                            rfl
                                                          refine one_ (i := 15) (N := some 89) #[true, true, true, true, true, true, true, true, true, true, true, true, true, true, true, true, false, false, false, false, false, false, false, false, false, false, false] rfl rfl (one_of HT_.out (by kernel_rfl)) (by decide) (fun K hK => ?_)
                                                          refine goes_ Try.func22 (by kernel_rfl) rfl #[.agg #[.int .i64 ((rd_T35 l0 (rd t223 x9_5)).f0), .int .i64 ((rd_T35 l0 (rd t223 x9_5)).f1), .int .i64 ((rd_T35 l0 (rd t223 x9_5)).f2), .slice A236_3 ((rd_T35 l0 (rd t223 x9_5)).f3).length c236_3, .int .i64 ((rd_T35 l0 (rd t223 x9_5)).f4), .int .i64 ((rd_T35 l0 (rd t223 x9_5)).f5), .slice A236_6 ((rd_T35 l0 (rd t223 x9_5)).f6).length c236_6]] (by rfl) rfl rfl (by (try simp only [List.map_toArray, List.map_cons, List.map_nil]); first | done | rfl | (simp only [List.length_drop, List.length_take]; rfl)) ?_
                                                          with_reducible refine (limelightlaw05_value.calls k5 ((rd_T35 l0 (rd t223 x9_5)).f0) ((rd_T35 l0 (rd t223 x9_5)).f1) ((rd_T35 l0 (rd t223 x9_5)).f2) _ _ ((rd_T35 l0 (rd t223 x9_5)).f3) ((rd_T35 l0 (rd t223 x9_5)).f4) ((rd_T35 l0 (rd t223 x9_5)).f5) _ _ ((rd_T35 l0 (rd t223 x9_5)).f6) t237 _ ?side1 ?side2 ?side3 ?side4 A38.out).mono ?_
                                                          (case side1 => repeat (first | exact (Kd.C_below HR236_3.out HB.out) | (with_reducible refine Kd.C_alloc ?_ _) | (with_reducible refine Kd.C_drewN ?_ _) | (with_reducible refine Kd.C_drew ?_)))
                                                          (case side2 => exact HC236_3.out)
                                                          (case side3 => repeat (first | exact (Kd.C_below HR236_6.out HB.out) | (with_reducible refine Kd.C_alloc ?_ _) | (with_reducible refine Kd.C_drewN ?_ _) | (with_reducible refine Kd.C_drew ?_)))
                                                          (case side4 => exact HC236_6.out)
                                                          rintro e w51 ⟨rfl, hb⟩
                                                          have HS0_ := (hb.cell (World.block_lt_of_cell? _ _ (hHeld.1))).trans (hHeld.1)
                                                          have HS8_ := (hb.cell (World.block_lt_of_cell? _ _ (hHeld.2.2.2.2.2.2.2.2.1))).trans (hHeld.2.2.2.2.2.2.2.2.1)
                                                          refine ⟨_, rfl, ?_⟩
                                                          have n0_ := Aside0.mk (Kd.R_below (by (with_reducible repeat (first | apply Kd.R_alloc | apply Kd.R_drewN | apply Kd.R_drew)); exact HO_5.out) hb)
                                                          have n1_ := Aside0.mk (below_step (by repeat (first | (with_reducible first | exact HB.out | apply below_alloc | apply pw_below_drewN | apply below_drew1) | exact HB.out)) hb)
                                                          clear HO_5
                                                          clear HB
                                                          have HO_5 := n0_
                                                          have HB := n1_
                                                          clear n0_ n1_
                                                          (try clear hb)
                                                          (try clear hb2)
                                                          (try clear hk)
                                                          (try clear hi)
                                                          refine hK.out _ _ ⟨HS0_, ((HB.out.cell (World.block_lt_of_cell? w _ hw233_0)).trans hw233_0), ((HB.out.cell (World.block_lt_of_cell? w _ hw233_1)).trans hw233_1), ((HB.out.cell (World.block_lt_of_cell? w _ hw233_2)).trans hw233_2), ((HB.out.cell (World.block_lt_of_cell? w _ hw233_3)).trans hw233_3), ((HB.out.cell (World.block_lt_of_cell? w _ hw233_4)).trans hw233_4), ((HB.out.cell (World.block_lt_of_cell? w _ hw233_5)).trans hw233_5), ((HB.out.cell (World.block_lt_of_cell? w _ hw233_6)).trans hw233_6), HS8_, ((HB.out.cell (World.block_lt_of_cell? w _ hw236_0)).trans hw236_0), ((HB.out.cell (World.block_lt_of_cell? w _ hw236_1)).trans hw236_1), ((HB.out.cell (World.block_lt_of_cell? w _ hw236_2)).trans hw236_2), ((HB.out.cell (World.block_lt_of_cell? w _ hw236_3)).trans hw236_3), ((HB.out.cell (World.block_lt_of_cell? w _ hw236_4)).trans hw236_4), ((HB.out.cell (World.block_lt_of_cell? w _ hw236_5)).trans hw236_5), ((HB.out.cell (World.block_lt_of_cell? w _ hw236_6)).trans hw236_6)⟩ (fun hHeld => ?_)
                                                          clear hK K
                                                          refine norm_ (a' := ?_) ?_ ?_
                                                          rotate_left
                                                          · show Act.put _ (some 89) _ = _
                                                            simp only [Act.put, List.setIfInBounds_toArray, List.set_cons_zero, List.set_cons_succ, i64_w, i32_w]
                                                            rfl
                                                          refine pure_ (i := 16) (N := some 90) (v := ?_) (a' := ?_) #[true, true, true, true, true, true, true, true, true, true, true, true, true, true, true, true, true, false, false, false, false, false, false, false, false, false, false] rfl rfl (any_of HT_.out (by kernel_rfl)) (fun _ _ _ h => h) (Or.inl ⟨by rfl, ?_⟩) ?_ ?_
                                                          rotate_left
                                                          · intro w'
                                                            go_simp
                                                            with_reducible rfl
                                                          rotate_left
                                                          · simp only [Act.put, List.setIfInBounds_toArray, List.set_cons_zero, List.set_cons_succ, i64_w, i32_w]
                                                            rfl
                                                          refine pure_ (i := 17) (N := some 91) (v := ?_) (a' := ?_) #[true, true, true, true, true, true, true, true, true, true, true, true, true, true, true, true, true, true, false, false, false, false, false, false, false, false, false] rfl rfl (any_of HT_.out (by kernel_rfl)) (fun _ _ _ h => h) (Or.inl ⟨by rfl, ?_⟩) ?_ ?_
                                                          rotate_left
                                                          · intro w'
                                                            go_simp
                                                            with_reducible rfl
                                                          rotate_left
                                                          · simp only [Act.put, List.setIfInBounds_toArray, List.set_cons_zero, List.set_cons_succ, i64_w, i32_w]
                                                            rfl
                                                          refine pure_ (i := 18) (N := some 92) (v := undef) (a' := ?_) #[true, true, true, true, true, true, true, true, true, true, true, true, true, true, true, true, true, true, true, false, false, false, false, false, false, false, false] rfl rfl (any_of HT_.out (by kernel_rfl)) (fun _ _ _ h => h) (Or.inr ⟨by rfl, rfl⟩) ?_ ?_
                                                          rotate_left
                                                          · simp only [Act.put, List.setIfInBounds_toArray, List.set_cons_zero, List.set_cons_succ, i64_w, i32_w]
                                                            rfl
                                                          refine pure_ (i := 19) (N := some 93) (v := undef) (a' := ?_) #[true, true, true, true, true, true, true, true, true, true, true, true, true, true, true, true, true, true, true, true, false, false, false, false, false, false, false] rfl rfl (any_of HT_.out (by kernel_rfl)) (fun _ _ _ h => h) (Or.inr ⟨by rfl, rfl⟩) ?_ ?_
                                                          rotate_left
                                                          · simp only [Act.put, List.setIfInBounds_toArray, List.set_cons_zero, List.set_cons_succ, i64_w, i32_w]
                                                            rfl
                                                          refine pure_ (i := 20) (N := some 94) (v := undef) (a' := ?_) #[true, true, true, true, true, true, true, true, true, true, true, true, true, true, true, true, true, true, true, true, true, false, false, false, false, false, false] rfl rfl (any_of HT_.out (by kernel_rfl)) (fun _ _ _ h => h) (Or.inr ⟨by rfl, rfl⟩) ?_ ?_
                                                          rotate_left
                                                          · simp only [Act.put, List.setIfInBounds_toArray, List.set_cons_zero, List.set_cons_succ, i64_w, i32_w]
                                                            rfl
                                                          refine pure_ (i := 21) (N := some 95) (v := undef) (a' := ?_) #[true, true, true, true, true, true, true, true, true, true, true, true, true, true, true, true, true, true, true, true, true, true, false, false, false, false, false] rfl rfl (any_of HT_.out (by kernel_rfl)) (fun _ _ _ h => h) (Or.inr ⟨by rfl, rfl⟩) ?_ ?_
                                                          rotate_left
                                                          · simp only [Act.put, List.setIfInBounds_toArray, List.set_cons_zero, List.set_cons_succ, i64_w, i32_w]
                                                            rfl
                                                          refine pure_ (i := 22) (N := some 96) (v := undef) (a' := ?_) #[true, true, true, true, true, true, true, true, true, true, true, true, true, true, true, true, true, true, true, true, true, true, true, false, false, false, false] rfl rfl (any_of HT_.out (by kernel_rfl)) (fun _ _ _ h => h) (Or.inr ⟨by rfl, rfl⟩) ?_ ?_
                                                          rotate_left
                                                          · simp only [Act.put, List.setIfInBounds_toArray, List.set_cons_zero, List.set_cons_succ, i64_w, i32_w]
                                                            rfl
                                                          refine pure_ (i := 23) (N := some 97) (v := undef) (a' := ?_) #[true, true, true, true, true, true, true, true, true, true, true, true, true, true, true, true, true, true, true, true, true, true, true, true, false, false, false] rfl rfl (any_of HT_.out (by kernel_rfl)) (fun _ _ _ h => h) (Or.inr ⟨by rfl, rfl⟩) ?_ ?_
                                                          rotate_left
                                                          · simp only [Act.put, List.setIfInBounds_toArray, List.set_cons_zero, List.set_cons_succ, i64_w, i32_w]
                                                            rfl
                                                          refine pure_ (i := 24) (N := some 98) (v := undef) (a' := ?_) #[true, true, true, true, true, true, true, true, true, true, true, true, true, true, true, true, true, true, true, true, true, true, true, true, true, false, false] rfl rfl (any_of HT_.out (by kernel_rfl)) (fun _ _ _ h => h) (Or.inr ⟨by rfl, rfl⟩) ?_ ?_
                                                          rotate_left
                                                          · simp only [Act.put, List.setIfInBounds_toArray, List.set_cons_zero, List.set_cons_succ, i64_w, i32_w]
                                                            rfl
                                                          refine pure_ (i := 25) (N := some 99) (v := undef) (a' := ?_) #[true, true, true, true, true, true, true, true, true, true, true, true, true, true, true, true, true, true, true, true, true, true, true, true, true, true, false] rfl rfl (any_of HT_.out (by kernel_rfl)) (fun _ _ _ h => h) (Or.inr ⟨by rfl, rfl⟩) ?_ ?_
                                                          rotate_left
                                                          · simp only [Act.put, List.setIfInBounds_toArray, List.set_cons_zero, List.set_cons_succ, i64_w, i32_w]
                                                            rfl
                                                          refine pure_ (i := 26) (N := some 100) (v := ?_) (a' := ?_) #[true, true, true, true, true, true, true, true, true, true, true, true, true, true, true, true, true, true, true, true, true, true, true, true, true, true, true] rfl rfl (any_of HT_.out (by kernel_rfl)) (fun _ _ _ h => h) (Or.inl ⟨by rfl, ?_⟩) ?_ ?_
                                                          rotate_left
                                                          · intro w'
                                                            go_simp
                                                            with_reducible rfl
                                                          rotate_left
                                                          · simp only [Act.put, List.setIfInBounds_toArray, List.set_cons_zero, List.set_cons_succ, i64_w, i32_w]
                                                            rfl
                                                          refine done_ (done_of HT_.out (by kernel_rfl)) ?_
                                                          try go_wp2
                                                          go_roundg k5
                                                          case measure => have := HJ2.out; have := HK2.out; have := HK3.out; have := HJ22.out; have := HK5.out; omega
                                                          case rel => exact ⟨(wrap64 (x9_5 + 1)), (by first | rfl | (simp; done) | (simp [*]; done)), H', ⟨by have := HJ2.out; have := HK2.out; have := HK3.out; have := HJ22.out; have := HK5.out; omega⟩, ⟨by (with_reducible repeat (first | apply Kd.R_alloc | apply Kd.R_drewN | apply Kd.R_drew)); exact HO_5.out⟩, ⟨by repeat (first | (with_reducible first | exact HB.out | apply below_alloc | apply pw_below_drewN | apply below_drew1) | exact HB.out)⟩⟩
                                                      · rw [if_neg c37] at H
                                                        exact absurd H (by simp)
                                                    · rw [if_neg c36] at H
                                                      exact absurd H (by simp)
                                                  · rw [if_neg c35] at H
                                                    exact absurd H (by simp)
                                                · rw [if_neg c34] at H
                                                  exact absurd H (by simp)
                                              · rw [if_neg c32] at H
                                                exact absurd H (by simp)
                                            · rw [if_neg c31] at H
                                              exact absurd H (by simp)
                                          · rw [if_neg c30] at H
                                            exact absurd H (by simp)
                                        · rw [if_neg c29] at H
                                          exact absurd H (by simp)
                                      · rw [if_neg c28] at H
                                        have c28b0 : decide (x9_5 < x8_3) = false := decide_eq_false c28
                                        clear c28
                                        have H' := Aside0.mk H
                                        clear H
                                        go_wp2
                                        go_roundg k5
                                        case measure => have := HJ2.out; have := HK2.out; have := HK3.out; have := HJ22.out; have := HK5.out; omega
                                        case rel => exact ⟨(wrap64 (x8_3 + 1)), (by first | rfl | (simp; done) | (simp [*]; done)), H', ⟨by have := HJ2.out; have := HK2.out; have := HK3.out; have := HJ22.out; have := HK5.out; omega⟩, ⟨by (with_reducible repeat (first | apply Kd.R_alloc | apply Kd.R_drewN | apply Kd.R_drew)); exact HO_5.out⟩, ⟨by repeat (first | (with_reducible first | exact HB.out | apply below_alloc | apply pw_below_drewN | apply below_drew1) | exact HB.out)⟩⟩
                                · replace c27 := Bool.eq_false_iff.mpr c27
                                  subst c27
                                  have H1 : ((limelightlaw05_live.f).bind fun t231 => (some t231)) = some r := by rw [if_neg (show ¬ (false = true) by decide)] at H; exact H
                                  clear H
                                  have H := H1
                                  clear H1
                                  replace H := Option.bind_eq_some_iff.mp H
                                  obtain ⟨t231, A520, H⟩ := H
                                  replace H : (some t231) = some r := H
                                  have A52 := Aside0.mk A520
                                  clear A520
                                  obtain rfl := Option.some.inj H
                                  go_wp2_with (first | ((with_reducible refine gate_callee (f := 10) rfl ?_); refine goesL_ (some 101) rfl rfl Try.func10 (by kernel_rfl) rfl #[] rfl (by (try simp only [List.map_toArray, List.map_cons, List.map_nil]); first | done | rfl | (simp only [List.length_drop, List.length_take]; rfl)) ?_; (with_reducible refine (limelightlaw05_live.calls  t231 _ A52.out).mono ?_); rintro e w53 ⟨rfl, hb⟩; refine ⟨_, rfl, ?_⟩; have n0_ := Aside0.mk (Kd.R_below (by (with_reducible repeat (first | apply Kd.R_alloc | apply Kd.R_drewN | apply Kd.R_drew)); exact HO_5.out) hb); have n1_ := Aside0.mk (below_step (by repeat (first | (with_reducible first | exact HB.out | apply below_alloc | apply pw_below_drewN | apply below_drew1) | exact HB.out)) hb); clear HO_5; clear HB; have HO_5 := n0_; have HB := n1_; clear n0_ n1_; (try clear hb); (try clear hb2); (try clear hk); (try clear hi)))
                                  go_ret
                                  exact ⟨by first | rfl | (simp [errW_none, errW_some] <;> rfl) | (simp [*, errW_none, errW_some] <;> rfl), by repeat (first | (with_reducible first | exact HB.out | apply below_alloc | apply pw_below_drewN | apply below_drew1) | exact HB.out)⟩
                    · rw [if_neg c19] at H
                      exact absurd H (by simp)
                  · rw [if_neg c18] at H
                    exact absurd H (by simp)
            · rw [if_neg c16] at H
              have c16b0 : (((rd_T35 l0 a1).f0) == 3) = false := beq_eq_false_iff_ne.mpr c16
              have c16b1 : (((rd_T35 l0 a1).f0) != 3) = true := bne_iff_ne.mpr c16
              by_cases c54 : (t223.length : Int) = 0
              · rw [if_pos c54] at H
                have c54b0 : ((t223.length : Int) == 0) = true := beq_iff_eq.mpr c54
                have c54b1 : ((t223.length : Int) != 0) = false := bne_eq_false_iff_eq.mpr c54
                clear c54
                replace H := Option.bind_eq_some_iff.mp H
                obtain ⟨t227, A550, H⟩ := H
                replace H : (some t227) = some r := H
                have A55 := Aside0.mk A550
                clear A550
                obtain rfl := Option.some.inj H
                go_wp2_with (first | ((with_reducible refine gate_callee (f := 14) rfl ?_); refine goesL_ (some 23) rfl rfl Try.func14 (by kernel_rfl) rfl #[.slice A0 l0.length c0, .int .i64 a1] rfl (by (try simp only [List.map_toArray, List.map_cons, List.map_nil]); first | done | rfl | (simp only [List.length_drop, List.length_take]; rfl)) ?_; (with_reducible refine (slots_All.calls _ _ l0 a1 t223 _ ?side1 ?side2 A13.out).mono ?_); (case side1 => repeat (first | exact (Kd.C_below HR0.out HB.out) | (with_reducible refine Kd.C_alloc ?_ _) | (with_reducible refine Kd.C_drewN ?_ _) | (with_reducible refine Kd.C_drew ?_))); (case side2 => exact HC0.out); rintro e w56 ⟨v224, rfl, ho0, hb⟩; refine ⟨_, rfl, ?_⟩; have n0_ := Aside0.mk (Kd.R_lower ho0 (below_size (by repeat (first | (with_reducible first | exact HB.out | apply below_alloc | apply pw_below_drewN | apply below_drew1) | exact HB.out)))); have n1_ := Aside0.mk (below_step (by repeat (first | (with_reducible first | exact HB.out | apply below_alloc | apply pw_below_drewN | apply below_drew1) | exact HB.out)) hb); clear HB; have HO225 := n0_; have HB := n1_; clear n0_ n1_; (try clear hb); (try clear hb2); (try clear hk); (try clear hi); (try clear ho0); have p226 : 0 ≤ (a1 : Int) := of_decide_eq_true (by first | (with_reducible assumption) | assumption); have q226 : a1 < (l0.length : Int) := of_decide_eq_true (by first | (with_reducible assumption) | assumption); obtain ⟨ad226, A226_3, c226_3, A226_6, c226_6, e226, hx226_0, hx226_1, hx226_2, hx226_3, hx226_4, hx226_5, hx226_6, hl226_3, hi226_3, hl226_6, hi226_6⟩ := at_T35 HR0.out a1 p226 q226; cases e226; replace hx226_0 := (HB.out.cell (World.block_lt_of_cell? w _ hx226_0)).trans hx226_0; replace hx226_1 := (HB.out.cell (World.block_lt_of_cell? w _ hx226_1)).trans hx226_1; replace hx226_2 := (HB.out.cell (World.block_lt_of_cell? w _ hx226_2)).trans hx226_2; replace hx226_3 := (HB.out.cell (World.block_lt_of_cell? w _ hx226_3)).trans hx226_3; replace hx226_4 := (HB.out.cell (World.block_lt_of_cell? w _ hx226_4)).trans hx226_4; replace hx226_5 := (HB.out.cell (World.block_lt_of_cell? w _ hx226_5)).trans hx226_5; replace hx226_6 := (HB.out.cell (World.block_lt_of_cell? w _ hx226_6)).trans hx226_6; have HR226_3 := Aside0.mk hi226_3; have HC226_3 := Aside0.mk hl226_3; clear hi226_3 hl226_3; have HR226_6 := Aside0.mk hi226_6; have HC226_6 := Aside0.mk hl226_6; clear hi226_6 hl226_6; replace p226 := eq_true p226; replace q226 := eq_true q226; obtain ⟨Ao57, co57, eo57⟩ := Kd.R_slice HO225.out; subst eo57) | (go_at_call 10; (with_reducible refine (limelightlaw05_live.calls  t227 _ A55.out).mono ?_); rintro e w58 ⟨rfl, hb⟩; have n0_ := Aside0.mk (Kd.R_below (by (with_reducible repeat (first | apply Kd.R_alloc | apply Kd.R_drewN | apply Kd.R_drew)); exact HO225.out) hb); have n1_ := Aside0.mk (below_step (by repeat (first | (with_reducible first | exact HB.out | apply below_alloc | apply pw_below_drewN | apply below_drew1) | exact HB.out)) hb); clear HO225; clear HB; have HO225 := n0_; have HB := n1_; clear n0_ n1_; (try clear hb); (try clear hb2); (try clear hk); (try clear hi)))
                go_ret
                exact ⟨by first | rfl | (simp [errW_none, errW_some] <;> rfl) | (simp [*, errW_none, errW_some] <;> rfl), by repeat (first | (with_reducible first | exact HB.out | apply below_alloc | apply pw_below_drewN | apply below_drew1) | exact HB.out)⟩
              · rw [if_neg c54] at H
                exact absurd H (by simp)
          · rw [if_neg c15] at H
            exact absurd H (by simp)
        · rw [if_neg c14] at H
          exact absurd H (by simp)

end Go.Proofs.Ytcmcjfiaemchoaa.P
