-- printed by wip/tools/pp.sh (a patched copy of the print's program), for this claim.
import Derived.Test.YtbbmdpmpbggmgaaPx0
import Derived.Test.YtbbmdpmpbggmgaaPx2
import Derived.Test.YtbbmdpmpbggmgaaME
import Derived.Test.YtbbmdpmpbggmgaaMH
namespace Go.Proofs.Ytbbmdpmpbggmgaa.P
open Go.RowKit Go.Proofs.YtbbmdpmpbggmgaaW.PrintWords Go.Proofs.YtbbmdpmpbggmgaaW.PrintLast Go.Proofs.YtbbmdpmpbggmgaaW.PrintMore
attribute [local go_sem] max2_int min2_int max_two min_two max_three min_three max_four min_four   -- for this text's walks alone
set_option linter.unusedVariables false
set_option linter.unusedSimpArgs false

/-! ### limelightlaw15_ChainSides: function 4 -/
mutual
def limelightlaw15_ChainSides.j0 : Nat → List (S40) → Int → Int → Bool → Option (Bool)
  | 0, _, _, _, _ => none
  | k + 1, x0, x1, x2, x22 => if x22 = true then ((limelightlaw15_live.f k).bind fun t266 => (some t266)) else ((chain_Events.f x0 x1 x2).bind fun t267 => (if x1 = x2 then (limelightlaw15_ChainSides.j1 k x1 x2 t267 0) else (if x1 = 0 then (limelightlaw15_ChainSides.j1 k x1 x2 t267 2) else (if x2 = 0 then (limelightlaw15_ChainSides.j1 k x1 x2 t267 2) else (limelightlaw15_ChainSides.j1 k x1 x2 t267 4)))))
def limelightlaw15_ChainSides.j1 : Nat → Int → Int → List (S37) → Int → Option (Bool)
  | 0, _, _, _, _ => none
  | k + 1, x1, x2, x7, x8 => limelightlaw15_ChainSides.l0 k x1 x2 x7 x8 false 0
def limelightlaw15_ChainSides.l0 : Nat → Int → Int → List (S37) → Int → Bool → Int → Option (Bool)
  | 0, _, _, _, _, _, _ => none
  | k + 1, x1, x2, x7, x8, x9, x10 => if x10 < (x7.length : Int) then (if 0 ≤ x10 then (if ((rd_T37 x7 x10).f0) = 0 then (limelightlaw15_ChainSides.j3 k x1 x2 x7 x8 x9 x10 true ((rd_T37 x7 x10).f0) ((rd_T37 x7 x10).f1) ((rd_T37 x7 x10).f2) ((rd_T37 x7 x10).f3) ((rd_T37 x7 x10).f4) ((rd_T37 x7 x10).f5)) else (limelightlaw15_ChainSides.j3 k x1 x2 x7 x8 x9 x10 (((rd_T37 x7 x10).f0) == 2) ((rd_T37 x7 x10).f0) ((rd_T37 x7 x10).f1) ((rd_T37 x7 x10).f2) ((rd_T37 x7 x10).f3) ((rd_T37 x7 x10).f4) ((rd_T37 x7 x10).f5))) else (none)) else (if (x7.length : Int) = x8 then ((limelightlaw15_live.f k).bind fun t270 => (some t270)) else (none))
def limelightlaw15_ChainSides.j3 : Nat → Int → Int → List (S37) → Int → Bool → Int → Bool → Int → Int → Int → Bool → Bool → Bool → Option (Bool)
  | 0, _, _, _, _, _, _, _, _, _, _, _, _, _ => none
  | k + 1, x1, x2, x7, x8, x9, x10, x12, x273000, x273001, x273002, x273003, x273004, x273005 => if x9 = true then (limelightlaw15_ChainSides.j4 k x1 x2 x7 x8 x9 x10 x12 (!x12) x273000 x273001 x273002 x273003 x273004 x273005) else (limelightlaw15_ChainSides.j4 k x1 x2 x7 x8 x9 x10 x12 false x273000 x273001 x273002 x273003 x273004 x273005)
def limelightlaw15_ChainSides.j4 : Nat → Int → Int → List (S37) → Int → Bool → Int → Bool → Bool → Int → Int → Int → Bool → Bool → Bool → Option (Bool)
  | 0, _, _, _, _, _, _, _, _, _, _, _, _, _, _ => none
  | k + 1, x1, x2, x7, x8, x9, x10, x12, x59, x273000, x273001, x273002, x273003, x273004, x273005 => if x59 = true then (none) else (if x9 = true then (if x273001 = 0 then (none) else (if x273002 = 0 then (none) else (if x273004 = true then (none) else (if x273005 = true then (if x12 = true then (if x273001 = x2 then (limelightlaw15_ChainSides.l0 k x1 x2 x7 x8 true (wrap64 (x10 + 1))) else (none)) else (if x273001 = x1 then (limelightlaw15_ChainSides.l0 k x1 x2 x7 x8 true (wrap64 (x10 + 1))) else (none))) else (none))))) else (if x273001 = 0 then (none) else (if x273002 = 0 then (none) else (if x273004 = true then (none) else (if x273005 = true then (if x12 = true then (if x273001 = x2 then (limelightlaw15_ChainSides.l0 k x1 x2 x7 x8 x12 (wrap64 (x10 + 1))) else (none)) else (if x273001 = x1 then (limelightlaw15_ChainSides.l0 k x1 x2 x7 x8 x12 (wrap64 (x10 + 1))) else (none))) else (none))))))
end
def limelightlaw15_ChainSides.f (k : Nat) (l0 : List (S40)) (a1 : Int) (a2 : Int) : Option (Bool) := (limelightref01_Small.f l0).bind fun t264 => (if t264 = true then ((limelightref03_Both.f l0 a1 a2).bind fun t265 => (limelightlaw15_ChainSides.j0 k l0 a1 a2 (!t265))) else (limelightlaw15_ChainSides.j0 k l0 a1 a2 true))
theorem limelightlaw15_ChainSides.mono_l : ∀ k, (∀ y0 y1 y2 y3, LeO (limelightlaw15_ChainSides.j0 k y0 y1 y2 y3) (limelightlaw15_ChainSides.j0 (k + 1) y0 y1 y2 y3)) ∧ (∀ y0 y1 y2 y3, LeO (limelightlaw15_ChainSides.j1 k y0 y1 y2 y3) (limelightlaw15_ChainSides.j1 (k + 1) y0 y1 y2 y3)) ∧ (∀ y0 y1 y2 y3 y4 y5, LeO (limelightlaw15_ChainSides.l0 k y0 y1 y2 y3 y4 y5) (limelightlaw15_ChainSides.l0 (k + 1) y0 y1 y2 y3 y4 y5)) ∧ (∀ y0 y1 y2 y3 y4 y5 y6 y7 y8 y9 y10 y11 y12, LeO (limelightlaw15_ChainSides.j3 k y0 y1 y2 y3 y4 y5 y6 y7 y8 y9 y10 y11 y12) (limelightlaw15_ChainSides.j3 (k + 1) y0 y1 y2 y3 y4 y5 y6 y7 y8 y9 y10 y11 y12)) ∧ (∀ y0 y1 y2 y3 y4 y5 y6 y7 y8 y9 y10 y11 y12 y13, LeO (limelightlaw15_ChainSides.j4 k y0 y1 y2 y3 y4 y5 y6 y7 y8 y9 y10 y11 y12 y13) (limelightlaw15_ChainSides.j4 (k + 1) y0 y1 y2 y3 y4 y5 y6 y7 y8 y9 y10 y11 y12 y13))
  | 0 => ⟨fun _ _ _ _ r h => by simp [limelightlaw15_ChainSides.j0] at h, fun _ _ _ _ r h => by simp [limelightlaw15_ChainSides.j1] at h, fun _ _ _ _ _ _ r h => by simp [limelightlaw15_ChainSides.l0] at h, fun _ _ _ _ _ _ _ _ _ _ _ _ _ r h => by simp [limelightlaw15_ChainSides.j3] at h, fun _ _ _ _ _ _ _ _ _ _ _ _ _ _ r h => by simp [limelightlaw15_ChainSides.j4] at h⟩
  | k + 1 => by
    obtain ⟨ih0, ih1, ih2, ih3, ih4⟩ := limelightlaw15_ChainSides.mono_l k
    refine ⟨?_, ?_, ?_, ?_, ?_⟩
    · intro y0 y1 y2 y3
      unfold limelightlaw15_ChainSides.j0
      repeat' first
      | (with_reducible exact ih0 _ _ _ _)
      | (with_reducible exact ih1 _ _ _ _)
      | (with_reducible exact ih2 _ _ _ _ _ _)
      | (with_reducible exact ih3 _ _ _ _ _ _ _ _ _ _ _ _ _)
      | (with_reducible exact ih4 _ _ _ _ _ _ _ _ _ _ _ _ _ _)
      | (with_reducible exact limelightlaw15_live.mono _)
      | (with_reducible exact LeO.refl _)
      | (with_reducible exact LeO.none _)
      | (with_reducible refine LeO.ite ?_ ?_)
      | (with_reducible refine LeO.bind ?_ (fun _ => ?_))
      | exact ih0 _ _ _ _
      | exact ih1 _ _ _ _
      | exact ih2 _ _ _ _ _ _
      | exact ih3 _ _ _ _ _ _ _ _ _ _ _ _ _
      | exact ih4 _ _ _ _ _ _ _ _ _ _ _ _ _ _
      | exact limelightlaw15_live.mono _
      | exact LeO.none _
      | refine LeO.ite ?_ ?_
      | refine LeO.bind ?_ (fun _ => ?_)
    · intro y0 y1 y2 y3
      unfold limelightlaw15_ChainSides.j1
      repeat' first
      | (with_reducible exact ih0 _ _ _ _)
      | (with_reducible exact ih1 _ _ _ _)
      | (with_reducible exact ih2 _ _ _ _ _ _)
      | (with_reducible exact ih3 _ _ _ _ _ _ _ _ _ _ _ _ _)
      | (with_reducible exact ih4 _ _ _ _ _ _ _ _ _ _ _ _ _ _)
      | (with_reducible exact limelightlaw15_live.mono _)
      | (with_reducible exact LeO.refl _)
      | (with_reducible exact LeO.none _)
      | (with_reducible refine LeO.ite ?_ ?_)
      | (with_reducible refine LeO.bind ?_ (fun _ => ?_))
      | exact ih0 _ _ _ _
      | exact ih1 _ _ _ _
      | exact ih2 _ _ _ _ _ _
      | exact ih3 _ _ _ _ _ _ _ _ _ _ _ _ _
      | exact ih4 _ _ _ _ _ _ _ _ _ _ _ _ _ _
      | exact limelightlaw15_live.mono _
      | exact LeO.none _
      | refine LeO.ite ?_ ?_
      | refine LeO.bind ?_ (fun _ => ?_)
    · intro y0 y1 y2 y3 y4 y5
      unfold limelightlaw15_ChainSides.l0
      repeat' first
      | (with_reducible exact ih0 _ _ _ _)
      | (with_reducible exact ih1 _ _ _ _)
      | (with_reducible exact ih2 _ _ _ _ _ _)
      | (with_reducible exact ih3 _ _ _ _ _ _ _ _ _ _ _ _ _)
      | (with_reducible exact ih4 _ _ _ _ _ _ _ _ _ _ _ _ _ _)
      | (with_reducible exact limelightlaw15_live.mono _)
      | (with_reducible exact LeO.refl _)
      | (with_reducible exact LeO.none _)
      | (with_reducible refine LeO.ite ?_ ?_)
      | (with_reducible refine LeO.bind ?_ (fun _ => ?_))
      | exact ih0 _ _ _ _
      | exact ih1 _ _ _ _
      | exact ih2 _ _ _ _ _ _
      | exact ih3 _ _ _ _ _ _ _ _ _ _ _ _ _
      | exact ih4 _ _ _ _ _ _ _ _ _ _ _ _ _ _
      | exact limelightlaw15_live.mono _
      | exact LeO.none _
      | refine LeO.ite ?_ ?_
      | refine LeO.bind ?_ (fun _ => ?_)
    · intro y0 y1 y2 y3 y4 y5 y6 y7 y8 y9 y10 y11 y12
      unfold limelightlaw15_ChainSides.j3
      repeat' first
      | (with_reducible exact ih0 _ _ _ _)
      | (with_reducible exact ih1 _ _ _ _)
      | (with_reducible exact ih2 _ _ _ _ _ _)
      | (with_reducible exact ih3 _ _ _ _ _ _ _ _ _ _ _ _ _)
      | (with_reducible exact ih4 _ _ _ _ _ _ _ _ _ _ _ _ _ _)
      | (with_reducible exact limelightlaw15_live.mono _)
      | (with_reducible exact LeO.refl _)
      | (with_reducible exact LeO.none _)
      | (with_reducible refine LeO.ite ?_ ?_)
      | (with_reducible refine LeO.bind ?_ (fun _ => ?_))
      | exact ih0 _ _ _ _
      | exact ih1 _ _ _ _
      | exact ih2 _ _ _ _ _ _
      | exact ih3 _ _ _ _ _ _ _ _ _ _ _ _ _
      | exact ih4 _ _ _ _ _ _ _ _ _ _ _ _ _ _
      | exact limelightlaw15_live.mono _
      | exact LeO.none _
      | refine LeO.ite ?_ ?_
      | refine LeO.bind ?_ (fun _ => ?_)
    · intro y0 y1 y2 y3 y4 y5 y6 y7 y8 y9 y10 y11 y12 y13
      unfold limelightlaw15_ChainSides.j4
      repeat' first
      | (with_reducible exact ih0 _ _ _ _)
      | (with_reducible exact ih1 _ _ _ _)
      | (with_reducible exact ih2 _ _ _ _ _ _)
      | (with_reducible exact ih3 _ _ _ _ _ _ _ _ _ _ _ _ _)
      | (with_reducible exact ih4 _ _ _ _ _ _ _ _ _ _ _ _ _ _)
      | (with_reducible exact limelightlaw15_live.mono _)
      | (with_reducible exact LeO.refl _)
      | (with_reducible exact LeO.none _)
      | (with_reducible refine LeO.ite ?_ ?_)
      | (with_reducible refine LeO.bind ?_ (fun _ => ?_))
      | exact ih0 _ _ _ _
      | exact ih1 _ _ _ _
      | exact ih2 _ _ _ _ _ _
      | exact ih3 _ _ _ _ _ _ _ _ _ _ _ _ _
      | exact ih4 _ _ _ _ _ _ _ _ _ _ _ _ _ _
      | exact limelightlaw15_live.mono _
      | exact LeO.none _
      | refine LeO.ite ?_ ?_
      | refine LeO.bind ?_ (fun _ => ?_)
theorem limelightlaw15_ChainSides.mono : ∀ a0 a1 a2 k, LeO (limelightlaw15_ChainSides.f k a0 a1 a2) (limelightlaw15_ChainSides.f (k + 1) a0 a1 a2) := by
  intro a0 a1 a2 k
  obtain ⟨ih0, ih1, ih2, ih3, ih4⟩ := limelightlaw15_ChainSides.mono_l k
  unfold limelightlaw15_ChainSides.f
  repeat' first
      | (with_reducible exact ih0 _ _ _ _)
      | (with_reducible exact ih1 _ _ _ _)
      | (with_reducible exact ih2 _ _ _ _ _ _)
      | (with_reducible exact ih3 _ _ _ _ _ _ _ _ _ _ _ _ _)
      | (with_reducible exact ih4 _ _ _ _ _ _ _ _ _ _ _ _ _ _)
      | (with_reducible exact limelightlaw15_live.mono _)
      | (with_reducible exact LeO.refl _)
      | (with_reducible exact LeO.none _)
      | (with_reducible refine LeO.ite ?_ ?_)
      | (with_reducible refine LeO.bind ?_ (fun _ => ?_))
      | exact ih0 _ _ _ _
      | exact ih1 _ _ _ _
      | exact ih2 _ _ _ _ _ _
      | exact ih3 _ _ _ _ _ _ _ _ _ _ _ _ _
      | exact ih4 _ _ _ _ _ _ _ _ _ _ _ _ _ _
      | exact limelightlaw15_live.mono _
      | exact LeO.none _
      | refine LeO.ite ?_ ?_
      | refine LeO.bind ?_ (fun _ => ?_)
set_option maxHeartbeats 8000000 in
set_option maxRecDepth 100000 in
theorem limelightlaw15_ChainSides.calls (k : Nat) (A0 : Option Addr) (c0 : Nat) (l0 : List (S40)) (a1 : Int) (a2 : Int) (r : Bool) (w : World) (hr0 : Kd.C k40 w A0 l0.length l0) (hc0 : l0.length ≤ c0) (h : limelightlaw15_ChainSides.f k l0 a1 a2 = some r) :
    Calls Try.prog 4 #[.slice A0 l0.length c0, .int .i64 a1, .int .i64 a2] w fun e w' => e = .returned (.bool r) ∧ Below w.heap.size w w' := by
  have hu37 := Try.underlying37
  have HR0 := Aside0.mk hr0
  have HC0 := Aside0.mk hc0
  clear hr0 hc0
  have HB := Aside0.mk (Below.refl w.heap.size w)
  have H : ((limelightref01_Small.f l0).bind fun t264 => (if t264 = true then ((limelightref03_Both.f l0 a1 a2).bind fun t265 => (limelightlaw15_ChainSides.j0 k l0 a1 a2 (!t265))) else (limelightlaw15_ChainSides.j0 k l0 a1 a2 true))) = some r := h
  clear h
  have HC4 := Aside0.mk H
  clear H
  go_enter Try.func4, Try.ntmps4
  go_upto_region 1 with (fail)
  go_cut [22] (fun v22 wc => ∃ (kq : Nat) (x22_3 : Bool), v22 = .bool x22_3 ∧ Aside0 (limelightlaw15_ChainSides.j0 kq l0 a1 a2 x22_3 = some r) ∧ Aside0 (kq ≤ k) ∧ Aside0 (Below w.heap.size w wc))
  case first =>
    have H := HC4.out
    clear HC4
    replace H := Option.bind_eq_some_iff.mp H
    obtain ⟨t264, A50, H⟩ := H
    replace H : (if t264 = true then ((limelightref03_Both.f l0 a1 a2).bind fun t265 => (limelightlaw15_ChainSides.j0 k l0 a1 a2 (!t265))) else (limelightlaw15_ChainSides.j0 k l0 a1 a2 true)) = some r := H
    have A5 := Aside0.mk A50
    clear A50
    by_cases c6 : t264 = true
    · subst c6
      have H1 : ((limelightref03_Both.f l0 a1 a2).bind fun t265 => (limelightlaw15_ChainSides.j0 k l0 a1 a2 (!t265))) = some r := by rw [if_pos rfl] at H; exact H
      clear H
      have H := H1
      clear H1
      replace H := Option.bind_eq_some_iff.mp H
      obtain ⟨t265, A70, H⟩ := H
      replace H : (limelightlaw15_ChainSides.j0 k l0 a1 a2 (!t265)) = some r := H
      have A7 := Aside0.mk A70
      clear A70
      have H' := Aside0.mk H
      clear H
      go_wp2_with (first | ((with_reducible refine gate_callee (f := 8) rfl ?_); refine goesL_ (some 14) rfl rfl Try.func8 (by kernel_rfl) rfl #[.slice A0 l0.length c0] rfl (by (try simp only [List.map_toArray, List.map_cons, List.map_nil]); first | done | rfl | (simp only [List.length_drop, List.length_take]; rfl)) ?_; (with_reducible refine (limelightref01_Small.calls _ _ l0 true _ ?side1 ?side2 A5.out).mono ?_); (case side1 => repeat (first | exact (Kd.C_below HR0.out HB.out) | (with_reducible refine Kd.C_alloc ?_ _) | (with_reducible refine Kd.C_drewN ?_ _) | (with_reducible refine Kd.C_drew ?_))); (case side2 => exact HC0.out); rintro e w8 ⟨rfl, hb⟩; refine ⟨_, rfl, ?_⟩; have n0_ := Aside0.mk (below_step (by repeat (first | (with_reducible first | exact HB.out | apply below_alloc | apply pw_below_drewN | apply below_drew1) | exact HB.out)) hb); clear HB; have HB := n0_; clear n0_; (try clear hb); (try clear hb2); (try clear hk); (try clear hi)) | (go_at_call 11; (with_reducible refine (limelightref03_Both.calls _ _ l0 a1 a2 t265 _ ?side1 ?side2 A7.out).mono ?_); (case side1 => repeat (first | exact (Kd.C_below HR0.out HB.out) | (with_reducible refine Kd.C_alloc ?_ _) | (with_reducible refine Kd.C_drewN ?_ _) | (with_reducible refine Kd.C_drew ?_))); (case side2 => exact HC0.out); rintro e w9 ⟨rfl, hb⟩; have n0_ := Aside0.mk (below_step (by repeat (first | (with_reducible first | exact HB.out | apply below_alloc | apply pw_below_drewN | apply below_drew1) | exact HB.out)) hb); clear HB; have HB := n0_; clear n0_; (try clear hb); (try clear hb2); (try clear hk); (try clear hi)))
      go_meet
      case rel => exact ⟨_, (!t265), (by first | rfl | (simp; done) | (simp [*]; done)), H', ⟨by first | omega | exact Nat.le_refl _⟩, ⟨by repeat (first | (with_reducible first | exact HB.out | apply below_alloc | apply pw_below_drewN | apply below_drew1) | exact HB.out)⟩⟩
    · replace c6 := Bool.eq_false_iff.mpr c6
      subst c6
      have H1 : (limelightlaw15_ChainSides.j0 k l0 a1 a2 true) = some r := by rw [if_neg (show ¬ (false = true) by decide)] at H; exact H
      clear H
      have H := H1
      clear H1
      have H' := Aside0.mk H
      clear H
      go_wp2_with (first | ((with_reducible refine gate_callee (f := 8) rfl ?_); refine goesL_ (some 14) rfl rfl Try.func8 (by kernel_rfl) rfl #[.slice A0 l0.length c0] rfl (by (try simp only [List.map_toArray, List.map_cons, List.map_nil]); first | done | rfl | (simp only [List.length_drop, List.length_take]; rfl)) ?_; (with_reducible refine (limelightref01_Small.calls _ _ l0 false _ ?side1 ?side2 A5.out).mono ?_); (case side1 => repeat (first | exact (Kd.C_below HR0.out HB.out) | (with_reducible refine Kd.C_alloc ?_ _) | (with_reducible refine Kd.C_drewN ?_ _) | (with_reducible refine Kd.C_drew ?_))); (case side2 => exact HC0.out); rintro e w10 ⟨rfl, hb⟩; refine ⟨_, rfl, ?_⟩; have n0_ := Aside0.mk (below_step (by repeat (first | (with_reducible first | exact HB.out | apply below_alloc | apply pw_below_drewN | apply below_drew1) | exact HB.out)) hb); clear HB; have HB := n0_; clear n0_; (try clear hb); (try clear hb2); (try clear hk); (try clear hi)))
      go_meet
      case rel => exact ⟨_, (true), (by first | rfl | (simp; done) | (simp [*]; done)), H', ⟨by first | omega | exact Nat.le_refl _⟩, ⟨by repeat (first | (with_reducible first | exact HB.out | apply below_alloc | apply pw_below_drewN | apply below_drew1) | exact HB.out)⟩⟩
  case rest =>
    clear HC4
    try clear p2
    try clear c4
    try clear c6
    try clear c8
    obtain ⟨kq, x22_3, rfl, HA, HJ3, HB⟩ := hcut
    cases kq with
    | zero => exact absurd HA.out (by simp [limelightlaw15_ChainSides.j0])
    | succ kj3 =>
      have H := HA.out
      clear HA
      simp only [limelightlaw15_ChainSides.j0] at H
      by_cases c11 : x22_3 = true
      · subst c11
        have H1 : ((limelightlaw15_live.f kj3).bind fun t266 => (some t266)) = some r := by rw [if_pos rfl] at H; exact H
        clear H
        have H := H1
        clear H1
        replace H := Option.bind_eq_some_iff.mp H
        obtain ⟨t266, A120, H⟩ := H
        replace H : (some t266) = some r := H
        have A12 := Aside0.mk A120
        clear A120
        obtain rfl := Option.some.inj H
        go_wp2_with (first | ((with_reducible refine gate_callee (f := 9) rfl ?_); refine goesL_ (some 23) rfl rfl Try.func9 (by kernel_rfl) rfl #[] rfl (by (try simp only [List.map_toArray, List.map_cons, List.map_nil]); first | done | rfl | (simp only [List.length_drop, List.length_take]; rfl)) ?_; (with_reducible refine (limelightlaw15_live.calls kj3  t266 _ A12.out).mono ?_); rintro e w13 ⟨rfl, hb⟩; refine ⟨_, rfl, ?_⟩; have n0_ := Aside0.mk (below_step (by repeat (first | (with_reducible first | exact HB.out | apply below_alloc | apply pw_below_drewN | apply below_drew1) | exact HB.out)) hb); clear HB; have HB := n0_; clear n0_; (try clear hb); (try clear hb2); (try clear hk); (try clear hi)))
        go_ret
        exact ⟨by first | rfl | (simp [errW_none, errW_some] <;> rfl) | (simp [*, errW_none, errW_some] <;> rfl), by repeat (first | (with_reducible first | exact HB.out | apply below_alloc | apply pw_below_drewN | apply below_drew1) | exact HB.out)⟩
      · replace c11 := Bool.eq_false_iff.mpr c11
        subst c11
        have H1 : ((chain_Events.f l0 a1 a2).bind fun t267 => (if a1 = a2 then (limelightlaw15_ChainSides.j1 kj3 a1 a2 t267 0) else (if a1 = 0 then (limelightlaw15_ChainSides.j1 kj3 a1 a2 t267 2) else (if a2 = 0 then (limelightlaw15_ChainSides.j1 kj3 a1 a2 t267 2) else (limelightlaw15_ChainSides.j1 kj3 a1 a2 t267 4))))) = some r := by rw [if_neg (show ¬ (false = true) by decide)] at H; exact H
        clear H
        have H := H1
        clear H1
        replace H := Option.bind_eq_some_iff.mp H
        obtain ⟨t267, A140, H⟩ := H
        replace H : (if a1 = a2 then (limelightlaw15_ChainSides.j1 kj3 a1 a2 t267 0) else (if a1 = 0 then (limelightlaw15_ChainSides.j1 kj3 a1 a2 t267 2) else (if a2 = 0 then (limelightlaw15_ChainSides.j1 kj3 a1 a2 t267 2) else (limelightlaw15_ChainSides.j1 kj3 a1 a2 t267 4)))) = some r := H
        have A14 := Aside0.mk A140
        clear A140
        have HC15 := Aside0.mk H
        clear H
        go_upto_if 30 with (first | ((with_reducible refine gate_callee (f := 10) rfl ?_); refine goesL_ (some 27) rfl rfl Try.func10 (by kernel_rfl) rfl #[.slice A0 l0.length c0, .int .i64 a1, .int .i64 a2] rfl (by (try simp only [List.map_toArray, List.map_cons, List.map_nil]); first | done | rfl | (simp only [List.length_drop, List.length_take]; rfl)) ?_; (with_reducible refine (chain_Events.calls _ _ l0 a1 a2 t267 _ ?side1 ?side2 A14.out).mono ?_); (case side1 => repeat (first | exact (Kd.C_below HR0.out HB.out) | (with_reducible refine Kd.C_alloc ?_ _) | (with_reducible refine Kd.C_drewN ?_ _) | (with_reducible refine Kd.C_drew ?_))); (case side2 => exact HC0.out); rintro e w16 ⟨v268, rfl, ho0, hb⟩; refine ⟨_, rfl, ?_⟩; have n0_ := Aside0.mk (Kd.R_lower ho0 (below_size (by repeat (first | (with_reducible first | exact HB.out | apply below_alloc | apply pw_below_drewN | apply below_drew1) | exact HB.out)))); have n1_ := Aside0.mk (below_step (by repeat (first | (with_reducible first | exact HB.out | apply below_alloc | apply pw_below_drewN | apply below_drew1) | exact HB.out)) hb); clear HB; have HO269 := n0_; have HB := n1_; clear n0_ n1_; (try clear hb); (try clear hb2); (try clear hk); (try clear hi); (try clear ho0)))
        (try simp only [Act.put, List.setIfInBounds_toArray, List.set_cons_zero, List.set_cons_succ])
        go_cut [8] (fun v8 wc => ∃ (kq : Nat) (x8_14 : Int), v8 = .int .i64 x8_14 ∧ Aside0 (limelightlaw15_ChainSides.j1 kq a1 a2 t267 x8_14 = some r) ∧ Aside0 (kq ≤ kj3) ∧ Aside0 (Kd.R k37 37 wc w.heap.size (fun _ => True) v268 t267) ∧ Aside0 (Below w.heap.size w wc))
        case first =>
          have H := HC15.out
          clear HC15
          by_cases c17 : a1 = a2
          · rw [if_pos c17] at H
            have c17b0 : (a1 == a2) = true := beq_iff_eq.mpr c17
            have c17b1 : (a1 != a2) = false := bne_eq_false_iff_eq.mpr c17
            clear c17
            (first | rw [c17b0] | (simp only [i64_w, i32_w]; rw [c17b0]) | skip)
            have H' := Aside0.mk H
            clear H
            go_wp2
            go_meet
            case rel => exact ⟨_, (0), (by first | rfl | (simp; done) | (simp [*]; done)), H', ⟨by have := HJ3.out; first | omega | exact Nat.le_refl _⟩, ⟨by (with_reducible repeat (first | apply Kd.R_alloc | apply Kd.R_drewN | apply Kd.R_drew)); exact HO269.out⟩, ⟨by repeat (first | (with_reducible first | exact HB.out | apply below_alloc | apply pw_below_drewN | apply below_drew1) | exact HB.out)⟩⟩
          · rw [if_neg c17] at H
            have c17b0 : (a1 == a2) = false := beq_eq_false_iff_ne.mpr c17
            have c17b1 : (a1 != a2) = true := bne_iff_ne.mpr c17
            (first | rw [c17b0] | (simp only [i64_w, i32_w]; rw [c17b0]) | skip)
            by_cases c18 : a1 = 0
            · rw [if_pos c18] at H
              have c18b0 : (a1 == 0) = true := beq_iff_eq.mpr c18
              have c18b1 : (a1 != 0) = false := bne_eq_false_iff_eq.mpr c18
              clear c18
              have H' := Aside0.mk H
              clear H
              go_wp2
              go_meet
              case rel => exact ⟨_, (2), (by first | rfl | (simp; done) | (simp [*]; done)), H', ⟨by have := HJ3.out; first | omega | exact Nat.le_refl _⟩, ⟨by (with_reducible repeat (first | apply Kd.R_alloc | apply Kd.R_drewN | apply Kd.R_drew)); exact HO269.out⟩, ⟨by repeat (first | (with_reducible first | exact HB.out | apply below_alloc | apply pw_below_drewN | apply below_drew1) | exact HB.out)⟩⟩
            · rw [if_neg c18] at H
              have c18b0 : (a1 == 0) = false := beq_eq_false_iff_ne.mpr c18
              have c18b1 : (a1 != 0) = true := bne_iff_ne.mpr c18
              by_cases c19 : a2 = 0
              · rw [if_pos c19] at H
                have c19b0 : (a2 == 0) = true := beq_iff_eq.mpr c19
                have c19b1 : (a2 != 0) = false := bne_eq_false_iff_eq.mpr c19
                clear c19
                have H' := Aside0.mk H
                clear H
                go_wp2
                go_meet
                case rel => exact ⟨_, (2), (by first | rfl | (simp; done) | (simp [*]; done)), H', ⟨by have := HJ3.out; first | omega | exact Nat.le_refl _⟩, ⟨by (with_reducible repeat (first | apply Kd.R_alloc | apply Kd.R_drewN | apply Kd.R_drew)); exact HO269.out⟩, ⟨by repeat (first | (with_reducible first | exact HB.out | apply below_alloc | apply pw_below_drewN | apply below_drew1) | exact HB.out)⟩⟩
              · rw [if_neg c19] at H
                have c19b0 : (a2 == 0) = false := beq_eq_false_iff_ne.mpr c19
                have c19b1 : (a2 != 0) = true := bne_iff_ne.mpr c19
                have H' := Aside0.mk H
                clear H
                go_wp2
                go_meet
                case rel => exact ⟨_, (4), (by first | rfl | (simp; done) | (simp [*]; done)), H', ⟨by have := HJ3.out; first | omega | exact Nat.le_refl _⟩, ⟨by (with_reducible repeat (first | apply Kd.R_alloc | apply Kd.R_drewN | apply Kd.R_drew)); exact HO269.out⟩, ⟨by repeat (first | (with_reducible first | exact HB.out | apply below_alloc | apply pw_below_drewN | apply below_drew1) | exact HB.out)⟩⟩
        case rest =>
          clear HC15
          try clear c1
          try clear p2
          try clear c4
          try clear c6
          try clear c8
          try clear c9
          try clear c10
          try clear c11
          try clear c17
          try clear c17b0
          try clear c17b1
          try clear c18
          try clear c18b0
          try clear c18b1
          try clear c19
          try clear c19b0
          try clear c19b1
          try clear p2
          obtain ⟨kq, x8_14, rfl, HA, HJ14, HO_7, HB⟩ := hcut
          cases kq with
          | zero => exact absurd HA.out (by simp [limelightlaw15_ChainSides.j1])
          | succ kj14 =>
            have H := HA.out
            clear HA
            simp only [limelightlaw15_ChainSides.j1] at H
            have H' := Aside0.mk H
            clear H
            go_wp2
            go_loopg [9, 10] kj14 (fun kq v9 v10 w' => ∃ (x9_3 : Bool) (x10_3 : Int), v9 = .bool x9_3 ∧ v10 = .int .i64 x10_3 ∧ Aside0 (limelightlaw15_ChainSides.l0 kq a1 a2 t267 x8_14 x9_3 x10_3 = some r) ∧ Aside0 (kq ≤ kj14) ∧ Aside0 (Kd.R k37 37 w' w.heap.size (fun _ => True) v268 t267) ∧ Aside0 (Below w.heap.size w w'))
            case atStart => exact ⟨(false), (0), (by first | rfl | (simp; done) | (simp [*]; done)), (by first | rfl | (simp; done) | (simp [*]; done)), H', ⟨Nat.le_refl _⟩, ⟨by (with_reducible repeat (first | apply Kd.R_alloc | apply Kd.R_drewN | apply Kd.R_drew)); exact HO_7.out⟩, ⟨by repeat (first | (with_reducible first | exact HB.out | apply below_alloc | apply pw_below_drewN | apply below_drew1) | exact HB.out)⟩⟩
            case round =>
              clear H'
              try clear c1
              try clear p2
              try clear c4
              try clear c6
              try clear c8
              try clear c9
              try clear c10
              try clear c11
              try clear c17
              try clear c17b0
              try clear c17b1
              try clear c18
              try clear c18b0
              try clear c18b1
              try clear c19
              try clear c19b0
              try clear c19b1
              try clear p2
              obtain ⟨x9_3, x10_3, rfl, rfl, HA, HK3, HO_7, HB⟩ := hrel
              cases gk with
              | zero => exact absurd HA.out (by simp [limelightlaw15_ChainSides.l0])
              | succ k3 =>
                have H := HA.out
                clear HA
                simp only [limelightlaw15_ChainSides.l0] at H
                by_cases c20 : x10_3 < (t267.length : Int)
                · rw [if_pos c20] at H
                  have c20b0 : decide (x10_3 < (t267.length : Int)) = true := decide_eq_true c20
                  clear c20
                  by_cases c21 : 0 ≤ x10_3
                  · rw [if_pos c21] at H
                    have c21b0 : decide (0 ≤ x10_3) = true := decide_eq_true c21
                    clear c21
                    have HC22 := Aside0.mk H
                    clear H
                    obtain ⟨Ao23, co23, eo23⟩ := Kd.R_slice HO_7.out
                    subst eo23
                    have p271 : 0 ≤ (x10_3 : Int) := of_decide_eq_true (by first | (with_reducible assumption) | assumption)
                    have q271 : x10_3 < (t267.length : Int) := of_decide_eq_true (by first | (with_reducible assumption) | assumption)
                    obtain ⟨ad271, e271, hx271_0, hx271_1, hx271_2, hx271_3, hx271_4, hx271_5⟩ := at_T37 (Kd.R_reads' HO_7.out).2.2 x10_3 p271 q271
                    cases e271
                    replace p271 := eq_true p271
                    replace q271 := eq_true q271
                    go_upto_region 14 with (first | ((with_reducible refine gate_dst (N := 11) rfl ?_); refine box_event ?hg (N := 11) ?hd (cs := #[.int .i64 0, .int .i64 0, .int .i64 0, .bool false, .bool false, .bool false]) (t := 37) ?hr ?_; (case hd => rfl); (case hg => rfl); (case hr => first | (go_simp; done) | (go_simp; rfl)); intro gb272 hg w24 hbox hb; have n0_ := Aside0.mk (Kd.R_below (Kd.R_elderB (by (with_reducible repeat (first | apply Kd.R_alloc | apply Kd.R_drewN | apply Kd.R_drew)); exact HO_7.out) gb272 (Nat.le_of_eq hg.symm)) hb); have n1_ := Aside0.mk (below_step (by repeat (first | (with_reducible first | exact HB.out | apply below_alloc | apply pw_below_drewN | apply below_drew1) | exact HB.out)) hb); have n2_ := Aside0.mk (hbox); have n3_ := Aside0.mk ((by rw [hg]; exact (below_size (by repeat (first | (with_reducible first | exact HB.out | apply below_alloc | apply pw_below_drewN | apply below_drew1) | exact HB.out))) : w.heap.size ≤ gb272)); have n4_ := Aside0.mk ((by rw [hg]; exact (below_size (by repeat (first | (with_reducible first | exact HB.out | apply below_alloc | apply pw_below_drewN | apply below_drew1) | exact HB.out))) : w.heap.size ≤ gb272)); clear HO_7; clear HB; have HO_7 := n0_; have HB := n1_; have BK272 := n2_; have GW272 := n3_; have GE272 := n4_; clear n0_ n1_ n2_ n3_ n4_; clear hb hbox hg; have hcz25_0 : w24.cell? ⟨gb272, 0, none⟩ = some (.int .i64 0) := (blk_cell BK272.out 0).trans rfl; have hcz25_1 : w24.cell? ⟨gb272, 1, none⟩ = some (.int .i64 0) := (blk_cell BK272.out 1).trans rfl; have hcz25_2 : w24.cell? ⟨gb272, 2, none⟩ = some (.int .i64 0) := (blk_cell BK272.out 2).trans rfl; have hcz25_3 : w24.cell? ⟨gb272, 3, none⟩ = some (.bool false) := (blk_cell BK272.out 3).trans rfl; have hcz25_4 : w24.cell? ⟨gb272, 4, none⟩ = some (.bool false) := (blk_cell BK272.out 4).trans rfl; have hcz25_5 : w24.cell? ⟨gb272, 5, none⟩ = some (.bool false) := (blk_cell BK272.out 5).trans rfl; have hfz25_0 := blk_frozen BK272.out 0; have hfz25_1 := blk_frozen BK272.out 1; have hfz25_2 := blk_frozen BK272.out 2; have hfz25_3 := blk_frozen BK272.out 3; have hfz25_4 := blk_frozen BK272.out 4; have hfz25_5 := blk_frozen BK272.out 5))
                    (try simp only [Act.put, List.setIfInBounds_toArray, List.set_cons_zero, List.set_cons_succ])
                    go_cut [12] (fun v12 wc => ∃ (kq : Nat) (x12_21 : Bool), v12 = .bool x12_21 ∧ Aside0 (limelightlaw15_ChainSides.j3 kq a1 a2 t267 x8_14 x9_3 x10_3 x12_21 ((rd_T37 t267 x10_3).f0) ((rd_T37 t267 x10_3).f1) ((rd_T37 t267 x10_3).f2) ((rd_T37 t267 x10_3).f3) ((rd_T37 t267 x10_3).f4) ((rd_T37 t267 x10_3).f5) = some r) ∧ Aside0 (kq ≤ k3) ∧ Aside0 (Kd.R k37 37 wc w.heap.size (fun k_ => k_ ≠ gb272) (.slice (some ad271) t267.length co23) t267) ∧ Aside0 (wc.heap[gb272]? = some (.cells #[.int .i64 ((rd_T37 t267 x10_3).f0), .int .i64 ((rd_T37 t267 x10_3).f1), .int .i64 ((rd_T37 t267 x10_3).f2), .bool ((rd_T37 t267 x10_3).f3), .bool ((rd_T37 t267 x10_3).f4), .bool ((rd_T37 t267 x10_3).f5)] 37 (0, 0))) ∧ Aside0 (Below w.heap.size w wc))
                    case first =>
                      have H := HC22.out
                      clear HC22
                      by_cases c26 : ((rd_T37 t267 x10_3).f0) = 0
                      · rw [if_pos c26] at H
                        have c26b0 : (((rd_T37 t267 x10_3).f0) == 0) = true := beq_iff_eq.mpr c26
                        have c26b1 : (((rd_T37 t267 x10_3).f0) != 0) = false := bne_eq_false_iff_eq.mpr c26
                        clear c26
                        (first | rw [c26b0] | (simp only [i64_w, i32_w]; rw [c26b0]) | skip)
                        have H' := Aside0.mk H
                        clear H
                        have hcz27_0 : w24.cell? ⟨gb272, 0, none⟩ = some (.int .i64 0) := (blk_cell BK272.out 0).trans rfl
                        have hcz27_1 : w24.cell? ⟨gb272, 1, none⟩ = some (.int .i64 0) := (blk_cell BK272.out 1).trans rfl
                        have hcz27_2 : w24.cell? ⟨gb272, 2, none⟩ = some (.int .i64 0) := (blk_cell BK272.out 2).trans rfl
                        have hcz27_3 : w24.cell? ⟨gb272, 3, none⟩ = some (.bool false) := (blk_cell BK272.out 3).trans rfl
                        have hcz27_4 : w24.cell? ⟨gb272, 4, none⟩ = some (.bool false) := (blk_cell BK272.out 4).trans rfl
                        have hcz27_5 : w24.cell? ⟨gb272, 5, none⟩ = some (.bool false) := (blk_cell BK272.out 5).trans rfl
                        have hfz27_0 := blk_frozen BK272.out 0
                        have hfz27_1 := blk_frozen BK272.out 1
                        have hfz27_2 := blk_frozen BK272.out 2
                        have hfz27_3 := blk_frozen BK272.out 3
                        have hfz27_4 := blk_frozen BK272.out 4
                        have hfz27_5 := blk_frozen BK272.out 5
                        go_wp2
                        go_meet
                        case rel => exact ⟨_, (true), (by first | rfl | (simp; done) | (simp [*]; done)), H', ⟨by have := HJ3.out; have := HJ14.out; have := HK3.out; first | omega | exact Nat.le_refl _⟩, ⟨by (with_reducible repeat (first | apply Kd.R_alloc | apply Kd.R_drewN | apply Kd.R_drew)); exact Kd.R_mono (Kd.R_far (p := ⟨gb272, 5, none⟩) (Kd.R_far (p := ⟨gb272, 4, none⟩) (Kd.R_far (p := ⟨gb272, 3, none⟩) (Kd.R_far (p := ⟨gb272, 2, none⟩) (Kd.R_far (p := ⟨gb272, 1, none⟩) (Kd.R_far (p := ⟨gb272, 0, none⟩) (Kd.R_mono HO_7.out (fun k_ hk => (⟨hk, hk.2⟩ : _ ∧ k_ ≠ gb272))) (fun _ hk => hk.2) (.int .i64 ((rd_T37 t267 x10_3).f0))) (fun _ hk => hk.2) (.int .i64 ((rd_T37 t267 x10_3).f1))) (fun _ hk => hk.2) (.int .i64 ((rd_T37 t267 x10_3).f2))) (fun _ hk => hk.2) (.bool ((rd_T37 t267 x10_3).f3))) (fun _ hk => hk.2) (.bool ((rd_T37 t267 x10_3).f4))) (fun _ hk => hk.2) (.bool ((rd_T37 t267 x10_3).f5))) (fun _ hk => hk.1.2)⟩, ⟨by (with_reducible repeat (first | refine blk_drewN ?_ _ | refine blk_drew ?_ | refine blk_alloc ?_ _)); refine blk_put (cs := #[.int .i64 ((rd_T37 t267 x10_3).f0), .int .i64 ((rd_T37 t267 x10_3).f1), .int .i64 ((rd_T37 t267 x10_3).f2), .bool ((rd_T37 t267 x10_3).f3), .bool ((rd_T37 t267 x10_3).f4), .bool false]) ?_ 5 _ rfl; (with_reducible repeat (first | refine blk_drewN ?_ _ | refine blk_drew ?_ | refine blk_alloc ?_ _)); refine blk_put (cs := #[.int .i64 ((rd_T37 t267 x10_3).f0), .int .i64 ((rd_T37 t267 x10_3).f1), .int .i64 ((rd_T37 t267 x10_3).f2), .bool ((rd_T37 t267 x10_3).f3), .bool false, .bool false]) ?_ 4 _ rfl; (with_reducible repeat (first | refine blk_drewN ?_ _ | refine blk_drew ?_ | refine blk_alloc ?_ _)); refine blk_put (cs := #[.int .i64 ((rd_T37 t267 x10_3).f0), .int .i64 ((rd_T37 t267 x10_3).f1), .int .i64 ((rd_T37 t267 x10_3).f2), .bool false, .bool false, .bool false]) ?_ 3 _ rfl; (with_reducible repeat (first | refine blk_drewN ?_ _ | refine blk_drew ?_ | refine blk_alloc ?_ _)); refine blk_put (cs := #[.int .i64 ((rd_T37 t267 x10_3).f0), .int .i64 ((rd_T37 t267 x10_3).f1), .int .i64 0, .bool false, .bool false, .bool false]) ?_ 2 _ rfl; (with_reducible repeat (first | refine blk_drewN ?_ _ | refine blk_drew ?_ | refine blk_alloc ?_ _)); refine blk_put (cs := #[.int .i64 ((rd_T37 t267 x10_3).f0), .int .i64 0, .int .i64 0, .bool false, .bool false, .bool false]) ?_ 1 _ rfl; (with_reducible repeat (first | refine blk_drewN ?_ _ | refine blk_drew ?_ | refine blk_alloc ?_ _)); refine blk_put (cs := #[.int .i64 0, .int .i64 0, .int .i64 0, .bool false, .bool false, .bool false]) ?_ 0 _ rfl; (with_reducible repeat (first | refine blk_drewN ?_ _ | refine blk_drew ?_ | refine blk_alloc ?_ _)); exact BK272.out⟩, ⟨by repeat (first | (with_reducible first | exact HB.out | apply below_alloc | apply pw_below_drewN | apply below_drew1 | refine below_set ?_ GE272.out) | exact HB.out)⟩⟩
                      · rw [if_neg c26] at H
                        have c26b0 : (((rd_T37 t267 x10_3).f0) == 0) = false := beq_eq_false_iff_ne.mpr c26
                        have c26b1 : (((rd_T37 t267 x10_3).f0) != 0) = true := bne_iff_ne.mpr c26
                        (first | rw [c26b0] | (simp only [i64_w, i32_w]; rw [c26b0]) | skip)
                        have H' := Aside0.mk H
                        clear H
                        have hcz28_0 : w24.cell? ⟨gb272, 0, none⟩ = some (.int .i64 0) := (blk_cell BK272.out 0).trans rfl
                        have hcz28_1 : w24.cell? ⟨gb272, 1, none⟩ = some (.int .i64 0) := (blk_cell BK272.out 1).trans rfl
                        have hcz28_2 : w24.cell? ⟨gb272, 2, none⟩ = some (.int .i64 0) := (blk_cell BK272.out 2).trans rfl
                        have hcz28_3 : w24.cell? ⟨gb272, 3, none⟩ = some (.bool false) := (blk_cell BK272.out 3).trans rfl
                        have hcz28_4 : w24.cell? ⟨gb272, 4, none⟩ = some (.bool false) := (blk_cell BK272.out 4).trans rfl
                        have hcz28_5 : w24.cell? ⟨gb272, 5, none⟩ = some (.bool false) := (blk_cell BK272.out 5).trans rfl
                        have hfz28_0 := blk_frozen BK272.out 0
                        have hfz28_1 := blk_frozen BK272.out 1
                        have hfz28_2 := blk_frozen BK272.out 2
                        have hfz28_3 := blk_frozen BK272.out 3
                        have hfz28_4 := blk_frozen BK272.out 4
                        have hfz28_5 := blk_frozen BK272.out 5
                        go_wp2
                        go_meet
                        case rel => exact ⟨_, ((((rd_T37 t267 x10_3).f0) == 2)), (by first | rfl | (simp; done) | (simp [*]; done)), H', ⟨by have := HJ3.out; have := HJ14.out; have := HK3.out; first | omega | exact Nat.le_refl _⟩, ⟨by (with_reducible repeat (first | apply Kd.R_alloc | apply Kd.R_drewN | apply Kd.R_drew)); exact Kd.R_mono (Kd.R_far (p := ⟨gb272, 5, none⟩) (Kd.R_far (p := ⟨gb272, 4, none⟩) (Kd.R_far (p := ⟨gb272, 3, none⟩) (Kd.R_far (p := ⟨gb272, 2, none⟩) (Kd.R_far (p := ⟨gb272, 1, none⟩) (Kd.R_far (p := ⟨gb272, 0, none⟩) (Kd.R_mono HO_7.out (fun k_ hk => (⟨hk, hk.2⟩ : _ ∧ k_ ≠ gb272))) (fun _ hk => hk.2) (.int .i64 ((rd_T37 t267 x10_3).f0))) (fun _ hk => hk.2) (.int .i64 ((rd_T37 t267 x10_3).f1))) (fun _ hk => hk.2) (.int .i64 ((rd_T37 t267 x10_3).f2))) (fun _ hk => hk.2) (.bool ((rd_T37 t267 x10_3).f3))) (fun _ hk => hk.2) (.bool ((rd_T37 t267 x10_3).f4))) (fun _ hk => hk.2) (.bool ((rd_T37 t267 x10_3).f5))) (fun _ hk => hk.1.2)⟩, ⟨by (with_reducible repeat (first | refine blk_drewN ?_ _ | refine blk_drew ?_ | refine blk_alloc ?_ _)); refine blk_put (cs := #[.int .i64 ((rd_T37 t267 x10_3).f0), .int .i64 ((rd_T37 t267 x10_3).f1), .int .i64 ((rd_T37 t267 x10_3).f2), .bool ((rd_T37 t267 x10_3).f3), .bool ((rd_T37 t267 x10_3).f4), .bool false]) ?_ 5 _ rfl; (with_reducible repeat (first | refine blk_drewN ?_ _ | refine blk_drew ?_ | refine blk_alloc ?_ _)); refine blk_put (cs := #[.int .i64 ((rd_T37 t267 x10_3).f0), .int .i64 ((rd_T37 t267 x10_3).f1), .int .i64 ((rd_T37 t267 x10_3).f2), .bool ((rd_T37 t267 x10_3).f3), .bool false, .bool false]) ?_ 4 _ rfl; (with_reducible repeat (first | refine blk_drewN ?_ _ | refine blk_drew ?_ | refine blk_alloc ?_ _)); refine blk_put (cs := #[.int .i64 ((rd_T37 t267 x10_3).f0), .int .i64 ((rd_T37 t267 x10_3).f1), .int .i64 ((rd_T37 t267 x10_3).f2), .bool false, .bool false, .bool false]) ?_ 3 _ rfl; (with_reducible repeat (first | refine blk_drewN ?_ _ | refine blk_drew ?_ | refine blk_alloc ?_ _)); refine blk_put (cs := #[.int .i64 ((rd_T37 t267 x10_3).f0), .int .i64 ((rd_T37 t267 x10_3).f1), .int .i64 0, .bool false, .bool false, .bool false]) ?_ 2 _ rfl; (with_reducible repeat (first | refine blk_drewN ?_ _ | refine blk_drew ?_ | refine blk_alloc ?_ _)); refine blk_put (cs := #[.int .i64 ((rd_T37 t267 x10_3).f0), .int .i64 0, .int .i64 0, .bool false, .bool false, .bool false]) ?_ 1 _ rfl; (with_reducible repeat (first | refine blk_drewN ?_ _ | refine blk_drew ?_ | refine blk_alloc ?_ _)); refine blk_put (cs := #[.int .i64 0, .int .i64 0, .int .i64 0, .bool false, .bool false, .bool false]) ?_ 0 _ rfl; (with_reducible repeat (first | refine blk_drewN ?_ _ | refine blk_drew ?_ | refine blk_alloc ?_ _)); exact BK272.out⟩, ⟨by repeat (first | (with_reducible first | exact HB.out | apply below_alloc | apply pw_below_drewN | apply below_drew1 | refine below_set ?_ GE272.out) | exact HB.out)⟩⟩
                    case rest =>
                      clear HC22
                      try clear c1
                      try clear c2
                      try clear p2
                      try clear q2
                      try clear hx2
                      try clear c4
                      try clear c6
                      try clear c8
                      try clear c9
                      try clear c10
                      try clear c11
                      try clear c17
                      try clear c17b0
                      try clear c17b1
                      try clear c18
                      try clear c18b0
                      try clear c18b1
                      try clear c19
                      try clear c19b0
                      try clear c19b1
                      try clear c20
                      try clear c20b0
                      try clear c21
                      try clear c21b0
                      try clear c26
                      try clear c26b0
                      try clear c26b1
                      try clear p27
                      try clear q27
                      try clear hx27
                      try clear hcz25_0
                      try clear hcz25_1
                      try clear hcz25_2
                      try clear hcz25_3
                      try clear hcz25_4
                      try clear hcz25_5
                      try clear hcz27_0
                      try clear hcz27_1
                      try clear hcz27_2
                      try clear hcz27_3
                      try clear hcz27_4
                      try clear hcz27_5
                      try clear hcz28_0
                      try clear hcz28_1
                      try clear hcz28_2
                      try clear hcz28_3
                      try clear hcz28_4
                      try clear hcz28_5
                      try clear hfz25_0
                      try clear hfz25_1
                      try clear hfz25_2
                      try clear hfz25_3
                      try clear hfz25_4
                      try clear hfz25_5
                      try clear hfz27_0
                      try clear hfz27_1
                      try clear hfz27_2
                      try clear hfz27_3
                      try clear hfz27_4
                      try clear hfz27_5
                      try clear hfz28_0
                      try clear hfz28_1
                      try clear hfz28_2
                      try clear hfz28_3
                      try clear hfz28_4
                      try clear hfz28_5
                      try clear hx271_0
                      try clear hx271_1
                      try clear hx271_2
                      try clear hx271_3
                      try clear hx271_4
                      try clear hx271_5
                      try clear p2
                      try clear p271
                      try clear q271
                      obtain ⟨kq, x12_21, rfl, HA, HJ21, HO_7, BK272, HB⟩ := hcut
                      cases kq with
                      | zero => exact absurd HA.out (by simp [limelightlaw15_ChainSides.j3])
                      | succ kj21 =>
                        have H := HA.out
                        clear HA
                        simp only [limelightlaw15_ChainSides.j3] at H
                        have HC29 := Aside0.mk H
                        clear H
                        go_upto_region 15 with (fail)
                        go_cut [59] (fun v59 wc => ∃ (kq : Nat) (x59_28 : Bool), v59 = .bool x59_28 ∧ Aside0 (limelightlaw15_ChainSides.j4 kq a1 a2 t267 x8_14 x9_3 x10_3 x12_21 x59_28 ((rd_T37 t267 x10_3).f0) ((rd_T37 t267 x10_3).f1) ((rd_T37 t267 x10_3).f2) ((rd_T37 t267 x10_3).f3) ((rd_T37 t267 x10_3).f4) ((rd_T37 t267 x10_3).f5) = some r) ∧ Aside0 (kq ≤ kj21) ∧ Aside0 (Kd.R k37 37 wc w.heap.size (fun k_ => k_ ≠ gb272) (.slice (some ad271) t267.length co23) t267) ∧ Aside0 (wc.heap[gb272]? = some (.cells #[.int .i64 ((rd_T37 t267 x10_3).f0), .int .i64 ((rd_T37 t267 x10_3).f1), .int .i64 ((rd_T37 t267 x10_3).f2), .bool ((rd_T37 t267 x10_3).f3), .bool ((rd_T37 t267 x10_3).f4), .bool ((rd_T37 t267 x10_3).f5)] 37 (0, 0))) ∧ Aside0 (Below w.heap.size w wc))
                        case first =>
                          have H := HC29.out
                          clear HC29
                          by_cases c30 : x9_3 = true
                          · subst c30
                            have H1 : (limelightlaw15_ChainSides.j4 kj21 a1 a2 t267 x8_14 true x10_3 x12_21 (!x12_21) ((rd_T37 t267 x10_3).f0) ((rd_T37 t267 x10_3).f1) ((rd_T37 t267 x10_3).f2) ((rd_T37 t267 x10_3).f3) ((rd_T37 t267 x10_3).f4) ((rd_T37 t267 x10_3).f5)) = some r := by rw [if_pos rfl] at H; exact H
                            clear H
                            have H := H1
                            clear H1
                            have H' := Aside0.mk H
                            clear H
                            go_wp2
                            go_meet
                            case rel => exact ⟨_, (!x12_21), (by first | rfl | (simp; done) | (simp [*]; done)), H', ⟨by have := HJ3.out; have := HJ14.out; have := HK3.out; have := HJ21.out; first | omega | exact Nat.le_refl _⟩, ⟨by (with_reducible repeat (first | apply Kd.R_alloc | apply Kd.R_drewN | apply Kd.R_drew)); exact HO_7.out⟩, ⟨by (with_reducible repeat (first | refine blk_drewN ?_ _ | refine blk_drew ?_ | refine blk_alloc ?_ _)); exact BK272.out⟩, ⟨by repeat (first | (with_reducible first | exact HB.out | apply below_alloc | apply pw_below_drewN | apply below_drew1 | refine below_set ?_ GE272.out) | exact HB.out)⟩⟩
                          · replace c30 := Bool.eq_false_iff.mpr c30
                            subst c30
                            have H1 : (limelightlaw15_ChainSides.j4 kj21 a1 a2 t267 x8_14 false x10_3 x12_21 false ((rd_T37 t267 x10_3).f0) ((rd_T37 t267 x10_3).f1) ((rd_T37 t267 x10_3).f2) ((rd_T37 t267 x10_3).f3) ((rd_T37 t267 x10_3).f4) ((rd_T37 t267 x10_3).f5)) = some r := by rw [if_neg (show ¬ (false = true) by decide)] at H; exact H
                            clear H
                            have H := H1
                            clear H1
                            have H' := Aside0.mk H
                            clear H
                            go_wp2
                            go_meet
                            case rel => exact ⟨_, (false), (by first | rfl | (simp; done) | (simp [*]; done)), H', ⟨by have := HJ3.out; have := HJ14.out; have := HK3.out; have := HJ21.out; first | omega | exact Nat.le_refl _⟩, ⟨by (with_reducible repeat (first | apply Kd.R_alloc | apply Kd.R_drewN | apply Kd.R_drew)); exact HO_7.out⟩, ⟨by (with_reducible repeat (first | refine blk_drewN ?_ _ | refine blk_drew ?_ | refine blk_alloc ?_ _)); exact BK272.out⟩, ⟨by repeat (first | (with_reducible first | exact HB.out | apply below_alloc | apply pw_below_drewN | apply below_drew1 | refine below_set ?_ GE272.out) | exact HB.out)⟩⟩
                        case rest =>
                          clear HC29
                          try clear c1
                          try clear c2
                          try clear p2
                          try clear q2
                          try clear hx2
                          try clear c3
                          try clear c4
                          try clear c6
                          try clear c8
                          try clear c9
                          try clear c10
                          try clear c11
                          try clear c17
                          try clear c17b0
                          try clear c17b1
                          try clear c18
                          try clear c18b0
                          try clear c18b1
                          try clear c19
                          try clear c19b0
                          try clear c19b1
                          try clear c20
                          try clear c20b0
                          try clear c21
                          try clear c21b0
                          try clear c26
                          try clear c26b0
                          try clear c26b1
                          try clear p27
                          try clear q27
                          try clear hx27
                          try clear c30
                          try clear hcz25_0
                          try clear hcz25_1
                          try clear hcz25_2
                          try clear hcz25_3
                          try clear hcz25_4
                          try clear hcz25_5
                          try clear hcz27_0
                          try clear hcz27_1
                          try clear hcz27_2
                          try clear hcz27_3
                          try clear hcz27_4
                          try clear hcz27_5
                          try clear hcz28_0
                          try clear hcz28_1
                          try clear hcz28_2
                          try clear hcz28_3
                          try clear hcz28_4
                          try clear hcz28_5
                          try clear hfz25_0
                          try clear hfz25_1
                          try clear hfz25_2
                          try clear hfz25_3
                          try clear hfz25_4
                          try clear hfz25_5
                          try clear hfz27_0
                          try clear hfz27_1
                          try clear hfz27_2
                          try clear hfz27_3
                          try clear hfz27_4
                          try clear hfz27_5
                          try clear hfz28_0
                          try clear hfz28_1
                          try clear hfz28_2
                          try clear hfz28_3
                          try clear hfz28_4
                          try clear hfz28_5
                          try clear hx271_0
                          try clear hx271_1
                          try clear hx271_2
                          try clear hx271_3
                          try clear hx271_4
                          try clear hx271_5
                          try clear p2
                          try clear p27
                          try clear p271
                          try clear q2
                          try clear q27
                          try clear q271
                          obtain ⟨kq, x59_28, rfl, HA, HJ28, HO_7, BK272, HB⟩ := hcut
                          cases kq with
                          | zero => exact absurd HA.out (by simp [limelightlaw15_ChainSides.j4])
                          | succ kj28 =>
                            have H := HA.out
                            clear HA
                            simp only [limelightlaw15_ChainSides.j4] at H
                            by_cases c31 : x59_28 = true
                            · subst c31
                              have H1 : (none) = some r := by rw [if_pos rfl] at H; exact H
                              clear H
                              have H := H1
                              clear H1
                              exact absurd H (by simp)
                            · replace c31 := Bool.eq_false_iff.mpr c31
                              subst c31
                              have H1 : (if x9_3 = true then (if ((rd_T37 t267 x10_3).f1) = 0 then (none) else (if ((rd_T37 t267 x10_3).f2) = 0 then (none) else (if ((rd_T37 t267 x10_3).f4) = true then (none) else (if ((rd_T37 t267 x10_3).f5) = true then (if x12_21 = true then (if ((rd_T37 t267 x10_3).f1) = a2 then (limelightlaw15_ChainSides.l0 kj28 a1 a2 t267 x8_14 true (wrap64 (x10_3 + 1))) else (none)) else (if ((rd_T37 t267 x10_3).f1) = a1 then (limelightlaw15_ChainSides.l0 kj28 a1 a2 t267 x8_14 true (wrap64 (x10_3 + 1))) else (none))) else (none))))) else (if ((rd_T37 t267 x10_3).f1) = 0 then (none) else (if ((rd_T37 t267 x10_3).f2) = 0 then (none) else (if ((rd_T37 t267 x10_3).f4) = true then (none) else (if ((rd_T37 t267 x10_3).f5) = true then (if x12_21 = true then (if ((rd_T37 t267 x10_3).f1) = a2 then (limelightlaw15_ChainSides.l0 kj28 a1 a2 t267 x8_14 x12_21 (wrap64 (x10_3 + 1))) else (none)) else (if ((rd_T37 t267 x10_3).f1) = a1 then (limelightlaw15_ChainSides.l0 kj28 a1 a2 t267 x8_14 x12_21 (wrap64 (x10_3 + 1))) else (none))) else (none)))))) = some r := by rw [if_neg (show ¬ (false = true) by decide)] at H; exact H
                              clear H
                              have H := H1
                              clear H1
                              by_cases c32 : x9_3 = true
                              · subst c32
                                have H1 : (if ((rd_T37 t267 x10_3).f1) = 0 then (none) else (if ((rd_T37 t267 x10_3).f2) = 0 then (none) else (if ((rd_T37 t267 x10_3).f4) = true then (none) else (if ((rd_T37 t267 x10_3).f5) = true then (if x12_21 = true then (if ((rd_T37 t267 x10_3).f1) = a2 then (limelightlaw15_ChainSides.l0 kj28 a1 a2 t267 x8_14 true (wrap64 (x10_3 + 1))) else (none)) else (if ((rd_T37 t267 x10_3).f1) = a1 then (limelightlaw15_ChainSides.l0 kj28 a1 a2 t267 x8_14 true (wrap64 (x10_3 + 1))) else (none))) else (none))))) = some r := by rw [if_pos rfl] at H; exact H
                                clear H
                                have H := H1
                                clear H1
                                by_cases c33 : ((rd_T37 t267 x10_3).f1) = 0
                                · rw [if_pos c33] at H
                                  exact absurd H (by simp)
                                · rw [if_neg c33] at H
                                  have c33b0 : (((rd_T37 t267 x10_3).f1) == 0) = false := beq_eq_false_iff_ne.mpr c33
                                  have c33b1 : (((rd_T37 t267 x10_3).f1) != 0) = true := bne_iff_ne.mpr c33
                                  by_cases c34 : ((rd_T37 t267 x10_3).f2) = 0
                                  · rw [if_pos c34] at H
                                    exact absurd H (by simp)
                                  · rw [if_neg c34] at H
                                    have c34b0 : (((rd_T37 t267 x10_3).f2) == 0) = false := beq_eq_false_iff_ne.mpr c34
                                    have c34b1 : (((rd_T37 t267 x10_3).f2) != 0) = true := bne_iff_ne.mpr c34
                                    by_cases c35 : ((rd_T37 t267 x10_3).f4) = true
                                    · rw [if_pos c35] at H
                                      exact absurd H (by simp)
                                    · rw [if_neg c35] at H
                                      have c35b0 : ((rd_T37 t267 x10_3).f4) = false := by simpa using c35
                                      clear c35
                                      by_cases c36 : ((rd_T37 t267 x10_3).f5) = true
                                      · rw [if_pos c36] at H
                                        have c36b0 : ((rd_T37 t267 x10_3).f5) = true := c36
                                        clear c36
                                        by_cases c37 : x12_21 = true
                                        · subst c37
                                          have H1 : (if ((rd_T37 t267 x10_3).f1) = a2 then (limelightlaw15_ChainSides.l0 kj28 a1 a2 t267 x8_14 true (wrap64 (x10_3 + 1))) else (none)) = some r := by rw [if_pos rfl] at H; exact H
                                          clear H
                                          have H := H1
                                          clear H1
                                          by_cases c38 : ((rd_T37 t267 x10_3).f1) = a2
                                          · rw [if_pos c38] at H
                                            have c38b0 : (((rd_T37 t267 x10_3).f1) == a2) = true := beq_iff_eq.mpr c38
                                            have c38b1 : (((rd_T37 t267 x10_3).f1) != a2) = false := bne_eq_false_iff_eq.mpr c38
                                            clear c38
                                            have H' := Aside0.mk H
                                            clear H
                                            have hcz39_0 : wc.cell? ⟨gb272, 0, none⟩ = some (.int .i64 ((rd_T37 t267 x10_3).f0)) := (blk_cell BK272.out 0).trans rfl
                                            have hcz39_1 : wc.cell? ⟨gb272, 1, none⟩ = some (.int .i64 ((rd_T37 t267 x10_3).f1)) := (blk_cell BK272.out 1).trans rfl
                                            have hcz39_2 : wc.cell? ⟨gb272, 2, none⟩ = some (.int .i64 ((rd_T37 t267 x10_3).f2)) := (blk_cell BK272.out 2).trans rfl
                                            have hcz39_3 : wc.cell? ⟨gb272, 3, none⟩ = some (.bool ((rd_T37 t267 x10_3).f3)) := (blk_cell BK272.out 3).trans rfl
                                            have hcz39_4 : wc.cell? ⟨gb272, 4, none⟩ = some (.bool ((rd_T37 t267 x10_3).f4)) := (blk_cell BK272.out 4).trans rfl
                                            have hcz39_5 : wc.cell? ⟨gb272, 5, none⟩ = some (.bool ((rd_T37 t267 x10_3).f5)) := (blk_cell BK272.out 5).trans rfl
                                            have hfz39_0 := blk_frozen BK272.out 0
                                            have hfz39_1 := blk_frozen BK272.out 1
                                            have hfz39_2 := blk_frozen BK272.out 2
                                            have hfz39_3 := blk_frozen BK272.out 3
                                            have hfz39_4 := blk_frozen BK272.out 4
                                            have hfz39_5 := blk_frozen BK272.out 5
                                            go_wp2
                                            go_roundg kj28
                                            case measure => have := HJ3.out; have := HJ14.out; have := HK3.out; have := HJ21.out; have := HJ28.out; omega
                                            case rel => exact ⟨(true), (wrap64 (x10_3 + 1)), (by first | rfl | (simp; done) | (simp [*]; done)), (by first | rfl | (simp; done) | (simp [*]; done)), H', ⟨by have := HJ3.out; have := HJ14.out; have := HK3.out; have := HJ21.out; have := HJ28.out; omega⟩, ⟨by (with_reducible repeat (first | apply Kd.R_alloc | apply Kd.R_drewN | apply Kd.R_drew)); exact Kd.R_mono HO_7.out (fun _ hk => trivial)⟩, ⟨by repeat (first | (with_reducible first | exact HB.out | apply below_alloc | apply pw_below_drewN | apply below_drew1 | refine below_set ?_ GE272.out) | exact HB.out)⟩⟩
                                          · rw [if_neg c38] at H
                                            exact absurd H (by simp)
                                        · replace c37 := Bool.eq_false_iff.mpr c37
                                          subst c37
                                          have H1 : (if ((rd_T37 t267 x10_3).f1) = a1 then (limelightlaw15_ChainSides.l0 kj28 a1 a2 t267 x8_14 true (wrap64 (x10_3 + 1))) else (none)) = some r := by rw [if_neg (show ¬ (false = true) by decide)] at H; exact H
                                          clear H
                                          have H := H1
                                          clear H1
                                          by_cases c40 : ((rd_T37 t267 x10_3).f1) = a1
                                          · rw [if_pos c40] at H
                                            have c40b0 : (((rd_T37 t267 x10_3).f1) == a1) = true := beq_iff_eq.mpr c40
                                            have c40b1 : (((rd_T37 t267 x10_3).f1) != a1) = false := bne_eq_false_iff_eq.mpr c40
                                            clear c40
                                            have H' := Aside0.mk H
                                            clear H
                                            have hcz41_0 : wc.cell? ⟨gb272, 0, none⟩ = some (.int .i64 ((rd_T37 t267 x10_3).f0)) := (blk_cell BK272.out 0).trans rfl
                                            have hcz41_1 : wc.cell? ⟨gb272, 1, none⟩ = some (.int .i64 ((rd_T37 t267 x10_3).f1)) := (blk_cell BK272.out 1).trans rfl
                                            have hcz41_2 : wc.cell? ⟨gb272, 2, none⟩ = some (.int .i64 ((rd_T37 t267 x10_3).f2)) := (blk_cell BK272.out 2).trans rfl
                                            have hcz41_3 : wc.cell? ⟨gb272, 3, none⟩ = some (.bool ((rd_T37 t267 x10_3).f3)) := (blk_cell BK272.out 3).trans rfl
                                            have hcz41_4 : wc.cell? ⟨gb272, 4, none⟩ = some (.bool ((rd_T37 t267 x10_3).f4)) := (blk_cell BK272.out 4).trans rfl
                                            have hcz41_5 : wc.cell? ⟨gb272, 5, none⟩ = some (.bool ((rd_T37 t267 x10_3).f5)) := (blk_cell BK272.out 5).trans rfl
                                            have hfz41_0 := blk_frozen BK272.out 0
                                            have hfz41_1 := blk_frozen BK272.out 1
                                            have hfz41_2 := blk_frozen BK272.out 2
                                            have hfz41_3 := blk_frozen BK272.out 3
                                            have hfz41_4 := blk_frozen BK272.out 4
                                            have hfz41_5 := blk_frozen BK272.out 5
                                            go_wp2
                                            go_roundg kj28
                                            case measure => have := HJ3.out; have := HJ14.out; have := HK3.out; have := HJ21.out; have := HJ28.out; omega
                                            case rel => exact ⟨(true), (wrap64 (x10_3 + 1)), (by first | rfl | (simp; done) | (simp [*]; done)), (by first | rfl | (simp; done) | (simp [*]; done)), H', ⟨by have := HJ3.out; have := HJ14.out; have := HK3.out; have := HJ21.out; have := HJ28.out; omega⟩, ⟨by (with_reducible repeat (first | apply Kd.R_alloc | apply Kd.R_drewN | apply Kd.R_drew)); exact Kd.R_mono HO_7.out (fun _ hk => trivial)⟩, ⟨by repeat (first | (with_reducible first | exact HB.out | apply below_alloc | apply pw_below_drewN | apply below_drew1 | refine below_set ?_ GE272.out) | exact HB.out)⟩⟩
                                          · rw [if_neg c40] at H
                                            exact absurd H (by simp)
                                      · rw [if_neg c36] at H
                                        exact absurd H (by simp)
                              · replace c32 := Bool.eq_false_iff.mpr c32
                                subst c32
                                have H1 : (if ((rd_T37 t267 x10_3).f1) = 0 then (none) else (if ((rd_T37 t267 x10_3).f2) = 0 then (none) else (if ((rd_T37 t267 x10_3).f4) = true then (none) else (if ((rd_T37 t267 x10_3).f5) = true then (if x12_21 = true then (if ((rd_T37 t267 x10_3).f1) = a2 then (limelightlaw15_ChainSides.l0 kj28 a1 a2 t267 x8_14 x12_21 (wrap64 (x10_3 + 1))) else (none)) else (if ((rd_T37 t267 x10_3).f1) = a1 then (limelightlaw15_ChainSides.l0 kj28 a1 a2 t267 x8_14 x12_21 (wrap64 (x10_3 + 1))) else (none))) else (none))))) = some r := by rw [if_neg (show ¬ (false = true) by decide)] at H; exact H
                                clear H
                                have H := H1
                                clear H1
                                by_cases c42 : ((rd_T37 t267 x10_3).f1) = 0
                                · rw [if_pos c42] at H
                                  exact absurd H (by simp)
                                · rw [if_neg c42] at H
                                  have c42b0 : (((rd_T37 t267 x10_3).f1) == 0) = false := beq_eq_false_iff_ne.mpr c42
                                  have c42b1 : (((rd_T37 t267 x10_3).f1) != 0) = true := bne_iff_ne.mpr c42
                                  by_cases c43 : ((rd_T37 t267 x10_3).f2) = 0
                                  · rw [if_pos c43] at H
                                    exact absurd H (by simp)
                                  · rw [if_neg c43] at H
                                    have c43b0 : (((rd_T37 t267 x10_3).f2) == 0) = false := beq_eq_false_iff_ne.mpr c43
                                    have c43b1 : (((rd_T37 t267 x10_3).f2) != 0) = true := bne_iff_ne.mpr c43
                                    by_cases c44 : ((rd_T37 t267 x10_3).f4) = true
                                    · rw [if_pos c44] at H
                                      exact absurd H (by simp)
                                    · rw [if_neg c44] at H
                                      have c44b0 : ((rd_T37 t267 x10_3).f4) = false := by simpa using c44
                                      clear c44
                                      by_cases c45 : ((rd_T37 t267 x10_3).f5) = true
                                      · rw [if_pos c45] at H
                                        have c45b0 : ((rd_T37 t267 x10_3).f5) = true := c45
                                        clear c45
                                        by_cases c46 : x12_21 = true
                                        · subst c46
                                          have H1 : (if ((rd_T37 t267 x10_3).f1) = a2 then (limelightlaw15_ChainSides.l0 kj28 a1 a2 t267 x8_14 true (wrap64 (x10_3 + 1))) else (none)) = some r := by rw [if_pos rfl] at H; exact H
                                          clear H
                                          have H := H1
                                          clear H1
                                          by_cases c47 : ((rd_T37 t267 x10_3).f1) = a2
                                          · rw [if_pos c47] at H
                                            have c47b0 : (((rd_T37 t267 x10_3).f1) == a2) = true := beq_iff_eq.mpr c47
                                            have c47b1 : (((rd_T37 t267 x10_3).f1) != a2) = false := bne_eq_false_iff_eq.mpr c47
                                            clear c47
                                            have H' := Aside0.mk H
                                            clear H
                                            have hcz48_0 : wc.cell? ⟨gb272, 0, none⟩ = some (.int .i64 ((rd_T37 t267 x10_3).f0)) := (blk_cell BK272.out 0).trans rfl
                                            have hcz48_1 : wc.cell? ⟨gb272, 1, none⟩ = some (.int .i64 ((rd_T37 t267 x10_3).f1)) := (blk_cell BK272.out 1).trans rfl
                                            have hcz48_2 : wc.cell? ⟨gb272, 2, none⟩ = some (.int .i64 ((rd_T37 t267 x10_3).f2)) := (blk_cell BK272.out 2).trans rfl
                                            have hcz48_3 : wc.cell? ⟨gb272, 3, none⟩ = some (.bool ((rd_T37 t267 x10_3).f3)) := (blk_cell BK272.out 3).trans rfl
                                            have hcz48_4 : wc.cell? ⟨gb272, 4, none⟩ = some (.bool ((rd_T37 t267 x10_3).f4)) := (blk_cell BK272.out 4).trans rfl
                                            have hcz48_5 : wc.cell? ⟨gb272, 5, none⟩ = some (.bool ((rd_T37 t267 x10_3).f5)) := (blk_cell BK272.out 5).trans rfl
                                            have hfz48_0 := blk_frozen BK272.out 0
                                            have hfz48_1 := blk_frozen BK272.out 1
                                            have hfz48_2 := blk_frozen BK272.out 2
                                            have hfz48_3 := blk_frozen BK272.out 3
                                            have hfz48_4 := blk_frozen BK272.out 4
                                            have hfz48_5 := blk_frozen BK272.out 5
                                            go_wp2
                                            go_roundg kj28
                                            case measure => have := HJ3.out; have := HJ14.out; have := HK3.out; have := HJ21.out; have := HJ28.out; omega
                                            case rel => exact ⟨(true), (wrap64 (x10_3 + 1)), (by first | rfl | (simp; done) | (simp [*]; done)), (by first | rfl | (simp; done) | (simp [*]; done)), H', ⟨by have := HJ3.out; have := HJ14.out; have := HK3.out; have := HJ21.out; have := HJ28.out; omega⟩, ⟨by (with_reducible repeat (first | apply Kd.R_alloc | apply Kd.R_drewN | apply Kd.R_drew)); exact Kd.R_mono HO_7.out (fun _ hk => trivial)⟩, ⟨by repeat (first | (with_reducible first | exact HB.out | apply below_alloc | apply pw_below_drewN | apply below_drew1 | refine below_set ?_ GE272.out) | exact HB.out)⟩⟩
                                          · rw [if_neg c47] at H
                                            exact absurd H (by simp)
                                        · replace c46 := Bool.eq_false_iff.mpr c46
                                          subst c46
                                          have H1 : (if ((rd_T37 t267 x10_3).f1) = a1 then (limelightlaw15_ChainSides.l0 kj28 a1 a2 t267 x8_14 false (wrap64 (x10_3 + 1))) else (none)) = some r := by rw [if_neg (show ¬ (false = true) by decide)] at H; exact H
                                          clear H
                                          have H := H1
                                          clear H1
                                          by_cases c49 : ((rd_T37 t267 x10_3).f1) = a1
                                          · rw [if_pos c49] at H
                                            have c49b0 : (((rd_T37 t267 x10_3).f1) == a1) = true := beq_iff_eq.mpr c49
                                            have c49b1 : (((rd_T37 t267 x10_3).f1) != a1) = false := bne_eq_false_iff_eq.mpr c49
                                            clear c49
                                            have H' := Aside0.mk H
                                            clear H
                                            have hcz50_0 : wc.cell? ⟨gb272, 0, none⟩ = some (.int .i64 ((rd_T37 t267 x10_3).f0)) := (blk_cell BK272.out 0).trans rfl
                                            have hcz50_1 : wc.cell? ⟨gb272, 1, none⟩ = some (.int .i64 ((rd_T37 t267 x10_3).f1)) := (blk_cell BK272.out 1).trans rfl
                                            have hcz50_2 : wc.cell? ⟨gb272, 2, none⟩ = some (.int .i64 ((rd_T37 t267 x10_3).f2)) := (blk_cell BK272.out 2).trans rfl
                                            have hcz50_3 : wc.cell? ⟨gb272, 3, none⟩ = some (.bool ((rd_T37 t267 x10_3).f3)) := (blk_cell BK272.out 3).trans rfl
                                            have hcz50_4 : wc.cell? ⟨gb272, 4, none⟩ = some (.bool ((rd_T37 t267 x10_3).f4)) := (blk_cell BK272.out 4).trans rfl
                                            have hcz50_5 : wc.cell? ⟨gb272, 5, none⟩ = some (.bool ((rd_T37 t267 x10_3).f5)) := (blk_cell BK272.out 5).trans rfl
                                            have hfz50_0 := blk_frozen BK272.out 0
                                            have hfz50_1 := blk_frozen BK272.out 1
                                            have hfz50_2 := blk_frozen BK272.out 2
                                            have hfz50_3 := blk_frozen BK272.out 3
                                            have hfz50_4 := blk_frozen BK272.out 4
                                            have hfz50_5 := blk_frozen BK272.out 5
                                            go_wp2
                                            go_roundg kj28
                                            case measure => have := HJ3.out; have := HJ14.out; have := HK3.out; have := HJ21.out; have := HJ28.out; omega
                                            case rel => exact ⟨(false), (wrap64 (x10_3 + 1)), (by first | rfl | (simp; done) | (simp [*]; done)), (by first | rfl | (simp; done) | (simp [*]; done)), H', ⟨by have := HJ3.out; have := HJ14.out; have := HK3.out; have := HJ21.out; have := HJ28.out; omega⟩, ⟨by (with_reducible repeat (first | apply Kd.R_alloc | apply Kd.R_drewN | apply Kd.R_drew)); exact Kd.R_mono HO_7.out (fun _ hk => trivial)⟩, ⟨by repeat (first | (with_reducible first | exact HB.out | apply below_alloc | apply pw_below_drewN | apply below_drew1 | refine below_set ?_ GE272.out) | exact HB.out)⟩⟩
                                          · rw [if_neg c49] at H
                                            exact absurd H (by simp)
                                      · rw [if_neg c45] at H
                                        exact absurd H (by simp)
                  · rw [if_neg c21] at H
                    exact absurd H (by simp)
                · rw [if_neg c20] at H
                  have c20b0 : decide (x10_3 < (t267.length : Int)) = false := decide_eq_false c20
                  clear c20
                  by_cases c51 : (t267.length : Int) = x8_14
                  · rw [if_pos c51] at H
                    have c51b0 : ((t267.length : Int) == x8_14) = true := beq_iff_eq.mpr c51
                    have c51b1 : ((t267.length : Int) != x8_14) = false := bne_eq_false_iff_eq.mpr c51
                    clear c51
                    replace H := Option.bind_eq_some_iff.mp H
                    obtain ⟨t270, A520, H⟩ := H
                    replace H : (some t270) = some r := H
                    have A52 := Aside0.mk A520
                    clear A520
                    obtain rfl := Option.some.inj H
                    obtain ⟨Ao53, co53, eo53⟩ := Kd.R_slice HO_7.out
                    subst eo53
                    go_wp2_with (first | (go_at_call 9; (with_reducible refine (limelightlaw15_live.calls k3  t270 _ A52.out).mono ?_); rintro e w54 ⟨rfl, hb⟩; have n0_ := Aside0.mk (Kd.R_below (by (with_reducible repeat (first | apply Kd.R_alloc | apply Kd.R_drewN | apply Kd.R_drew)); exact HO_7.out) hb); have n1_ := Aside0.mk (below_step (by repeat (first | (with_reducible first | exact HB.out | apply below_alloc | apply pw_below_drewN | apply below_drew1) | exact HB.out)) hb); clear HO_7; clear HB; have HO_7 := n0_; have HB := n1_; clear n0_ n1_; (try clear hb); (try clear hb2); (try clear hk); (try clear hi)))
                    go_ret
                    exact ⟨by first | rfl | (simp [errW_none, errW_some] <;> rfl) | (simp [*, errW_none, errW_some] <;> rfl), by repeat (first | (with_reducible first | exact HB.out | apply below_alloc | apply pw_below_drewN | apply below_drew1) | exact HB.out)⟩
                  · rw [if_neg c51] at H
                    exact absurd H (by simp)

end Go.Proofs.Ytbbmdpmpbggmgaa.P
