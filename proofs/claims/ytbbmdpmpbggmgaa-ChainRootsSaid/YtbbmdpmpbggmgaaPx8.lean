-- printed by wip/tools/pp.sh (a patched copy of the print's program), for this claim.
import Derived.Test.YtbbmdpmpbggmgaaPx0
import Derived.Test.YtbbmdpmpbggmgaaPx2
import Derived.Test.YtbbmdpmpbggmgaaPx4
import Derived.Test.YtbbmdpmpbggmgaaPx7
namespace Go.Proofs.Ytbbmdpmpbggmgaa.P
open Go.RowKit Go.Proofs.YtbbmdpmpbggmgaaW.PrintWords Go.Proofs.YtbbmdpmpbggmgaaW.PrintLast Go.Proofs.YtbbmdpmpbggmgaaW.PrintMore
attribute [local go_sem] max2_int min2_int max_two min_two max_three min_three max_four min_four   -- for this text's walks alone
set_option linter.unusedVariables false
set_option linter.unusedSimpArgs false

/-! ### limelightlaw15_ChainRoots: function 7 -/
mutual
def limelightlaw15_ChainRoots.j0 : Nat → List (S40) → Int → Bool → Option (Bool)
  | 0, _, _, _ => none
  | k + 1, x0, x1, x17 => if x17 = true then ((limelightlaw15_live.f k).bind fun t369 => (some t369)) else (limelightlaw15_ChainRoots.l0 k x0 x1 0)
def limelightlaw15_ChainRoots.l0 : Nat → List (S40) → Int → Int → Option (Bool)
  | 0, _, _, _ => none
  | k + 1, x0, x1, x5 => if x5 < (x0.length : Int) then ((chain_Active.f k x0 x1 x5).bind fun t371 => (if 0 ≤ x5 then (if ((rd_T40 x0 x5).f0) = 3 then (limelightlaw15_ChainRoots.j2 k x0 x1 x5 t371 false) else (limelightlaw15_ChainRoots.j2 k x0 x1 x5 t371 (((rd_T40 x0 x5).f0) != 0))) else (none))) else ((limelightlaw15_live.f k).bind fun t370 => (some t370))
def limelightlaw15_ChainRoots.j2 : Nat → List (S40) → Int → Int → Int → Bool → Option (Bool)
  | 0, _, _, _, _, _ => none
  | k + 1, x0, x1, x5, x6, x42 => if x42 = true then (if x6 = (-1) then (limelightlaw15_ChainRoots.l0 k x0 x1 (wrap64 (x5 + 1))) else (none)) else (if x5 = x1 then (limelightlaw15_ChainRoots.j3 k x0 x1 x5 x6 false) else ((limelightref04_Above.f k x0 x5 x1).bind fun t374 => (limelightlaw15_ChainRoots.j3 k x0 x1 x5 x6 t374)))
def limelightlaw15_ChainRoots.j3 : Nat → List (S40) → Int → Int → Int → Bool → Option (Bool)
  | 0, _, _, _, _, _ => none
  | k + 1, x0, x1, x5, x6, x7 => if 0 ≤ x5 then (if x5 < (x0.length : Int) then (if ((rd_T40 x0 x5).f0) = 3 then (limelightlaw15_ChainRoots.j4 k x0 x1 x5 x6 x7 ((x6 != (-1)) != x7)) else (limelightlaw15_ChainRoots.j4 k x0 x1 x5 x6 x7 false)) else (none)) else (none)
def limelightlaw15_ChainRoots.j4 : Nat → List (S40) → Int → Int → Int → Bool → Bool → Option (Bool)
  | 0, _, _, _, _, _, _ => none
  | k + 1, x0, x1, x5, x6, x7, x65 => if x65 = true then (none) else (if 0 ≤ x5 then (if x5 < (x0.length : Int) then (if ((rd_T40 x0 x5).f0) = 0 then (if ((x6 != 0) != x7) = true then (none) else (limelightlaw15_ChainRoots.l0 k x0 x1 (wrap64 (x5 + 1)))) else (limelightlaw15_ChainRoots.l0 k x0 x1 (wrap64 (x5 + 1)))) else (none)) else (none))
end
def limelightlaw15_ChainRoots.f (k : Nat) (l0 : List (S40)) (a1 : Int) : Option (Bool) := (limelightref01_Few.f l0).bind fun t367 => (if t367 = true then ((limelightref03_Both.f l0 a1 a1).bind fun t368 => (limelightlaw15_ChainRoots.j0 k l0 a1 (!t368))) else (limelightlaw15_ChainRoots.j0 k l0 a1 true))
theorem limelightlaw15_ChainRoots.mono_l : ∀ k, (∀ y0 y1 y2, LeO (limelightlaw15_ChainRoots.j0 k y0 y1 y2) (limelightlaw15_ChainRoots.j0 (k + 1) y0 y1 y2)) ∧ (∀ y0 y1 y2, LeO (limelightlaw15_ChainRoots.l0 k y0 y1 y2) (limelightlaw15_ChainRoots.l0 (k + 1) y0 y1 y2)) ∧ (∀ y0 y1 y2 y3 y4, LeO (limelightlaw15_ChainRoots.j2 k y0 y1 y2 y3 y4) (limelightlaw15_ChainRoots.j2 (k + 1) y0 y1 y2 y3 y4)) ∧ (∀ y0 y1 y2 y3 y4, LeO (limelightlaw15_ChainRoots.j3 k y0 y1 y2 y3 y4) (limelightlaw15_ChainRoots.j3 (k + 1) y0 y1 y2 y3 y4)) ∧ (∀ y0 y1 y2 y3 y4 y5, LeO (limelightlaw15_ChainRoots.j4 k y0 y1 y2 y3 y4 y5) (limelightlaw15_ChainRoots.j4 (k + 1) y0 y1 y2 y3 y4 y5))
  | 0 => ⟨fun _ _ _ r h => by simp [limelightlaw15_ChainRoots.j0] at h, fun _ _ _ r h => by simp [limelightlaw15_ChainRoots.l0] at h, fun _ _ _ _ _ r h => by simp [limelightlaw15_ChainRoots.j2] at h, fun _ _ _ _ _ r h => by simp [limelightlaw15_ChainRoots.j3] at h, fun _ _ _ _ _ _ r h => by simp [limelightlaw15_ChainRoots.j4] at h⟩
  | k + 1 => by
    obtain ⟨ih0, ih1, ih2, ih3, ih4⟩ := limelightlaw15_ChainRoots.mono_l k
    refine ⟨?_, ?_, ?_, ?_, ?_⟩
    · intro y0 y1 y2
      unfold limelightlaw15_ChainRoots.j0
      repeat' first
      | (with_reducible exact ih0 _ _ _)
      | (with_reducible exact ih1 _ _ _)
      | (with_reducible exact ih2 _ _ _ _ _)
      | (with_reducible exact ih3 _ _ _ _ _)
      | (with_reducible exact ih4 _ _ _ _ _ _)
      | (with_reducible exact chain_Active.mono _ _ _ _)
      | (with_reducible exact limelightlaw15_live.mono _)
      | (with_reducible exact limelightref04_Above.mono _ _ _ _)
      | (with_reducible exact LeO.refl _)
      | (with_reducible exact LeO.none _)
      | (with_reducible refine LeO.ite ?_ ?_)
      | (with_reducible refine LeO.bind ?_ (fun _ => ?_))
      | exact ih0 _ _ _
      | exact ih1 _ _ _
      | exact ih2 _ _ _ _ _
      | exact ih3 _ _ _ _ _
      | exact ih4 _ _ _ _ _ _
      | exact chain_Active.mono _ _ _ _
      | exact limelightlaw15_live.mono _
      | exact limelightref04_Above.mono _ _ _ _
      | exact LeO.none _
      | refine LeO.ite ?_ ?_
      | refine LeO.bind ?_ (fun _ => ?_)
    · intro y0 y1 y2
      unfold limelightlaw15_ChainRoots.l0
      repeat' first
      | (with_reducible exact ih0 _ _ _)
      | (with_reducible exact ih1 _ _ _)
      | (with_reducible exact ih2 _ _ _ _ _)
      | (with_reducible exact ih3 _ _ _ _ _)
      | (with_reducible exact ih4 _ _ _ _ _ _)
      | (with_reducible exact chain_Active.mono _ _ _ _)
      | (with_reducible exact limelightlaw15_live.mono _)
      | (with_reducible exact limelightref04_Above.mono _ _ _ _)
      | (with_reducible exact LeO.refl _)
      | (with_reducible exact LeO.none _)
      | (with_reducible refine LeO.ite ?_ ?_)
      | (with_reducible refine LeO.bind ?_ (fun _ => ?_))
      | exact ih0 _ _ _
      | exact ih1 _ _ _
      | exact ih2 _ _ _ _ _
      | exact ih3 _ _ _ _ _
      | exact ih4 _ _ _ _ _ _
      | exact chain_Active.mono _ _ _ _
      | exact limelightlaw15_live.mono _
      | exact limelightref04_Above.mono _ _ _ _
      | exact LeO.none _
      | refine LeO.ite ?_ ?_
      | refine LeO.bind ?_ (fun _ => ?_)
    · intro y0 y1 y2 y3 y4
      unfold limelightlaw15_ChainRoots.j2
      repeat' first
      | (with_reducible exact ih0 _ _ _)
      | (with_reducible exact ih1 _ _ _)
      | (with_reducible exact ih2 _ _ _ _ _)
      | (with_reducible exact ih3 _ _ _ _ _)
      | (with_reducible exact ih4 _ _ _ _ _ _)
      | (with_reducible exact chain_Active.mono _ _ _ _)
      | (with_reducible exact limelightlaw15_live.mono _)
      | (with_reducible exact limelightref04_Above.mono _ _ _ _)
      | (with_reducible exact LeO.refl _)
      | (with_reducible exact LeO.none _)
      | (with_reducible refine LeO.ite ?_ ?_)
      | (with_reducible refine LeO.bind ?_ (fun _ => ?_))
      | exact ih0 _ _ _
      | exact ih1 _ _ _
      | exact ih2 _ _ _ _ _
      | exact ih3 _ _ _ _ _
      | exact ih4 _ _ _ _ _ _
      | exact chain_Active.mono _ _ _ _
      | exact limelightlaw15_live.mono _
      | exact limelightref04_Above.mono _ _ _ _
      | exact LeO.none _
      | refine LeO.ite ?_ ?_
      | refine LeO.bind ?_ (fun _ => ?_)
    · intro y0 y1 y2 y3 y4
      unfold limelightlaw15_ChainRoots.j3
      repeat' first
      | (with_reducible exact ih0 _ _ _)
      | (with_reducible exact ih1 _ _ _)
      | (with_reducible exact ih2 _ _ _ _ _)
      | (with_reducible exact ih3 _ _ _ _ _)
      | (with_reducible exact ih4 _ _ _ _ _ _)
      | (with_reducible exact chain_Active.mono _ _ _ _)
      | (with_reducible exact limelightlaw15_live.mono _)
      | (with_reducible exact limelightref04_Above.mono _ _ _ _)
      | (with_reducible exact LeO.refl _)
      | (with_reducible exact LeO.none _)
      | (with_reducible refine LeO.ite ?_ ?_)
      | (with_reducible refine LeO.bind ?_ (fun _ => ?_))
      | exact ih0 _ _ _
      | exact ih1 _ _ _
      | exact ih2 _ _ _ _ _
      | exact ih3 _ _ _ _ _
      | exact ih4 _ _ _ _ _ _
      | exact chain_Active.mono _ _ _ _
      | exact limelightlaw15_live.mono _
      | exact limelightref04_Above.mono _ _ _ _
      | exact LeO.none _
      | refine LeO.ite ?_ ?_
      | refine LeO.bind ?_ (fun _ => ?_)
    · intro y0 y1 y2 y3 y4 y5
      unfold limelightlaw15_ChainRoots.j4
      repeat' first
      | (with_reducible exact ih0 _ _ _)
      | (with_reducible exact ih1 _ _ _)
      | (with_reducible exact ih2 _ _ _ _ _)
      | (with_reducible exact ih3 _ _ _ _ _)
      | (with_reducible exact ih4 _ _ _ _ _ _)
      | (with_reducible exact chain_Active.mono _ _ _ _)
      | (with_reducible exact limelightlaw15_live.mono _)
      | (with_reducible exact limelightref04_Above.mono _ _ _ _)
      | (with_reducible exact LeO.refl _)
      | (with_reducible exact LeO.none _)
      | (with_reducible refine LeO.ite ?_ ?_)
      | (with_reducible refine LeO.bind ?_ (fun _ => ?_))
      | exact ih0 _ _ _
      | exact ih1 _ _ _
      | exact ih2 _ _ _ _ _
      | exact ih3 _ _ _ _ _
      | exact ih4 _ _ _ _ _ _
      | exact chain_Active.mono _ _ _ _
      | exact limelightlaw15_live.mono _
      | exact limelightref04_Above.mono _ _ _ _
      | exact LeO.none _
      | refine LeO.ite ?_ ?_
      | refine LeO.bind ?_ (fun _ => ?_)
theorem limelightlaw15_ChainRoots.mono : ∀ a0 a1 k, LeO (limelightlaw15_ChainRoots.f k a0 a1) (limelightlaw15_ChainRoots.f (k + 1) a0 a1) := by
  intro a0 a1 k
  obtain ⟨ih0, ih1, ih2, ih3, ih4⟩ := limelightlaw15_ChainRoots.mono_l k
  unfold limelightlaw15_ChainRoots.f
  repeat' first
      | (with_reducible exact ih0 _ _ _)
      | (with_reducible exact ih1 _ _ _)
      | (with_reducible exact ih2 _ _ _ _ _)
      | (with_reducible exact ih3 _ _ _ _ _)
      | (with_reducible exact ih4 _ _ _ _ _ _)
      | (with_reducible exact chain_Active.mono _ _ _ _)
      | (with_reducible exact limelightlaw15_live.mono _)
      | (with_reducible exact limelightref04_Above.mono _ _ _ _)
      | (with_reducible exact LeO.refl _)
      | (with_reducible exact LeO.none _)
      | (with_reducible refine LeO.ite ?_ ?_)
      | (with_reducible refine LeO.bind ?_ (fun _ => ?_))
      | exact ih0 _ _ _
      | exact ih1 _ _ _
      | exact ih2 _ _ _ _ _
      | exact ih3 _ _ _ _ _
      | exact ih4 _ _ _ _ _ _
      | exact chain_Active.mono _ _ _ _
      | exact limelightlaw15_live.mono _
      | exact limelightref04_Above.mono _ _ _ _
      | exact LeO.none _
      | refine LeO.ite ?_ ?_
      | refine LeO.bind ?_ (fun _ => ?_)
set_option maxHeartbeats 8000000 in
set_option maxRecDepth 100000 in
theorem limelightlaw15_ChainRoots.calls (k : Nat) (A0 : Option Addr) (c0 : Nat) (l0 : List (S40)) (a1 : Int) (r : Bool) (w : World) (hr0 : Kd.C k40 w A0 l0.length l0) (hc0 : l0.length ≤ c0) (h : limelightlaw15_ChainRoots.f k l0 a1 = some r) :
    Calls Try.prog 7 #[.slice A0 l0.length c0, .int .i64 a1] w fun e w' => e = .returned (.bool r) ∧ Below w.heap.size w w' := by
  have HR0 := Aside0.mk hr0
  have HC0 := Aside0.mk hc0
  clear hr0 hc0
  have HB := Aside0.mk (Below.refl w.heap.size w)
  have H : ((limelightref01_Few.f l0).bind fun t367 => (if t367 = true then ((limelightref03_Both.f l0 a1 a1).bind fun t368 => (limelightlaw15_ChainRoots.j0 k l0 a1 (!t368))) else (limelightlaw15_ChainRoots.j0 k l0 a1 true))) = some r := h
  clear h
  have HC3 := Aside0.mk H
  clear H
  go_enter Try.func7, Try.ntmps7
  go_upto_region 1 with (fail)
  go_cut [17] (fun v17 wc => ∃ (kq : Nat) (x17_2 : Bool), v17 = .bool x17_2 ∧ Aside0 (limelightlaw15_ChainRoots.j0 kq l0 a1 x17_2 = some r) ∧ Aside0 (kq ≤ k) ∧ Aside0 (Below w.heap.size w wc))
  case first =>
    have H := HC3.out
    clear HC3
    replace H := Option.bind_eq_some_iff.mp H
    obtain ⟨t367, A40, H⟩ := H
    replace H : (if t367 = true then ((limelightref03_Both.f l0 a1 a1).bind fun t368 => (limelightlaw15_ChainRoots.j0 k l0 a1 (!t368))) else (limelightlaw15_ChainRoots.j0 k l0 a1 true)) = some r := H
    have A4 := Aside0.mk A40
    clear A40
    by_cases c5 : t367 = true
    · subst c5
      have H1 : ((limelightref03_Both.f l0 a1 a1).bind fun t368 => (limelightlaw15_ChainRoots.j0 k l0 a1 (!t368))) = some r := by rw [if_pos rfl] at H; exact H
      clear H
      have H := H1
      clear H1
      replace H := Option.bind_eq_some_iff.mp H
      obtain ⟨t368, A60, H⟩ := H
      replace H : (limelightlaw15_ChainRoots.j0 k l0 a1 (!t368)) = some r := H
      have A6 := Aside0.mk A60
      clear A60
      have H' := Aside0.mk H
      clear H
      go_wp2_with (first | ((with_reducible refine gate_callee (f := 21) rfl ?_); refine goesL_ (some 9) rfl rfl Try.func21 (by kernel_rfl) rfl #[.slice A0 l0.length c0] rfl (by (try simp only [List.map_toArray, List.map_cons, List.map_nil]); first | done | rfl | (simp only [List.length_drop, List.length_take]; rfl)) ?_; (with_reducible refine (limelightref01_Few.calls _ _ l0 true _ ?side1 ?side2 A4.out).mono ?_); (case side1 => repeat (first | exact (Kd.C_below HR0.out HB.out) | (with_reducible refine Kd.C_alloc ?_ _) | (with_reducible refine Kd.C_drewN ?_ _) | (with_reducible refine Kd.C_drew ?_))); (case side2 => exact HC0.out); rintro e w7 ⟨rfl, hb⟩; refine ⟨_, rfl, ?_⟩; have n0_ := Aside0.mk (below_step (by repeat (first | (with_reducible first | exact HB.out | apply below_alloc | apply pw_below_drewN | apply below_drew1) | exact HB.out)) hb); clear HB; have HB := n0_; clear n0_; (try clear hb); (try clear hb2); (try clear hk); (try clear hi)) | (go_at_call 11; (with_reducible refine (limelightref03_Both.calls _ _ l0 a1 a1 t368 _ ?side1 ?side2 A6.out).mono ?_); (case side1 => repeat (first | exact (Kd.C_below HR0.out HB.out) | (with_reducible refine Kd.C_alloc ?_ _) | (with_reducible refine Kd.C_drewN ?_ _) | (with_reducible refine Kd.C_drew ?_))); (case side2 => exact HC0.out); rintro e w8 ⟨rfl, hb⟩; have n0_ := Aside0.mk (below_step (by repeat (first | (with_reducible first | exact HB.out | apply below_alloc | apply pw_below_drewN | apply below_drew1) | exact HB.out)) hb); clear HB; have HB := n0_; clear n0_; (try clear hb); (try clear hb2); (try clear hk); (try clear hi)))
      go_meet
      case rel => exact ⟨_, (!t368), (by first | rfl | (simp; done) | (simp [*]; done)), H', ⟨by first | omega | exact Nat.le_refl _⟩, ⟨by repeat (first | (with_reducible first | exact HB.out | apply below_alloc | apply pw_below_drewN | apply below_drew1) | exact HB.out)⟩⟩
    · replace c5 := Bool.eq_false_iff.mpr c5
      subst c5
      have H1 : (limelightlaw15_ChainRoots.j0 k l0 a1 true) = some r := by rw [if_neg (show ¬ (false = true) by decide)] at H; exact H
      clear H
      have H := H1
      clear H1
      have H' := Aside0.mk H
      clear H
      go_wp2_with (first | ((with_reducible refine gate_callee (f := 21) rfl ?_); refine goesL_ (some 9) rfl rfl Try.func21 (by kernel_rfl) rfl #[.slice A0 l0.length c0] rfl (by (try simp only [List.map_toArray, List.map_cons, List.map_nil]); first | done | rfl | (simp only [List.length_drop, List.length_take]; rfl)) ?_; (with_reducible refine (limelightref01_Few.calls _ _ l0 false _ ?side1 ?side2 A4.out).mono ?_); (case side1 => repeat (first | exact (Kd.C_below HR0.out HB.out) | (with_reducible refine Kd.C_alloc ?_ _) | (with_reducible refine Kd.C_drewN ?_ _) | (with_reducible refine Kd.C_drew ?_))); (case side2 => exact HC0.out); rintro e w9 ⟨rfl, hb⟩; refine ⟨_, rfl, ?_⟩; have n0_ := Aside0.mk (below_step (by repeat (first | (with_reducible first | exact HB.out | apply below_alloc | apply pw_below_drewN | apply below_drew1) | exact HB.out)) hb); clear HB; have HB := n0_; clear n0_; (try clear hb); (try clear hb2); (try clear hk); (try clear hi)))
      go_meet
      case rel => exact ⟨_, (true), (by first | rfl | (simp; done) | (simp [*]; done)), H', ⟨by first | omega | exact Nat.le_refl _⟩, ⟨by repeat (first | (with_reducible first | exact HB.out | apply below_alloc | apply pw_below_drewN | apply below_drew1) | exact HB.out)⟩⟩
  case rest =>
    clear HC3
    try clear c2
    try clear p2
    try clear c5
    try clear c7
    obtain ⟨kq, x17_2, rfl, HA, HJ2, HB⟩ := hcut
    cases kq with
    | zero => exact absurd HA.out (by simp [limelightlaw15_ChainRoots.j0])
    | succ kj2 =>
      have H := HA.out
      clear HA
      simp only [limelightlaw15_ChainRoots.j0] at H
      by_cases c10 : x17_2 = true
      · subst c10
        have H1 : ((limelightlaw15_live.f kj2).bind fun t369 => (some t369)) = some r := by rw [if_pos rfl] at H; exact H
        clear H
        have H := H1
        clear H1
        replace H := Option.bind_eq_some_iff.mp H
        obtain ⟨t369, A110, H⟩ := H
        replace H : (some t369) = some r := H
        have A11 := Aside0.mk A110
        clear A110
        obtain rfl := Option.some.inj H
        go_wp2_with (first | ((with_reducible refine gate_callee (f := 9) rfl ?_); refine goesL_ (some 18) rfl rfl Try.func9 (by kernel_rfl) rfl #[] rfl (by (try simp only [List.map_toArray, List.map_cons, List.map_nil]); first | done | rfl | (simp only [List.length_drop, List.length_take]; rfl)) ?_; (with_reducible refine (limelightlaw15_live.calls kj2  t369 _ A11.out).mono ?_); rintro e w12 ⟨rfl, hb⟩; refine ⟨_, rfl, ?_⟩; have n0_ := Aside0.mk (below_step (by repeat (first | (with_reducible first | exact HB.out | apply below_alloc | apply pw_below_drewN | apply below_drew1) | exact HB.out)) hb); clear HB; have HB := n0_; clear n0_; (try clear hb); (try clear hb2); (try clear hk); (try clear hi)))
        go_ret
        exact ⟨by first | rfl | (simp [errW_none, errW_some] <;> rfl) | (simp [*, errW_none, errW_some] <;> rfl), by repeat (first | (with_reducible first | exact HB.out | apply below_alloc | apply pw_below_drewN | apply below_drew1) | exact HB.out)⟩
      · replace c10 := Bool.eq_false_iff.mpr c10
        subst c10
        have H1 : (limelightlaw15_ChainRoots.l0 kj2 l0 a1 0) = some r := by rw [if_neg (show ¬ (false = true) by decide)] at H; exact H
        clear H
        have H := H1
        clear H1
        have H' := Aside0.mk H
        clear H
        go_wp2
        go_loopg [5] kj2 (fun kq v5 w' => ∃ (x5_2 : Int), v5 = .int .i64 x5_2 ∧ Aside0 (limelightlaw15_ChainRoots.l0 kq l0 a1 x5_2 = some r) ∧ Aside0 (kq ≤ kj2) ∧ Aside0 (Below w.heap.size w w'))
        case atStart => exact ⟨(0), (by first | rfl | (simp; done) | (simp [*]; done)), H', ⟨Nat.le_refl _⟩, ⟨by repeat (first | (with_reducible first | exact HB.out | apply below_alloc | apply pw_below_drewN | apply below_drew1) | exact HB.out)⟩⟩
        case round =>
          clear H'
          try clear c1
          try clear c2
          try clear p2
          try clear c5
          try clear c7
          try clear c9
          try clear c10
          try clear p2
          obtain ⟨x5_2, rfl, HA, HK2, HB⟩ := hrel
          cases gk with
          | zero => exact absurd HA.out (by simp [limelightlaw15_ChainRoots.l0])
          | succ k2 =>
            have H := HA.out
            clear HA
            simp only [limelightlaw15_ChainRoots.l0] at H
            by_cases c13 : x5_2 < (l0.length : Int)
            · rw [if_pos c13] at H
              have c13b0 : decide (x5_2 < (l0.length : Int)) = true := decide_eq_true c13
              clear c13
              replace H := Option.bind_eq_some_iff.mp H
              obtain ⟨t371, A140, H⟩ := H
              replace H : (if 0 ≤ x5_2 then (if ((rd_T40 l0 x5_2).f0) = 3 then (limelightlaw15_ChainRoots.j2 k2 l0 a1 x5_2 t371 false) else (limelightlaw15_ChainRoots.j2 k2 l0 a1 x5_2 t371 (((rd_T40 l0 x5_2).f0) != 0))) else (none)) = some r := H
              have A14 := Aside0.mk A140
              clear A140
              have HC15 := Aside0.mk H
              clear H
              go_upto_region 7 with (first | ((with_reducible refine gate_callee (f := 12) rfl ?_); refine goesL_ (some 28) rfl rfl Try.func12 (by kernel_rfl) rfl #[.slice A0 l0.length c0, .int .i64 a1, .int .i64 x5_2] rfl (by (try simp only [List.map_toArray, List.map_cons, List.map_nil]); first | done | rfl | (simp only [List.length_drop, List.length_take]; rfl)) ?_; (with_reducible refine (chain_Active.calls k2 _ _ l0 a1 x5_2 t371 _ ?side1 ?side2 A14.out).mono ?_); (case side1 => repeat (first | exact (Kd.C_below HR0.out HB.out) | (with_reducible refine Kd.C_alloc ?_ _) | (with_reducible refine Kd.C_drewN ?_ _) | (with_reducible refine Kd.C_drew ?_))); (case side2 => exact HC0.out); rintro e w16 ⟨rfl, hb⟩; refine ⟨_, rfl, ?_⟩; have n0_ := Aside0.mk (below_step (by repeat (first | (with_reducible first | exact HB.out | apply below_alloc | apply pw_below_drewN | apply below_drew1) | exact HB.out)) hb); clear HB; have HB := n0_; clear n0_; (try clear hb); (try clear hb2); (try clear hk); (try clear hi)))
              (try simp only [Act.put, List.setIfInBounds_toArray, List.set_cons_zero, List.set_cons_succ])
              go_cut [42] (fun v42 wc => ∃ (kq : Nat) (x42_14 : Bool), v42 = .bool x42_14 ∧ Aside0 (limelightlaw15_ChainRoots.j2 kq l0 a1 x5_2 t371 x42_14 = some r) ∧ Aside0 (kq ≤ k2) ∧ Aside0 (Below w.heap.size w wc))
              case first =>
                have H := HC15.out
                clear HC15
                by_cases c17 : 0 ≤ x5_2
                · rw [if_pos c17] at H
                  have c17b0 : decide (0 ≤ x5_2) = true := decide_eq_true c17
                  clear c17
                  (first | rw [c17b0] | (simp only [i64_w, i32_w]; rw [c17b0]) | skip)
                  by_cases c18 : ((rd_T40 l0 x5_2).f0) = 3
                  · rw [if_pos c18] at H
                    have c18b0 : (((rd_T40 l0 x5_2).f0) == 3) = true := beq_iff_eq.mpr c18
                    have c18b1 : (((rd_T40 l0 x5_2).f0) != 3) = false := bne_eq_false_iff_eq.mpr c18
                    clear c18
                    have H' := Aside0.mk H
                    clear H
                    have p372 : 0 ≤ (x5_2 : Int) := of_decide_eq_true (by first | (with_reducible assumption) | assumption)
                    have q372 : x5_2 < (l0.length : Int) := of_decide_eq_true (by first | (with_reducible assumption) | assumption)
                    obtain ⟨ad372, A372_3, c372_3, A372_6, c372_6, e372, hx372_0, hx372_1, hx372_2, hx372_3, hx372_4, hx372_5, hx372_6, hl372_3, hi372_3, hl372_6, hi372_6⟩ := at_T40 HR0.out x5_2 p372 q372
                    cases e372
                    replace hx372_0 := (HB.out.cell (World.block_lt_of_cell? w _ hx372_0)).trans hx372_0
                    replace hx372_1 := (HB.out.cell (World.block_lt_of_cell? w _ hx372_1)).trans hx372_1
                    replace hx372_2 := (HB.out.cell (World.block_lt_of_cell? w _ hx372_2)).trans hx372_2
                    replace hx372_3 := (HB.out.cell (World.block_lt_of_cell? w _ hx372_3)).trans hx372_3
                    replace hx372_4 := (HB.out.cell (World.block_lt_of_cell? w _ hx372_4)).trans hx372_4
                    replace hx372_5 := (HB.out.cell (World.block_lt_of_cell? w _ hx372_5)).trans hx372_5
                    replace hx372_6 := (HB.out.cell (World.block_lt_of_cell? w _ hx372_6)).trans hx372_6
                    have HR372_3 := Aside0.mk hi372_3
                    have HC372_3 := Aside0.mk hl372_3
                    clear hi372_3 hl372_3
                    have HR372_6 := Aside0.mk hi372_6
                    have HC372_6 := Aside0.mk hl372_6
                    clear hi372_6 hl372_6
                    replace p372 := eq_true p372
                    replace q372 := eq_true q372
                    go_wp2
                    go_meet
                    case rel => exact ⟨_, (false), (by first | rfl | (simp; done) | (simp [*]; done)), H', ⟨by have := HJ2.out; have := HK2.out; first | omega | exact Nat.le_refl _⟩, ⟨by repeat (first | (with_reducible first | exact HB.out | apply below_alloc | apply pw_below_drewN | apply below_drew1) | exact HB.out)⟩⟩
                  · rw [if_neg c18] at H
                    have c18b0 : (((rd_T40 l0 x5_2).f0) == 3) = false := beq_eq_false_iff_ne.mpr c18
                    have c18b1 : (((rd_T40 l0 x5_2).f0) != 3) = true := bne_iff_ne.mpr c18
                    have H' := Aside0.mk H
                    clear H
                    have p372 : 0 ≤ (x5_2 : Int) := of_decide_eq_true (by first | (with_reducible assumption) | assumption)
                    have q372 : x5_2 < (l0.length : Int) := of_decide_eq_true (by first | (with_reducible assumption) | assumption)
                    obtain ⟨ad372, A372_3, c372_3, A372_6, c372_6, e372, hx372_0, hx372_1, hx372_2, hx372_3, hx372_4, hx372_5, hx372_6, hl372_3, hi372_3, hl372_6, hi372_6⟩ := at_T40 HR0.out x5_2 p372 q372
                    cases e372
                    replace hx372_0 := (HB.out.cell (World.block_lt_of_cell? w _ hx372_0)).trans hx372_0
                    replace hx372_1 := (HB.out.cell (World.block_lt_of_cell? w _ hx372_1)).trans hx372_1
                    replace hx372_2 := (HB.out.cell (World.block_lt_of_cell? w _ hx372_2)).trans hx372_2
                    replace hx372_3 := (HB.out.cell (World.block_lt_of_cell? w _ hx372_3)).trans hx372_3
                    replace hx372_4 := (HB.out.cell (World.block_lt_of_cell? w _ hx372_4)).trans hx372_4
                    replace hx372_5 := (HB.out.cell (World.block_lt_of_cell? w _ hx372_5)).trans hx372_5
                    replace hx372_6 := (HB.out.cell (World.block_lt_of_cell? w _ hx372_6)).trans hx372_6
                    have HR372_3 := Aside0.mk hi372_3
                    have HC372_3 := Aside0.mk hl372_3
                    clear hi372_3 hl372_3
                    have HR372_6 := Aside0.mk hi372_6
                    have HC372_6 := Aside0.mk hl372_6
                    clear hi372_6 hl372_6
                    replace p372 := eq_true p372
                    replace q372 := eq_true q372
                    have p373 : 0 ≤ (x5_2 : Int) := of_decide_eq_true (by first | (with_reducible assumption) | assumption)
                    have q373 : x5_2 < (l0.length : Int) := of_decide_eq_true (by first | (with_reducible assumption) | assumption)
                    obtain ⟨ad373, A373_3, c373_3, A373_6, c373_6, e373, hx373_0, hx373_1, hx373_2, hx373_3, hx373_4, hx373_5, hx373_6, hl373_3, hi373_3, hl373_6, hi373_6⟩ := at_T40 HR0.out x5_2 p373 q373
                    obtain rfl : ad372 = ad373 := (by injection e373)
                    replace hx373_0 := (HB.out.cell (World.block_lt_of_cell? w _ hx373_0)).trans hx373_0
                    replace hx373_1 := (HB.out.cell (World.block_lt_of_cell? w _ hx373_1)).trans hx373_1
                    replace hx373_2 := (HB.out.cell (World.block_lt_of_cell? w _ hx373_2)).trans hx373_2
                    replace hx373_3 := (HB.out.cell (World.block_lt_of_cell? w _ hx373_3)).trans hx373_3
                    replace hx373_4 := (HB.out.cell (World.block_lt_of_cell? w _ hx373_4)).trans hx373_4
                    replace hx373_5 := (HB.out.cell (World.block_lt_of_cell? w _ hx373_5)).trans hx373_5
                    replace hx373_6 := (HB.out.cell (World.block_lt_of_cell? w _ hx373_6)).trans hx373_6
                    have HR373_3 := Aside0.mk hi373_3
                    have HC373_3 := Aside0.mk hl373_3
                    clear hi373_3 hl373_3
                    have HR373_6 := Aside0.mk hi373_6
                    have HC373_6 := Aside0.mk hl373_6
                    clear hi373_6 hl373_6
                    replace p373 := eq_true p373
                    replace q373 := eq_true q373
                    have ea_ := Option.some.inj (hx372_3.symm.trans hx373_3)
                    injection ea_ with ea_ en_ ec_
                    subst ea_
                    subst ec_
                    clear en_
                    have ea_ := Option.some.inj (hx372_6.symm.trans hx373_6)
                    injection ea_ with ea_ en_ ec_
                    subst ea_
                    subst ec_
                    clear en_
                    go_wp2
                    go_meet
                    case rel => exact ⟨_, ((((rd_T40 l0 x5_2).f0) != 0)), (by first | rfl | (simp; done) | (simp [*]; done)), H', ⟨by have := HJ2.out; have := HK2.out; first | omega | exact Nat.le_refl _⟩, ⟨by repeat (first | (with_reducible first | exact HB.out | apply below_alloc | apply pw_below_drewN | apply below_drew1) | exact HB.out)⟩⟩
                · rw [if_neg c17] at H
                  exact absurd H (by simp)
              case rest =>
                clear HC15
                try clear c1
                try clear c2
                try clear p2
                try clear c3
                try clear p3
                try clear q3
                try clear hx3
                try clear c5
                try clear c7
                try clear c9
                try clear c10
                try clear c12
                try clear c13
                try clear c13b0
                try clear c17
                try clear c17b0
                try clear c18
                try clear c18b0
                try clear c18b1
                try clear hx372_0
                try clear hx372_1
                try clear hx372_2
                try clear hx372_3
                try clear hx372_4
                try clear hx372_5
                try clear hx372_6
                try clear hx373_0
                try clear hx373_1
                try clear hx373_2
                try clear hx373_3
                try clear hx373_4
                try clear hx373_5
                try clear hx373_6
                try clear p2
                try clear p372
                try clear p373
                try clear q372
                try clear q373
                obtain ⟨kq, x42_14, rfl, HA, HJ14, HB⟩ := hcut
                cases kq with
                | zero => exact absurd HA.out (by simp [limelightlaw15_ChainRoots.j2])
                | succ kj14 =>
                  have H := HA.out
                  clear HA
                  simp only [limelightlaw15_ChainRoots.j2] at H
                  by_cases c19 : x42_14 = true
                  · subst c19
                    have H1 : (if t371 = (-1) then (limelightlaw15_ChainRoots.l0 kj14 l0 a1 (wrap64 (x5_2 + 1))) else (none)) = some r := by rw [if_pos rfl] at H; exact H
                    clear H
                    have H := H1
                    clear H1
                    by_cases c20 : t371 = (-1)
                    · rw [if_pos c20] at H
                      have c20b0 : (t371 == (-1)) = true := beq_iff_eq.mpr c20
                      have c20b1 : (t371 != (-1)) = false := bne_eq_false_iff_eq.mpr c20
                      clear c20
                      have H' := Aside0.mk H
                      clear H
                      go_wp2
                      go_roundg kj14
                      case measure => have := HJ2.out; have := HK2.out; have := HJ14.out; omega
                      case rel => exact ⟨(wrap64 (x5_2 + 1)), (by first | rfl | (simp; done) | (simp [*]; done)), H', ⟨by have := HJ2.out; have := HK2.out; have := HJ14.out; omega⟩, ⟨by repeat (first | (with_reducible first | exact HB.out | apply below_alloc | apply pw_below_drewN | apply below_drew1) | exact HB.out)⟩⟩
                    · rw [if_neg c20] at H
                      exact absurd H (by simp)
                  · replace c19 := Bool.eq_false_iff.mpr c19
                    subst c19
                    have H1 : (if x5_2 = a1 then (limelightlaw15_ChainRoots.j3 kj14 l0 a1 x5_2 t371 false) else ((limelightref04_Above.f kj14 l0 x5_2 a1).bind fun t374 => (limelightlaw15_ChainRoots.j3 kj14 l0 a1 x5_2 t371 t374))) = some r := by rw [if_neg (show ¬ (false = true) by decide)] at H; exact H
                    clear H
                    have H := H1
                    clear H1
                    have HC21 := Aside0.mk H
                    clear H
                    go_upto_region 10 with (fail)
                    go_cut [7] (fun v7 wc => ∃ (kq : Nat) (x7_20 : Bool), v7 = .bool x7_20 ∧ Aside0 (limelightlaw15_ChainRoots.j3 kq l0 a1 x5_2 t371 x7_20 = some r) ∧ Aside0 (kq ≤ kj14) ∧ Aside0 (Below w.heap.size w wc))
                    case first =>
                      have H := HC21.out
                      clear HC21
                      by_cases c22 : x5_2 = a1
                      · rw [if_pos c22] at H
                        have c22b0 : (x5_2 == a1) = true := beq_iff_eq.mpr c22
                        have c22b1 : (x5_2 != a1) = false := bne_eq_false_iff_eq.mpr c22
                        clear c22
                        (first | rw [c22b0] | (simp only [i64_w, i32_w]; rw [c22b0]) | skip)
                        have H' := Aside0.mk H
                        clear H
                        go_wp2
                        go_meet
                        case rel => exact ⟨_, (false), (by first | rfl | (simp; done) | (simp [*]; done)), H', ⟨by have := HJ2.out; have := HK2.out; have := HJ14.out; first | omega | exact Nat.le_refl _⟩, ⟨by repeat (first | (with_reducible first | exact HB.out | apply below_alloc | apply pw_below_drewN | apply below_drew1) | exact HB.out)⟩⟩
                      · rw [if_neg c22] at H
                        have c22b0 : (x5_2 == a1) = false := beq_eq_false_iff_ne.mpr c22
                        have c22b1 : (x5_2 != a1) = true := bne_iff_ne.mpr c22
                        (first | rw [c22b0] | (simp only [i64_w, i32_w]; rw [c22b0]) | skip)
                        replace H := Option.bind_eq_some_iff.mp H
                        obtain ⟨t374, A230, H⟩ := H
                        replace H : (limelightlaw15_ChainRoots.j3 kj14 l0 a1 x5_2 t371 t374) = some r := H
                        have A23 := Aside0.mk A230
                        clear A230
                        have H' := Aside0.mk H
                        clear H
                        go_wp2_with (first | (go_at_call 19; (with_reducible refine (limelightref04_Above.calls kj14 _ _ l0 x5_2 a1 t374 _ ?side1 ?side2 A23.out).mono ?_); (case side1 => repeat (first | exact (Kd.C_below HR0.out HB.out) | (with_reducible refine Kd.C_alloc ?_ _) | (with_reducible refine Kd.C_drewN ?_ _) | (with_reducible refine Kd.C_drew ?_))); (case side2 => exact HC0.out); rintro e w24 ⟨rfl, hb⟩; have n0_ := Aside0.mk (below_step (by repeat (first | (with_reducible first | exact HB.out | apply below_alloc | apply pw_below_drewN | apply below_drew1) | exact HB.out)) hb); clear HB; have HB := n0_; clear n0_; (try clear hb); (try clear hb2); (try clear hk); (try clear hi)))
                        go_meet
                        case rel => exact ⟨_, (t374), (by first | rfl | (simp; done) | (simp [*]; done)), H', ⟨by have := HJ2.out; have := HK2.out; have := HJ14.out; first | omega | exact Nat.le_refl _⟩, ⟨by repeat (first | (with_reducible first | exact HB.out | apply below_alloc | apply pw_below_drewN | apply below_drew1) | exact HB.out)⟩⟩
                    case rest =>
                      clear HC21
                      try clear c1
                      try clear c2
                      try clear p2
                      try clear c3
                      try clear p3
                      try clear q3
                      try clear hx3
                      try clear c5
                      try clear p6
                      try clear c7
                      try clear c9
                      try clear c10
                      try clear c12
                      try clear c13
                      try clear c13b0
                      try clear c17
                      try clear c17b0
                      try clear c18
                      try clear c18b0
                      try clear c18b1
                      try clear c19
                      try clear c20
                      try clear c20b0
                      try clear c20b1
                      try clear c21
                      try clear c22
                      try clear c22b0
                      try clear c22b1
                      try clear hx372_0
                      try clear hx372_1
                      try clear hx372_2
                      try clear hx372_3
                      try clear hx372_4
                      try clear hx372_5
                      try clear hx372_6
                      try clear hx373_0
                      try clear hx373_1
                      try clear hx373_2
                      try clear hx373_3
                      try clear hx373_4
                      try clear hx373_5
                      try clear hx373_6
                      try clear p2
                      try clear p3
                      try clear p372
                      try clear p373
                      try clear q3
                      try clear q372
                      try clear q373
                      obtain ⟨kq, x7_20, rfl, HA, HJ20, HB⟩ := hcut
                      cases kq with
                      | zero => exact absurd HA.out (by simp [limelightlaw15_ChainRoots.j3])
                      | succ kj20 =>
                        have H := HA.out
                        clear HA
                        simp only [limelightlaw15_ChainRoots.j3] at H
                        have HC25 := Aside0.mk H
                        clear H
                        go_upto_region 11 with (fail)
                        go_cut [65] (fun v65 wc => ∃ (kq : Nat) (x65_24 : Bool), v65 = .bool x65_24 ∧ Aside0 (limelightlaw15_ChainRoots.j4 kq l0 a1 x5_2 t371 x7_20 x65_24 = some r) ∧ Aside0 (kq ≤ kj20) ∧ Aside0 (Below w.heap.size w wc))
                        case first =>
                          have H := HC25.out
                          clear HC25
                          by_cases c26 : 0 ≤ x5_2
                          · rw [if_pos c26] at H
                            have c26b0 : decide (0 ≤ x5_2) = true := decide_eq_true c26
                            clear c26
                            (first | rw [c26b0] | (simp only [i64_w, i32_w]; rw [c26b0]) | skip)
                            by_cases c27 : x5_2 < (l0.length : Int)
                            · rw [if_pos c27] at H
                              have c27b0 : decide (x5_2 < (l0.length : Int)) = true := decide_eq_true c27
                              clear c27
                              by_cases c28 : ((rd_T40 l0 x5_2).f0) = 3
                              · rw [if_pos c28] at H
                                have c28b0 : (((rd_T40 l0 x5_2).f0) == 3) = true := beq_iff_eq.mpr c28
                                have c28b1 : (((rd_T40 l0 x5_2).f0) != 3) = false := bne_eq_false_iff_eq.mpr c28
                                clear c28
                                have H' := Aside0.mk H
                                clear H
                                have p375 : 0 ≤ (x5_2 : Int) := of_decide_eq_true (by first | (with_reducible assumption) | assumption)
                                have q375 : x5_2 < (l0.length : Int) := of_decide_eq_true (by first | (with_reducible assumption) | assumption)
                                obtain ⟨ad375, A375_3, c375_3, A375_6, c375_6, e375, hx375_0, hx375_1, hx375_2, hx375_3, hx375_4, hx375_5, hx375_6, hl375_3, hi375_3, hl375_6, hi375_6⟩ := at_T40 HR0.out x5_2 p375 q375
                                cases e375
                                replace hx375_0 := (HB.out.cell (World.block_lt_of_cell? w _ hx375_0)).trans hx375_0
                                replace hx375_1 := (HB.out.cell (World.block_lt_of_cell? w _ hx375_1)).trans hx375_1
                                replace hx375_2 := (HB.out.cell (World.block_lt_of_cell? w _ hx375_2)).trans hx375_2
                                replace hx375_3 := (HB.out.cell (World.block_lt_of_cell? w _ hx375_3)).trans hx375_3
                                replace hx375_4 := (HB.out.cell (World.block_lt_of_cell? w _ hx375_4)).trans hx375_4
                                replace hx375_5 := (HB.out.cell (World.block_lt_of_cell? w _ hx375_5)).trans hx375_5
                                replace hx375_6 := (HB.out.cell (World.block_lt_of_cell? w _ hx375_6)).trans hx375_6
                                have HR375_3 := Aside0.mk hi375_3
                                have HC375_3 := Aside0.mk hl375_3
                                clear hi375_3 hl375_3
                                have HR375_6 := Aside0.mk hi375_6
                                have HC375_6 := Aside0.mk hl375_6
                                clear hi375_6 hl375_6
                                replace p375 := eq_true p375
                                replace q375 := eq_true q375
                                go_wp2
                                go_meet
                                case rel => exact ⟨_, (((t371 != (-1)) != x7_20)), (by first | rfl | (simp; done) | (simp [*]; done)), H', ⟨by have := HJ2.out; have := HK2.out; have := HJ14.out; have := HJ20.out; first | omega | exact Nat.le_refl _⟩, ⟨by repeat (first | (with_reducible first | exact HB.out | apply below_alloc | apply pw_below_drewN | apply below_drew1) | exact HB.out)⟩⟩
                              · rw [if_neg c28] at H
                                have c28b0 : (((rd_T40 l0 x5_2).f0) == 3) = false := beq_eq_false_iff_ne.mpr c28
                                have c28b1 : (((rd_T40 l0 x5_2).f0) != 3) = true := bne_iff_ne.mpr c28
                                have H' := Aside0.mk H
                                clear H
                                have p375 : 0 ≤ (x5_2 : Int) := of_decide_eq_true (by first | (with_reducible assumption) | assumption)
                                have q375 : x5_2 < (l0.length : Int) := of_decide_eq_true (by first | (with_reducible assumption) | assumption)
                                obtain ⟨ad375, A375_3, c375_3, A375_6, c375_6, e375, hx375_0, hx375_1, hx375_2, hx375_3, hx375_4, hx375_5, hx375_6, hl375_3, hi375_3, hl375_6, hi375_6⟩ := at_T40 HR0.out x5_2 p375 q375
                                cases e375
                                replace hx375_0 := (HB.out.cell (World.block_lt_of_cell? w _ hx375_0)).trans hx375_0
                                replace hx375_1 := (HB.out.cell (World.block_lt_of_cell? w _ hx375_1)).trans hx375_1
                                replace hx375_2 := (HB.out.cell (World.block_lt_of_cell? w _ hx375_2)).trans hx375_2
                                replace hx375_3 := (HB.out.cell (World.block_lt_of_cell? w _ hx375_3)).trans hx375_3
                                replace hx375_4 := (HB.out.cell (World.block_lt_of_cell? w _ hx375_4)).trans hx375_4
                                replace hx375_5 := (HB.out.cell (World.block_lt_of_cell? w _ hx375_5)).trans hx375_5
                                replace hx375_6 := (HB.out.cell (World.block_lt_of_cell? w _ hx375_6)).trans hx375_6
                                have HR375_3 := Aside0.mk hi375_3
                                have HC375_3 := Aside0.mk hl375_3
                                clear hi375_3 hl375_3
                                have HR375_6 := Aside0.mk hi375_6
                                have HC375_6 := Aside0.mk hl375_6
                                clear hi375_6 hl375_6
                                replace p375 := eq_true p375
                                replace q375 := eq_true q375
                                go_wp2
                                go_meet
                                case rel => exact ⟨_, (false), (by first | rfl | (simp; done) | (simp [*]; done)), H', ⟨by have := HJ2.out; have := HK2.out; have := HJ14.out; have := HJ20.out; first | omega | exact Nat.le_refl _⟩, ⟨by repeat (first | (with_reducible first | exact HB.out | apply below_alloc | apply pw_below_drewN | apply below_drew1) | exact HB.out)⟩⟩
                            · rw [if_neg c27] at H
                              exact absurd H (by simp)
                          · rw [if_neg c26] at H
                            exact absurd H (by simp)
                        case rest =>
                          clear HC25
                          try clear c1
                          try clear c2
                          try clear p2
                          try clear c3
                          try clear p3
                          try clear q3
                          try clear hx3
                          try clear c5
                          try clear p6
                          try clear c7
                          try clear c9
                          try clear c10
                          try clear c12
                          try clear c13
                          try clear c13b0
                          try clear c17
                          try clear c17b0
                          try clear c18
                          try clear c18b0
                          try clear c18b1
                          try clear c19
                          try clear c20
                          try clear c20b0
                          try clear c20b1
                          try clear c21
                          try clear c22
                          try clear c22b0
                          try clear c22b1
                          try clear c26
                          try clear c26b0
                          try clear c27
                          try clear c27b0
                          try clear c28
                          try clear c28b0
                          try clear c28b1
                          try clear hx372_0
                          try clear hx372_1
                          try clear hx372_2
                          try clear hx372_3
                          try clear hx372_4
                          try clear hx372_5
                          try clear hx372_6
                          try clear hx373_0
                          try clear hx373_1
                          try clear hx373_2
                          try clear hx373_3
                          try clear hx373_4
                          try clear hx373_5
                          try clear hx373_6
                          try clear hx375_0
                          try clear hx375_1
                          try clear hx375_2
                          try clear hx375_3
                          try clear hx375_4
                          try clear hx375_5
                          try clear hx375_6
                          try clear p2
                          try clear p3
                          try clear p372
                          try clear p373
                          try clear p375
                          try clear p6
                          try clear q3
                          try clear q372
                          try clear q373
                          try clear q375
                          obtain ⟨kq, x65_24, rfl, HA, HJ24, HB⟩ := hcut
                          cases kq with
                          | zero => exact absurd HA.out (by simp [limelightlaw15_ChainRoots.j4])
                          | succ kj24 =>
                            have H := HA.out
                            clear HA
                            simp only [limelightlaw15_ChainRoots.j4] at H
                            by_cases c29 : x65_24 = true
                            · subst c29
                              have H1 : (none) = some r := by rw [if_pos rfl] at H; exact H
                              clear H
                              have H := H1
                              clear H1
                              exact absurd H (by simp)
                            · replace c29 := Bool.eq_false_iff.mpr c29
                              subst c29
                              have H1 : (if 0 ≤ x5_2 then (if x5_2 < (l0.length : Int) then (if ((rd_T40 l0 x5_2).f0) = 0 then (if ((t371 != 0) != x7_20) = true then (none) else (limelightlaw15_ChainRoots.l0 kj24 l0 a1 (wrap64 (x5_2 + 1)))) else (limelightlaw15_ChainRoots.l0 kj24 l0 a1 (wrap64 (x5_2 + 1)))) else (none)) else (none)) = some r := by rw [if_neg (show ¬ (false = true) by decide)] at H; exact H
                              clear H
                              have H := H1
                              clear H1
                              by_cases c30 : 0 ≤ x5_2
                              · rw [if_pos c30] at H
                                have c30b0 : decide (0 ≤ x5_2) = true := decide_eq_true c30
                                clear c30
                                by_cases c31 : x5_2 < (l0.length : Int)
                                · rw [if_pos c31] at H
                                  have c31b0 : decide (x5_2 < (l0.length : Int)) = true := decide_eq_true c31
                                  clear c31
                                  by_cases c32 : ((rd_T40 l0 x5_2).f0) = 0
                                  · rw [if_pos c32] at H
                                    have c32b0 : (((rd_T40 l0 x5_2).f0) == 0) = true := beq_iff_eq.mpr c32
                                    have c32b1 : (((rd_T40 l0 x5_2).f0) != 0) = false := bne_eq_false_iff_eq.mpr c32
                                    clear c32
                                    by_cases c33 : ((t371 != 0) != x7_20) = true
                                    · rw [if_pos c33] at H
                                      exact absurd H (by simp)
                                    · rw [if_neg c33] at H
                                      have c33b0 : ((t371 != 0) != x7_20) = false := by simpa using c33
                                      (try (have c33b1 : decide ((t371 != 0) = x7_20) = true := by simpa using c33))
                                      (try (have c33b2 : ((t371 != 0) == x7_20) = true := by simpa using c33))
                                      clear c33
                                      have H' := Aside0.mk H
                                      clear H
                                      have p376 : 0 ≤ (x5_2 : Int) := of_decide_eq_true (by first | (with_reducible assumption) | assumption)
                                      have q376 : x5_2 < (l0.length : Int) := of_decide_eq_true (by first | (with_reducible assumption) | assumption)
                                      obtain ⟨ad376, A376_3, c376_3, A376_6, c376_6, e376, hx376_0, hx376_1, hx376_2, hx376_3, hx376_4, hx376_5, hx376_6, hl376_3, hi376_3, hl376_6, hi376_6⟩ := at_T40 HR0.out x5_2 p376 q376
                                      cases e376
                                      replace hx376_0 := (HB.out.cell (World.block_lt_of_cell? w _ hx376_0)).trans hx376_0
                                      replace hx376_1 := (HB.out.cell (World.block_lt_of_cell? w _ hx376_1)).trans hx376_1
                                      replace hx376_2 := (HB.out.cell (World.block_lt_of_cell? w _ hx376_2)).trans hx376_2
                                      replace hx376_3 := (HB.out.cell (World.block_lt_of_cell? w _ hx376_3)).trans hx376_3
                                      replace hx376_4 := (HB.out.cell (World.block_lt_of_cell? w _ hx376_4)).trans hx376_4
                                      replace hx376_5 := (HB.out.cell (World.block_lt_of_cell? w _ hx376_5)).trans hx376_5
                                      replace hx376_6 := (HB.out.cell (World.block_lt_of_cell? w _ hx376_6)).trans hx376_6
                                      have HR376_3 := Aside0.mk hi376_3
                                      have HC376_3 := Aside0.mk hl376_3
                                      clear hi376_3 hl376_3
                                      have HR376_6 := Aside0.mk hi376_6
                                      have HC376_6 := Aside0.mk hl376_6
                                      clear hi376_6 hl376_6
                                      replace p376 := eq_true p376
                                      replace q376 := eq_true q376
                                      go_wp2
                                      go_roundg kj24
                                      case measure => have := HJ2.out; have := HK2.out; have := HJ14.out; have := HJ20.out; have := HJ24.out; omega
                                      case rel => exact ⟨(wrap64 (x5_2 + 1)), (by first | rfl | (simp; done) | (simp [*]; done)), H', ⟨by have := HJ2.out; have := HK2.out; have := HJ14.out; have := HJ20.out; have := HJ24.out; omega⟩, ⟨by repeat (first | (with_reducible first | exact HB.out | apply below_alloc | apply pw_below_drewN | apply below_drew1) | exact HB.out)⟩⟩
                                  · rw [if_neg c32] at H
                                    have c32b0 : (((rd_T40 l0 x5_2).f0) == 0) = false := beq_eq_false_iff_ne.mpr c32
                                    have c32b1 : (((rd_T40 l0 x5_2).f0) != 0) = true := bne_iff_ne.mpr c32
                                    have H' := Aside0.mk H
                                    clear H
                                    have p376 : 0 ≤ (x5_2 : Int) := of_decide_eq_true (by first | (with_reducible assumption) | assumption)
                                    have q376 : x5_2 < (l0.length : Int) := of_decide_eq_true (by first | (with_reducible assumption) | assumption)
                                    obtain ⟨ad376, A376_3, c376_3, A376_6, c376_6, e376, hx376_0, hx376_1, hx376_2, hx376_3, hx376_4, hx376_5, hx376_6, hl376_3, hi376_3, hl376_6, hi376_6⟩ := at_T40 HR0.out x5_2 p376 q376
                                    cases e376
                                    replace hx376_0 := (HB.out.cell (World.block_lt_of_cell? w _ hx376_0)).trans hx376_0
                                    replace hx376_1 := (HB.out.cell (World.block_lt_of_cell? w _ hx376_1)).trans hx376_1
                                    replace hx376_2 := (HB.out.cell (World.block_lt_of_cell? w _ hx376_2)).trans hx376_2
                                    replace hx376_3 := (HB.out.cell (World.block_lt_of_cell? w _ hx376_3)).trans hx376_3
                                    replace hx376_4 := (HB.out.cell (World.block_lt_of_cell? w _ hx376_4)).trans hx376_4
                                    replace hx376_5 := (HB.out.cell (World.block_lt_of_cell? w _ hx376_5)).trans hx376_5
                                    replace hx376_6 := (HB.out.cell (World.block_lt_of_cell? w _ hx376_6)).trans hx376_6
                                    have HR376_3 := Aside0.mk hi376_3
                                    have HC376_3 := Aside0.mk hl376_3
                                    clear hi376_3 hl376_3
                                    have HR376_6 := Aside0.mk hi376_6
                                    have HC376_6 := Aside0.mk hl376_6
                                    clear hi376_6 hl376_6
                                    replace p376 := eq_true p376
                                    replace q376 := eq_true q376
                                    go_wp2
                                    go_roundg kj24
                                    case measure => have := HJ2.out; have := HK2.out; have := HJ14.out; have := HJ20.out; have := HJ24.out; omega
                                    case rel => exact ⟨(wrap64 (x5_2 + 1)), (by first | rfl | (simp; done) | (simp [*]; done)), H', ⟨by have := HJ2.out; have := HK2.out; have := HJ14.out; have := HJ20.out; have := HJ24.out; omega⟩, ⟨by repeat (first | (with_reducible first | exact HB.out | apply below_alloc | apply pw_below_drewN | apply below_drew1) | exact HB.out)⟩⟩
                                · rw [if_neg c31] at H
                                  exact absurd H (by simp)
                              · rw [if_neg c30] at H
                                exact absurd H (by simp)
            · rw [if_neg c13] at H
              have c13b0 : decide (x5_2 < (l0.length : Int)) = false := decide_eq_false c13
              clear c13
              replace H := Option.bind_eq_some_iff.mp H
              obtain ⟨t370, A340, H⟩ := H
              replace H : (some t370) = some r := H
              have A34 := Aside0.mk A340
              clear A340
              obtain rfl := Option.some.inj H
              go_wp2_with (first | ((with_reducible refine gate_callee (f := 9) rfl ?_); refine goesL_ (some 78) rfl rfl Try.func9 (by kernel_rfl) rfl #[] rfl (by (try simp only [List.map_toArray, List.map_cons, List.map_nil]); first | done | rfl | (simp only [List.length_drop, List.length_take]; rfl)) ?_; (with_reducible refine (limelightlaw15_live.calls k2  t370 _ A34.out).mono ?_); rintro e w35 ⟨rfl, hb⟩; refine ⟨_, rfl, ?_⟩; have n0_ := Aside0.mk (below_step (by repeat (first | (with_reducible first | exact HB.out | apply below_alloc | apply pw_below_drewN | apply below_drew1) | exact HB.out)) hb); clear HB; have HB := n0_; clear n0_; (try clear hb); (try clear hb2); (try clear hk); (try clear hi)))
              go_ret
              exact ⟨by first | rfl | (simp [errW_none, errW_some] <;> rfl) | (simp [*, errW_none, errW_some] <;> rfl), by repeat (first | (with_reducible first | exact HB.out | apply below_alloc | apply pw_below_drewN | apply below_drew1) | exact HB.out)⟩

end Go.Proofs.Ytbbmdpmpbggmgaa.P
