import Derived.Test.YtclhmgchllenlaaPx0
import Derived.Test.YtclhmgchllenlaaPx1
import Derived.Test.YtclhmgchllenlaaPx2
import Derived.Test.YtclhmgchllenlaaME
-- printed by wip/tools/pp.sh (a patched copy of the print's program), for this claim.
namespace Go.Proofs.Ytclhmgchllenlaa.P
open Go.RowKit Go.Proofs.YtclhmgchllenlaaW.PrintWords Go.Proofs.YtclhmgchllenlaaW.PrintLast Go.Proofs.YtclhmgchllenlaaW.PrintMore
attribute [local go_sem] max2_int min2_int max_two min_two max_three min_three max_four min_four   -- for this text's walks alone
set_option linter.unusedVariables false
set_option linter.unusedSimpArgs false

-- GIVEN: function 9 (limelightref01_Small): ME

-- GIVEN: function 10 (limelightlaw01_live): Liv01

-- GIVEN: function 11 (tree_Make): GMk|S

/-! ### limelightref01_Make: function 12 -/
def limelightref01_Make.j0 : Nat → List (S49) → Int → Int → Bool → Option ((List (S49)) × Int × Int)
 | 0, _, _, _, _ => none
 | k + 1, x0, x1, x2, x34 => if x34 = true then (some (x0, 0, 3)) else (if (x0.length : Int) = 64 then (some (x0, 0, 4)) else ((limelightref01_Copy.f k x0).bind fun t119 => (if t119.length < 1599289640401 then (some ((t119 ++ [(⟨x1, x2, (-1), ([] : List Int), (-1), (-1), ([] : List (S65))⟩ : S49)]), (x0.length : Int), 0)) else (none))))
def limelightref01_Make.f (k : Nat) (l0 : List (S49)) (a1 : Int) (a2 : Int) : Option ((List (S49)) × Int × Int) := (limelightref01_May.f l0).bind fun t118 => (if t118 = true then (if a1 = 1 then (if a2 < 0 then (limelightref01_Make.j0 k l0 a1 a2 true) else (if a2 > 4 then (limelightref01_Make.j0 k l0 a1 a2 true) else (if a1 = 2 then (limelightref01_Make.j0 k l0 a1 a2 (a2 != 0)) else (limelightref01_Make.j0 k l0 a1 a2 false)))) else (if a1 = 2 then (if a2 < 0 then (limelightref01_Make.j0 k l0 a1 a2 true) else (if a2 > 4 then (limelightref01_Make.j0 k l0 a1 a2 true) else (limelightref01_Make.j0 k l0 a1 a2 (a2 != 0)))) else (limelightref01_Make.j0 k l0 a1 a2 true))) else (some (([] : List (S49)), 0, 1)))
theorem limelightref01_Make.mono_l : ∀ k, (∀ y0 y1 y2 y3, LeO (limelightref01_Make.j0 k y0 y1 y2 y3) (limelightref01_Make.j0 (k + 1) y0 y1 y2 y3))
 | 0 => fun _ _ _ _ r h => by simp [limelightref01_Make.j0] at h
 | k + 1 => by
  have ih0 := limelightref01_Make.mono_l k
  ·intro y0 y1 y2 y3
   unfold limelightref01_Make.j0
   repeat' first
   | (with_reducible exact ih0 _ _ _ _)
   | (with_reducible exact limelightref01_Copy.mono _ _)
   | (with_reducible exact LeO.refl _)
   | (with_reducible exact LeO.none _)
   | (with_reducible refine LeO.ite ?_ ?_)
   | (with_reducible refine LeO.bind ?_ (fun _ => ?_))
   | exact ih0 _ _ _ _
   | exact limelightref01_Copy.mono _ _
   | exact LeO.none _
   | refine LeO.ite ?_ ?_
   | refine LeO.bind ?_ (fun _ => ?_)
theorem limelightref01_Make.mono : ∀ a0 a1 a2 k, LeO (limelightref01_Make.f k a0 a1 a2) (limelightref01_Make.f (k + 1) a0 a1 a2) := by
 intro a0 a1 a2 k
 have ih0 := limelightref01_Make.mono_l k
 unfold limelightref01_Make.f
 repeat' first
   | (with_reducible exact ih0 _ _ _ _)
   | (with_reducible exact limelightref01_Copy.mono _ _)
   | (with_reducible exact LeO.refl _)
   | (with_reducible exact LeO.none _)
   | (with_reducible refine LeO.ite ?_ ?_)
   | (with_reducible refine LeO.bind ?_ (fun _ => ?_))
   | exact ih0 _ _ _ _
   | exact limelightref01_Copy.mono _ _
   | exact LeO.none _
   | refine LeO.ite ?_ ?_
   | refine LeO.bind ?_ (fun _ => ?_)
set_option maxHeartbeats 8000000 in
set_option maxRecDepth 100000 in
theorem limelightref01_Make.calls (k : Nat) (P0_ : Nat → Prop) (A0 : Option Addr) (c0 : Nat) (l0 : List (S49)) (a1 : Int) (a2 : Int) (r1 : List (S49)) (r2 : Int) (r3 : Int) (w : World) (hs0 : Kd.V k49 49 w w.heap.size (fun k_ => P0_ k_) (.slice A0 l0.length c0) l0) (h : limelightref01_Make.f k l0 a1 a2 = some (r1, r2, r3)) :
  Calls Try.prog 12 #[.slice A0 l0.length c0, .int .i64 a1, .int .i64 a2] w fun e w' => ∃ v0_ : Value, e = .returned (.tuple #[v0_, .int .i64 r2, .int .i64 r3]) ∧ Kd.V k49 49 w' w.heap.size (fun k_ => (P0_ k_ ∨ w.heap.size ≤ k_)) v0_ r1 ∧ Below w.heap.size w w' := by
 have hu49 := Try.underlying49
 have HO0 := Aside0.mk (show Kd.V k49 49 w w.heap.size (fun k_ => (P0_ k_ ∨ w.heap.size ≤ k_)) (.slice A0 l0.length c0) l0 from Kd.V_mono hs0 (fun k_ hk => .inl hk))
 have HB := Aside0.mk (Below.refl w.heap.size w)
 have H : ((limelightref01_May.f l0).bind fun t118 => (if t118 = true then (if a1 = 1 then (if a2 < 0 then (limelightref01_Make.j0 k l0 a1 a2 true) else (if a2 > 4 then (limelightref01_Make.j0 k l0 a1 a2 true) else (if a1 = 2 then (limelightref01_Make.j0 k l0 a1 a2 (a2 != 0)) else (limelightref01_Make.j0 k l0 a1 a2 false)))) else (if a1 = 2 then (if a2 < 0 then (limelightref01_Make.j0 k l0 a1 a2 true) else (if a2 > 4 then (limelightref01_Make.j0 k l0 a1 a2 true) else (limelightref01_Make.j0 k l0 a1 a2 (a2 != 0)))) else (limelightref01_Make.j0 k l0 a1 a2 true))) else (some (([] : List (S49)), 0, 1)))) = some (r1, r2, r3) := h
 clear h
 replace H := Option.bind_eq_some_iff.mp H
 obtain ⟨t118, A40, H⟩ := H
 replace H : (if t118 = true then (if a1 = 1 then (if a2 < 0 then (limelightref01_Make.j0 k l0 a1 a2 true) else (if a2 > 4 then (limelightref01_Make.j0 k l0 a1 a2 true) else (if a1 = 2 then (limelightref01_Make.j0 k l0 a1 a2 (a2 != 0)) else (limelightref01_Make.j0 k l0 a1 a2 false)))) else (if a1 = 2 then (if a2 < 0 then (limelightref01_Make.j0 k l0 a1 a2 true) else (if a2 > 4 then (limelightref01_Make.j0 k l0 a1 a2 true) else (limelightref01_Make.j0 k l0 a1 a2 (a2 != 0)))) else (limelightref01_Make.j0 k l0 a1 a2 true))) else (some (([] : List (S49)), 0, 1))) = some (r1, r2, r3) := H
 have A4 := Aside0.mk A40
 clear A40
 by_cases c5 : t118 = true
 ·subst c5
  have H1 : (if a1 = 1 then (if a2 < 0 then (limelightref01_Make.j0 k l0 a1 a2 true) else (if a2 > 4 then (limelightref01_Make.j0 k l0 a1 a2 true) else (if a1 = 2 then (limelightref01_Make.j0 k l0 a1 a2 (a2 != 0)) else (limelightref01_Make.j0 k l0 a1 a2 false)))) else (if a1 = 2 then (if a2 < 0 then (limelightref01_Make.j0 k l0 a1 a2 true) else (if a2 > 4 then (limelightref01_Make.j0 k l0 a1 a2 true) else (limelightref01_Make.j0 k l0 a1 a2 (a2 != 0)))) else (limelightref01_Make.j0 k l0 a1 a2 true))) = some (r1, r2, r3) := by rw [if_pos rfl] at H; exact H
  clear H
  have H := H1
  clear H1
  have HC6 := Aside0.mk H
  clear H
  go_enter Try.func12, Try.ntmps12
  go_upto_region 3 with (first | ((with_reducible refine gate_callee (f := 23) rfl ?_); refine goesL_ (some 11) rfl rfl Try.func23 (by kernel_rfl) rfl #[.slice A0 l0.length c0] rfl margs_ ?_; (with_reducible refine (limelightref01_May.calls _ _ l0 true _ ?side1 ?side2 A4.out).mono ?_); (case side1 => exact kcb_ ((Kd.V_reads' HO0.out).2.2)); (case side2 => exact (Kd.V_reads' HO0.out).2.1); rintro e w7 ⟨rfl, hb⟩; refine ⟨_, rfl, ?_⟩; have n0_ := Aside0.mk (Kd.V_below (by (with_reducible repeat (first | apply Kd.V_alloc | apply Kd.V_drewN | apply Kd.V_drew)); exact HO0.out) hb); have n1_ := Aside0.mk (below_step bel_ hb); clear HO0; clear HB; have HO0 := n0_; have HB := n1_; clear n0_ n1_; (try clear hb); (try clear hb2); (try clear hk); (try clear hi)))
  (try simp only [Act.put, List.setIfInBounds_toArray, List.set_cons_zero, List.set_cons_succ])
  go_cut [34] (fun v34 wc => ∃ (kq : Nat) (x34_5 : Bool), v34 = .bool x34_5 ∧ Aside0 (limelightref01_Make.j0 kq l0 a1 a2 x34_5 = some (r1, r2, r3)) ∧ Aside0 (kq ≤ k) ∧ Aside0 (Kd.V k49 49 wc w.heap.size (fun k_ => (P0_ k_ ∨ w.heap.size ≤ k_)) (.slice A0 l0.length c0) l0) ∧ Aside0 (Below w.heap.size w wc))
  case first =>
   have H := HC6.out
   clear HC6
   by_cases c8 : a1 = 1
   ·rw [if_pos c8] at H
    have c8b0 : (a1 == 1) = true := beq_iff_eq.mpr c8
    have c8b1 : (a1 != 1) = false := bne_eq_false_iff_eq.mpr c8
    clear c8
    (first | rw [c8b0] | (simp only [i64_w, i32_w]; rw [c8b0]) | skip)
    by_cases c9 : a2 < 0
    ·rw [if_pos c9] at H
     have c9b0 : decide (a2 < 0) = true := decide_eq_true c9
     clear c9
     have H' := Aside0.mk H
     clear H
     go_wp2
     go_meet
     case rel => exact ⟨_, (true), (by first | rfl | (simp; done) | (simp [*]; done)), H', ⟨by first | omega | exact Nat.le_refl _⟩, ⟨by (with_reducible repeat (first | apply Kd.V_alloc | apply Kd.V_drewN | apply Kd.V_drew)); exact HO0.out⟩, ⟨bel_⟩⟩
    ·rw [if_neg c9] at H
     have c9b0 : decide (a2 < 0) = false := decide_eq_false c9
     clear c9
     by_cases c10 : a2 > 4
     ·rw [if_pos c10] at H
      have c10b0 : decide (4 < a2) = true := decide_eq_true c10
      clear c10
      have H' := Aside0.mk H
      clear H
      go_wp2
      go_meet
      case rel => exact ⟨_, (true), (by first | rfl | (simp; done) | (simp [*]; done)), H', ⟨by first | omega | exact Nat.le_refl _⟩, ⟨by (with_reducible repeat (first | apply Kd.V_alloc | apply Kd.V_drewN | apply Kd.V_drew)); exact HO0.out⟩, ⟨bel_⟩⟩
     ·rw [if_neg c10] at H
      have c10b0 : decide (4 < a2) = false := decide_eq_false c10
      clear c10
      by_cases c11 : a1 = 2
      ·rw [if_pos c11] at H
       have c11b0 : (a1 == 2) = true := beq_iff_eq.mpr c11
       have c11b1 : (a1 != 2) = false := bne_eq_false_iff_eq.mpr c11
       clear c11
       have H' := Aside0.mk H
       clear H
       go_wp2
       go_meet
       case rel => exact ⟨_, ((a2 != 0)), (by first | rfl | (simp; done) | (simp [*]; done)), H', ⟨by first | omega | exact Nat.le_refl _⟩, ⟨by (with_reducible repeat (first | apply Kd.V_alloc | apply Kd.V_drewN | apply Kd.V_drew)); exact HO0.out⟩, ⟨bel_⟩⟩
      ·rw [if_neg c11] at H
       have c11b0 : (a1 == 2) = false := beq_eq_false_iff_ne.mpr c11
       have c11b1 : (a1 != 2) = true := bne_iff_ne.mpr c11
       have H' := Aside0.mk H
       clear H
       go_wp2
       go_meet
       case rel => exact ⟨_, (false), (by first | rfl | (simp; done) | (simp [*]; done)), H', ⟨by first | omega | exact Nat.le_refl _⟩, ⟨by (with_reducible repeat (first | apply Kd.V_alloc | apply Kd.V_drewN | apply Kd.V_drew)); exact HO0.out⟩, ⟨bel_⟩⟩
   ·rw [if_neg c8] at H
    have c8b0 : (a1 == 1) = false := beq_eq_false_iff_ne.mpr c8
    have c8b1 : (a1 != 1) = true := bne_iff_ne.mpr c8
    (first | rw [c8b0] | (simp only [i64_w, i32_w]; rw [c8b0]) | skip)
    by_cases c12 : a1 = 2
    ·rw [if_pos c12] at H
     have c12b0 : (a1 == 2) = true := beq_iff_eq.mpr c12
     have c12b1 : (a1 != 2) = false := bne_eq_false_iff_eq.mpr c12
     clear c12
     by_cases c13 : a2 < 0
     ·rw [if_pos c13] at H
      have c13b0 : decide (a2 < 0) = true := decide_eq_true c13
      clear c13
      have H' := Aside0.mk H
      clear H
      go_wp2
      go_meet
      case rel => exact ⟨_, (true), (by first | rfl | (simp; done) | (simp [*]; done)), H', ⟨by first | omega | exact Nat.le_refl _⟩, ⟨by (with_reducible repeat (first | apply Kd.V_alloc | apply Kd.V_drewN | apply Kd.V_drew)); exact HO0.out⟩, ⟨bel_⟩⟩
     ·rw [if_neg c13] at H
      have c13b0 : decide (a2 < 0) = false := decide_eq_false c13
      clear c13
      by_cases c14 : a2 > 4
      ·rw [if_pos c14] at H
       have c14b0 : decide (4 < a2) = true := decide_eq_true c14
       clear c14
       have H' := Aside0.mk H
       clear H
       go_wp2
       go_meet
       case rel => exact ⟨_, (true), (by first | rfl | (simp; done) | (simp [*]; done)), H', ⟨by first | omega | exact Nat.le_refl _⟩, ⟨by (with_reducible repeat (first | apply Kd.V_alloc | apply Kd.V_drewN | apply Kd.V_drew)); exact HO0.out⟩, ⟨bel_⟩⟩
      ·rw [if_neg c14] at H
       have c14b0 : decide (4 < a2) = false := decide_eq_false c14
       clear c14
       have H' := Aside0.mk H
       clear H
       go_wp2
       go_meet
       case rel => exact ⟨_, ((a2 != 0)), (by first | rfl | (simp; done) | (simp [*]; done)), H', ⟨by first | omega | exact Nat.le_refl _⟩, ⟨by (with_reducible repeat (first | apply Kd.V_alloc | apply Kd.V_drewN | apply Kd.V_drew)); exact HO0.out⟩, ⟨bel_⟩⟩
    ·rw [if_neg c12] at H
     have c12b0 : (a1 == 2) = false := beq_eq_false_iff_ne.mpr c12
     have c12b1 : (a1 != 2) = true := bne_iff_ne.mpr c12
     have H' := Aside0.mk H
     clear H
     go_wp2
     go_meet
     case rel => exact ⟨_, (true), (by first | rfl | (simp; done) | (simp [*]; done)), H', ⟨by first | omega | exact Nat.le_refl _⟩, ⟨by (with_reducible repeat (first | apply Kd.V_alloc | apply Kd.V_drewN | apply Kd.V_drew)); exact HO0.out⟩, ⟨bel_⟩⟩
  case rest =>
   clear HC6
   try clear c1
   try clear c2
   try clear p2
   try clear c5
   try clear c8
   try clear c8b0
   try clear c8b1
   try clear c9
   try clear c9b0
   try clear c10
   try clear c10b0
   try clear c11
   try clear c11b0
   try clear c11b1
   try clear c12
   try clear c12b0
   try clear c12b1
   try clear c13
   try clear c13b0
   try clear c14
   try clear c14b0
   obtain ⟨kq, x34_5, rfl, HA, HJ5, HO_0, HB⟩ := hcut
   cases kq with
   | zero => exact absurd HA.out (by simp [limelightref01_Make.j0])
   | succ kj5 =>
    have H := HA.out
    clear HA
    simp only [limelightref01_Make.j0] at H
    by_cases c15 : x34_5 = true
    ·subst c15
     have H1 : (some (l0, 0, 3)) = some (r1, r2, r3) := by rw [if_pos rfl] at H; exact H
     clear H
     have H := H1
     clear H1
     simp only [Option.some.injEq, Prod.mk.injEq] at H
     obtain ⟨rfl, rfl, rfl⟩ := H
     go_wp2
     go_ret3
     exact ⟨_, by first | rfl | (simp [errW_none, errW_some] <;> rfl) | (simp [*, errW_none, errW_some] <;> rfl), by (with_reducible repeat (first | apply Kd.V_alloc | apply Kd.V_drewN | apply Kd.V_drew)); exact HO_0.out, bel_⟩
    ·replace c15 := Bool.eq_false_iff.mpr c15
     subst c15
     have H1 : (if (l0.length : Int) = 64 then (some (l0, 0, 4)) else ((limelightref01_Copy.f kj5 l0).bind fun t119 => (if t119.length < 1599289640401 then (some ((t119 ++ [(⟨a1, a2, (-1), ([] : List Int), (-1), (-1), ([] : List (S65))⟩ : S49)]), (l0.length : Int), 0)) else (none)))) = some (r1, r2, r3) := by rw [if_neg (show ¬ (false = true) by decide)] at H; exact H
     clear H
     have H := H1
     clear H1
     by_cases c16 : (l0.length : Int) = 64
     ·rw [if_pos c16] at H
      have c16b0 : ((l0.length : Int) == 64) = true := beq_iff_eq.mpr c16
      have c16b1 : ((l0.length : Int) != 64) = false := bne_eq_false_iff_eq.mpr c16
      clear c16
      simp only [Option.some.injEq, Prod.mk.injEq] at H
      obtain ⟨rfl, rfl, rfl⟩ := H
      go_wp2
      go_ret3
      exact ⟨_, by first | rfl | (simp [errW_none, errW_some] <;> rfl) | (simp [*, errW_none, errW_some] <;> rfl), by (with_reducible repeat (first | apply Kd.V_alloc | apply Kd.V_drewN | apply Kd.V_drew)); exact HO_0.out, bel_⟩
     ·rw [if_neg c16] at H
      have c16b0 : ((l0.length : Int) == 64) = false := beq_eq_false_iff_ne.mpr c16
      have c16b1 : ((l0.length : Int) != 64) = true := bne_iff_ne.mpr c16
      replace H := Option.bind_eq_some_iff.mp H
      obtain ⟨t119, A170, H⟩ := H
      replace H : (if t119.length < 1599289640401 then (some ((t119 ++ [(⟨a1, a2, (-1), ([] : List Int), (-1), (-1), ([] : List (S65))⟩ : S49)]), (l0.length : Int), 0)) else (none)) = some (r1, r2, r3) := H
      have A17 := Aside0.mk A170
      clear A170
      by_cases c18 : t119.length < 1599289640401
      ·rw [if_pos c18] at H
       have LMc18 := Aside0.mk c18
       clear c18
       obtain ⟨y122, hy122⟩ : ∃ y_ : List (S49), y_ = (t119 ++ [(⟨a1, a2, (-1), ([] : List Int), (-1), (-1), ([] : List (S65))⟩ : S49)]) := ⟨_, rfl⟩
       replace H : (some (y122, (l0.length : Int), 0)) = some (r1, r2, r3) := by first | (rw [hy122]; with_reducible exact H) | (have H2_ := (Option.bind_some _ _).symm.trans H; rw [hy122]; with_reducible exact H2_) | (have H2_ := (Option.bind_some _ _).symm.trans H; with_reducible exact H2_) | with_reducible exact H | (rw [hy122]; exact H) | exact H
       have Ny122 := Aside0.mk hy122
       clear hy122
       simp only [Option.some.injEq, Prod.mk.injEq] at H
       obtain ⟨rfl, rfl, rfl⟩ := H
       go_wp2_with (first | ((with_reducible refine gate_callee (f := 16) rfl ?_); refine goesL_ (some 41) rfl rfl Try.func16 (by kernel_rfl) rfl #[.slice A0 l0.length c0] rfl margs_ ?_; (with_reducible refine (limelightref01_Copy.calls kj5 _ _ l0 t119 _ ?side1 ?side2 A17.out).mono ?_); (case side1 => exact kcb_ ((Kd.V_reads' HO_0.out).2.2)); (case side2 => exact (Kd.V_reads' HO_0.out).2.1); rintro e w19 ⟨v120, rfl, ho0, hb⟩; refine ⟨_, rfl, ?_⟩; have n0_ := Aside0.mk (Kd.V_elder' (by (with_reducible repeat (first | apply Kd.V_alloc | apply Kd.V_drewN | apply Kd.V_drew)); exact HO_0.out) (Kd.S_base ho0) hb); have n1_ := Aside0.mk (Kd.S_lower (Kd.S_newM (M := fun k_ => (w.heap.size ≤ k_)) ho0 (below_size bel_) (fun k_ h_ => h_)) (below_size bel_)); have n2_ := Aside0.mk (below_step bel_ hb); clear HO_0; clear HB; have HO_0 := n0_; have HO121 := n1_; have HB := n2_; clear n0_ n1_ n2_; (try clear hb); (try clear hb2); (try clear hk); (try clear hi); (try clear ho0)) | ((with_reducible refine gate_builtin (b := .append) (xs := #[.tmp 42, .tmp 46]) rfl ?_); at_builtin; refine Kd.S_append k49 (w0 := w) w.heap.size rfl (.tmp 42) (.tmp 46) 23 49 (.agg #[(.int .i64 0), (.int .i64 0), (.int .i64 0), (.slice none 0 0), (.int .i64 0), (.int .i64 0), (.slice none 0 0)]) 88 rfl Try.underlying23 info49 rfl (by decide) (by omega) v120 t119 (⟨a1, a2, (-1), ([] : List Int), (-1), (-1), ([] : List (S65))⟩ : S49) [.int .i64 a1, .int .i64 a2, .int .i64 (-1), .slice none 0 0, .int .i64 (-1), .int .i64 (-1), .slice none 0 0] (fun k_ => (w.heap.size ≤ k_)) (fun _ => False) rfl rfl ?aP (fun k_ hk_ => hk_.elim) ?aF ?aO ?aB ?aS ?aL ?_; (case aP => exact k49_mkM _ _ _ (⟨a1, a2, (-1), ([] : List Int), (-1), (-1), ([] : List (S65))⟩ : S49) (Kd.R_nil _ _ _ _ _) (Kd.R_nil _ _ _ _ _)); (case aB => exact bel_); (case aF => exact (fun k_ hk => (Nat.le_trans (below_size bel_) hk))); (case aO => exact (by (with_reducible repeat (first | apply Kd.S_alloc | apply Kd.S_drewN | apply Kd.S_drew)); exact Kd.S_mono HO121.out (fun k_ hk => ⟨hk.1, fun e_ => e_⟩))); (case aS => exact (below_size bel_)); (case aL => have := LMc18.out; omega); intro v123 w20 ho hb hg hat; rw [← Ny122.out] at ho; have n0_ := Aside0.mk (Kd.V_afterv (ok := (fun k_ => (P0_ k_ ∨ w.heap.size ≤ k_))) (by (with_reducible repeat (first | apply Kd.V_alloc | apply Kd.V_drewN | apply Kd.V_drew)); exact HO_0.out) hg hat); have n1_ := Aside0.mk (hb); have n2_ := Aside0.mk (ho); clear HO_0; clear HB; clear HO121; have HO_0 := n0_; have HB := n1_; have HO124 := n2_; clear n0_ n1_ n2_; clear ho hb hg hat))
       go_ret3
       exact ⟨_, by first | rfl | (simp [errW_none, errW_some] <;> rfl) | (simp [*, errW_none, errW_some] <;> rfl), Kd.V_mono (Kd.S_V (by (with_reducible repeat (first | apply Kd.S_alloc | apply Kd.S_drewN | apply Kd.S_drew)); exact HO124.out)) (fun k_ hk => by first | exact ⟨(.inr (hk.1)), hk.2⟩ | exact (.inr (hk))), bel_⟩
      ·rw [if_neg c18] at H
       exact absurd H (by simp)
 ·replace c5 := Bool.eq_false_iff.mpr c5
  subst c5
  have H1 : (some (([] : List (S49)), 0, 1)) = some (r1, r2, r3) := by rw [if_neg (show ¬ (false = true) by decide)] at H; exact H
  clear H
  have H := H1
  clear H1
  simp only [Option.some.injEq, Prod.mk.injEq] at H
  obtain ⟨rfl, rfl, rfl⟩ := H
  go_enter Try.func12, Try.ntmps12
  go_wp2_with (first | ((with_reducible refine gate_callee (f := 23) rfl ?_); refine goesL_ (some 11) rfl rfl Try.func23 (by kernel_rfl) rfl #[.slice A0 l0.length c0] rfl margs_ ?_; (with_reducible refine (limelightref01_May.calls _ _ l0 false _ ?side1 ?side2 A4.out).mono ?_); (case side1 => exact kcb_ ((Kd.V_reads' HO0.out).2.2)); (case side2 => exact (Kd.V_reads' HO0.out).2.1); rintro e w21 ⟨rfl, hb⟩; refine ⟨_, rfl, ?_⟩; have n0_ := Aside0.mk (Kd.V_below (by (with_reducible repeat (first | apply Kd.V_alloc | apply Kd.V_drewN | apply Kd.V_drew)); exact HO0.out) hb); have n1_ := Aside0.mk (below_step bel_ hb); clear HO0; clear HB; have HO0 := n0_; have HB := n1_; clear n0_ n1_; (try clear hb); (try clear hb2); (try clear hk); (try clear hi)))
  go_ret3
  exact ⟨_, by first | rfl | (simp [errW_none, errW_some] <;> rfl) | (simp [*, errW_none, errW_some] <;> rfl), Kd.V_nil _ _ _ _ _, bel_⟩

-- GIVEN: function 13 (tree_Attach): GMk|S

-- GIVEN: function 24 (limelightref01_Is): ME

/-! ### limelightref01_Attach: function 14 -/
def limelightref01_Attach.f (k : Nat) (l0 : List (S49)) (a1 : Int) : Option ((List (S49)) × Int × Int) := (limelightref01_May.f l0).bind fun t125 => (if t125 = true then ((limelightref01_Is.f l0 a1).bind fun t126 => (if t126 = true then (if 0 ≤ a1 then (if a1 < (l0.length : Int) then (if ((rd_T49 l0 a1).f0) = 1 then (if ((rd_T49 l0 a1).f5) = (-1) then (if (l0.length : Int) = 64 then (some (l0, 0, 4)) else ((limelightref01_Copy.f k l0).bind fun t129 => (if a1 < (t129.length : Int) then ((some (t129.set (a1 : Int).toNat (⟨(rd_T49 t129 a1).f0, (rd_T49 t129 a1).f1, (rd_T49 t129 a1).f2, (rd_T49 t129 a1).f3, (rd_T49 t129 a1).f4, (l0.length : Int), (rd_T49 t129 a1).f6⟩ : S49) : List (S49))).bind fun y132 => (if y132.length < 1599289640401 then (some ((y132 ++ [(⟨3, 0, (-1), ([] : List Int), a1, (-1), ([] : List (S65))⟩ : S49)]), (l0.length : Int), 0)) else (none))) else (none)))) else (some (l0, 0, 6))) else (some (l0, 0, 3))) else (none)) else (none)) else (some (l0, 0, 2)))) else (some (([] : List (S49)), 0, 1)))
theorem limelightref01_Attach.mono : ∀ a0 a1 k, LeO (limelightref01_Attach.f k a0 a1) (limelightref01_Attach.f (k + 1) a0 a1) := by
 intro a0 a1 k
 unfold limelightref01_Attach.f
 repeat' first
   | (with_reducible exact limelightref01_Copy.mono _ _)
   | (with_reducible exact LeO.refl _)
   | (with_reducible exact LeO.none _)
   | (with_reducible refine LeO.ite ?_ ?_)
   | (with_reducible refine LeO.bind ?_ (fun _ => ?_))
   | exact limelightref01_Copy.mono _ _
   | exact LeO.none _
   | refine LeO.ite ?_ ?_
   | refine LeO.bind ?_ (fun _ => ?_)
set_option maxHeartbeats 8000000 in
set_option maxRecDepth 100000 in
theorem limelightref01_Attach.calls (k : Nat) (P0_ : Nat → Prop) (A0 : Option Addr) (c0 : Nat) (l0 : List (S49)) (a1 : Int) (r1 : List (S49)) (r2 : Int) (r3 : Int) (w : World) (hs0 : Kd.V k49 49 w w.heap.size (fun k_ => P0_ k_) (.slice A0 l0.length c0) l0) (h : limelightref01_Attach.f k l0 a1 = some (r1, r2, r3)) :
  Calls Try.prog 14 #[.slice A0 l0.length c0, .int .i64 a1] w fun e w' => ∃ v0_ : Value, e = .returned (.tuple #[v0_, .int .i64 r2, .int .i64 r3]) ∧ Kd.V k49 49 w' w.heap.size (fun k_ => (P0_ k_ ∨ w.heap.size ≤ k_)) v0_ r1 ∧ Below w.heap.size w w' := by
 have hu49 := Try.underlying49
 have HO0 := Aside0.mk (show Kd.V k49 49 w w.heap.size (fun k_ => (P0_ k_ ∨ w.heap.size ≤ k_)) (.slice A0 l0.length c0) l0 from Kd.V_mono hs0 (fun k_ hk => .inl hk))
 have HB := Aside0.mk (Below.refl w.heap.size w)
 have H : ((limelightref01_May.f l0).bind fun t125 => (if t125 = true then ((limelightref01_Is.f l0 a1).bind fun t126 => (if t126 = true then (if 0 ≤ a1 then (if a1 < (l0.length : Int) then (if ((rd_T49 l0 a1).f0) = 1 then (if ((rd_T49 l0 a1).f5) = (-1) then (if (l0.length : Int) = 64 then (some (l0, 0, 4)) else ((limelightref01_Copy.f k l0).bind fun t129 => (if a1 < (t129.length : Int) then ((some (t129.set (a1 : Int).toNat (⟨(rd_T49 t129 a1).f0, (rd_T49 t129 a1).f1, (rd_T49 t129 a1).f2, (rd_T49 t129 a1).f3, (rd_T49 t129 a1).f4, (l0.length : Int), (rd_T49 t129 a1).f6⟩ : S49) : List (S49))).bind fun y132 => (if y132.length < 1599289640401 then (some ((y132 ++ [(⟨3, 0, (-1), ([] : List Int), a1, (-1), ([] : List (S65))⟩ : S49)]), (l0.length : Int), 0)) else (none))) else (none)))) else (some (l0, 0, 6))) else (some (l0, 0, 3))) else (none)) else (none)) else (some (l0, 0, 2)))) else (some (([] : List (S49)), 0, 1)))) = some (r1, r2, r3) := h
 clear h
 replace H := Option.bind_eq_some_iff.mp H
 obtain ⟨t125, A30, H⟩ := H
 replace H : (if t125 = true then ((limelightref01_Is.f l0 a1).bind fun t126 => (if t126 = true then (if 0 ≤ a1 then (if a1 < (l0.length : Int) then (if ((rd_T49 l0 a1).f0) = 1 then (if ((rd_T49 l0 a1).f5) = (-1) then (if (l0.length : Int) = 64 then (some (l0, 0, 4)) else ((limelightref01_Copy.f k l0).bind fun t129 => (if a1 < (t129.length : Int) then ((some (t129.set (a1 : Int).toNat (⟨(rd_T49 t129 a1).f0, (rd_T49 t129 a1).f1, (rd_T49 t129 a1).f2, (rd_T49 t129 a1).f3, (rd_T49 t129 a1).f4, (l0.length : Int), (rd_T49 t129 a1).f6⟩ : S49) : List (S49))).bind fun y132 => (if y132.length < 1599289640401 then (some ((y132 ++ [(⟨3, 0, (-1), ([] : List Int), a1, (-1), ([] : List (S65))⟩ : S49)]), (l0.length : Int), 0)) else (none))) else (none)))) else (some (l0, 0, 6))) else (some (l0, 0, 3))) else (none)) else (none)) else (some (l0, 0, 2)))) else (some (([] : List (S49)), 0, 1))) = some (r1, r2, r3) := H
 have A3 := Aside0.mk A30
 clear A30
 by_cases c4 : t125 = true
 ·subst c4
  have H1 : ((limelightref01_Is.f l0 a1).bind fun t126 => (if t126 = true then (if 0 ≤ a1 then (if a1 < (l0.length : Int) then (if ((rd_T49 l0 a1).f0) = 1 then (if ((rd_T49 l0 a1).f5) = (-1) then (if (l0.length : Int) = 64 then (some (l0, 0, 4)) else ((limelightref01_Copy.f k l0).bind fun t129 => (if a1 < (t129.length : Int) then ((some (t129.set (a1 : Int).toNat (⟨(rd_T49 t129 a1).f0, (rd_T49 t129 a1).f1, (rd_T49 t129 a1).f2, (rd_T49 t129 a1).f3, (rd_T49 t129 a1).f4, (l0.length : Int), (rd_T49 t129 a1).f6⟩ : S49) : List (S49))).bind fun y132 => (if y132.length < 1599289640401 then (some ((y132 ++ [(⟨3, 0, (-1), ([] : List Int), a1, (-1), ([] : List (S65))⟩ : S49)]), (l0.length : Int), 0)) else (none))) else (none)))) else (some (l0, 0, 6))) else (some (l0, 0, 3))) else (none)) else (none)) else (some (l0, 0, 2)))) = some (r1, r2, r3) := by rw [if_pos rfl] at H; exact H
  clear H
  have H := H1
  clear H1
  replace H := Option.bind_eq_some_iff.mp H
  obtain ⟨t126, A50, H⟩ := H
  replace H : (if t126 = true then (if 0 ≤ a1 then (if a1 < (l0.length : Int) then (if ((rd_T49 l0 a1).f0) = 1 then (if ((rd_T49 l0 a1).f5) = (-1) then (if (l0.length : Int) = 64 then (some (l0, 0, 4)) else ((limelightref01_Copy.f k l0).bind fun t129 => (if a1 < (t129.length : Int) then ((some (t129.set (a1 : Int).toNat (⟨(rd_T49 t129 a1).f0, (rd_T49 t129 a1).f1, (rd_T49 t129 a1).f2, (rd_T49 t129 a1).f3, (rd_T49 t129 a1).f4, (l0.length : Int), (rd_T49 t129 a1).f6⟩ : S49) : List (S49))).bind fun y132 => (if y132.length < 1599289640401 then (some ((y132 ++ [(⟨3, 0, (-1), ([] : List Int), a1, (-1), ([] : List (S65))⟩ : S49)]), (l0.length : Int), 0)) else (none))) else (none)))) else (some (l0, 0, 6))) else (some (l0, 0, 3))) else (none)) else (none)) else (some (l0, 0, 2))) = some (r1, r2, r3) := H
  have A5 := Aside0.mk A50
  clear A50
  by_cases c6 : t126 = true
  ·subst c6
   have H1 : (if 0 ≤ a1 then (if a1 < (l0.length : Int) then (if ((rd_T49 l0 a1).f0) = 1 then (if ((rd_T49 l0 a1).f5) = (-1) then (if (l0.length : Int) = 64 then (some (l0, 0, 4)) else ((limelightref01_Copy.f k l0).bind fun t129 => (if a1 < (t129.length : Int) then ((some (t129.set (a1 : Int).toNat (⟨(rd_T49 t129 a1).f0, (rd_T49 t129 a1).f1, (rd_T49 t129 a1).f2, (rd_T49 t129 a1).f3, (rd_T49 t129 a1).f4, (l0.length : Int), (rd_T49 t129 a1).f6⟩ : S49) : List (S49))).bind fun y132 => (if y132.length < 1599289640401 then (some ((y132 ++ [(⟨3, 0, (-1), ([] : List Int), a1, (-1), ([] : List (S65))⟩ : S49)]), (l0.length : Int), 0)) else (none))) else (none)))) else (some (l0, 0, 6))) else (some (l0, 0, 3))) else (none)) else (none)) = some (r1, r2, r3) := by rw [if_pos rfl] at H; exact H
   clear H
   have H := H1
   clear H1
   by_cases c7 : 0 ≤ a1
   ·rw [if_pos c7] at H
    have c7b0 : decide (0 ≤ a1) = true := decide_eq_true c7
    clear c7
    by_cases c8 : a1 < (l0.length : Int)
    ·rw [if_pos c8] at H
     have c8b0 : decide (a1 < (l0.length : Int)) = true := decide_eq_true c8
     clear c8
     by_cases c9 : ((rd_T49 l0 a1).f0) = 1
     ·rw [if_pos c9] at H
      have c9b0 : (((rd_T49 l0 a1).f0) == 1) = true := beq_iff_eq.mpr c9
      have c9b1 : (((rd_T49 l0 a1).f0) != 1) = false := bne_eq_false_iff_eq.mpr c9
      clear c9
      by_cases c10 : ((rd_T49 l0 a1).f5) = (-1)
      ·rw [if_pos c10] at H
       have c10b0 : (((rd_T49 l0 a1).f5) == (-1)) = true := beq_iff_eq.mpr c10
       have c10b1 : (((rd_T49 l0 a1).f5) != (-1)) = false := bne_eq_false_iff_eq.mpr c10
       clear c10
       by_cases c11 : (l0.length : Int) = 64
       ·rw [if_pos c11] at H
        have c11b0 : ((l0.length : Int) == 64) = true := beq_iff_eq.mpr c11
        have c11b1 : ((l0.length : Int) != 64) = false := bne_eq_false_iff_eq.mpr c11
        clear c11
        simp only [Option.some.injEq, Prod.mk.injEq] at H
        obtain ⟨rfl, rfl, rfl⟩ := H
        go_enter Try.func14, Try.ntmps14
        go_wp2_with (first | ((with_reducible refine gate_callee (f := 23) rfl ?_); refine goesL_ (some 9) rfl rfl Try.func23 (by kernel_rfl) rfl #[.slice A0 l0.length c0] rfl margs_ ?_; (with_reducible refine (limelightref01_May.calls _ _ l0 true _ ?side1 ?side2 A3.out).mono ?_); (case side1 => exact kcb_ ((Kd.V_reads' HO0.out).2.2)); (case side2 => exact (Kd.V_reads' HO0.out).2.1); rintro e w12 ⟨rfl, hb⟩; refine ⟨_, rfl, ?_⟩; have n0_ := Aside0.mk (Kd.V_below (by (with_reducible repeat (first | apply Kd.V_alloc | apply Kd.V_drewN | apply Kd.V_drew)); exact HO0.out) hb); have n1_ := Aside0.mk (below_step bel_ hb); clear HO0; clear HB; have HO0 := n0_; have HB := n1_; clear n0_ n1_; (try clear hb); (try clear hb2); (try clear hk); (try clear hi)) | ((with_reducible refine gate_callee (f := 24) rfl ?_); refine goesL_ (some 13) rfl rfl Try.func24 (by kernel_rfl) rfl #[.slice A0 l0.length c0, .int .i64 a1] rfl margs_ ?_; (with_reducible refine (limelightref01_Is.calls _ _ l0 a1 true _ ?side1 ?side2 A5.out).mono ?_); (case side1 => exact kcb_ ((Kd.V_reads' HO0.out).2.2)); (case side2 => exact (Kd.V_reads' HO0.out).2.1); rintro e w13 ⟨rfl, hb⟩; refine ⟨_, rfl, ?_⟩; have n0_ := Aside0.mk (Kd.V_below (by (with_reducible repeat (first | apply Kd.V_alloc | apply Kd.V_drewN | apply Kd.V_drew)); exact HO0.out) hb); have n1_ := Aside0.mk (below_step bel_ hb); clear HO0; clear HB; have HO0 := n0_; have HB := n1_; clear n0_ n1_; (try clear hb); (try clear hb2); (try clear hk); (try clear hi); have p127 : 0 ≤ (a1 : Int) := of_decide_eq_true asm_; have q127 : a1 < (l0.length : Int) := of_decide_eq_true asm_; obtain ⟨ad127, A127_3, c127_3, A127_6, c127_6, e127, hx127_0, hx127_1, hx127_2, hx127_3, hx127_4, hx127_5, hx127_6, hl127_3, hi127_3, hl127_6, hi127_6⟩ := at_T49 (Kd.V_reads' HO0.out).2.2 a1 p127 q127; cases e127; obtain ⟨ce127, hce127, hMe127, hcc127⟩ := Kd.V_get HO0.out z49 a1 p127 (by first | exact q127 | exact of_decide_eq_true asm_ | (have e_ := (Kd.V_reads' HO0.out).1; omega)); obtain ⟨ua127_3, uc127_3, ua127_6, uc127_6, rfl, ul127_3, ge127_3, ul127_6, ge127_6⟩ := k49_openF hMe127; have hv127_3 := hcc127 3 _ rfl; rw [add_field _ _ 3 (by omega)] at hv127_3; replace hv127_3 := Option.some.inj (hv127_3.symm.trans hx127_3); injection hv127_3 with hva_ hvn_ hvc_; rw [hva_] at ge127_3; rw [hvc_] at ul127_3; have HL127_3 := Aside0.mk (show Kd.V (Kd.int .i64) 3 _ w.heap.size _ _ ((rd_T49 l0 a1).f3) from Kd.V_mk ul127_3 ge127_3); clear hva_ hvn_ hvc_ ge127_3 ul127_3; have hv127_6 := hcc127 6 _ rfl; rw [add_field _ _ 6 (by omega)] at hv127_6; replace hv127_6 := Option.some.inj (hv127_6.symm.trans hx127_6); injection hv127_6 with hva_ hvn_ hvc_; rw [hva_] at ge127_6; rw [hvc_] at ul127_6; have HL127_6 := Aside0.mk (show Kd.V k65 65 _ w.heap.size _ _ ((rd_T49 l0 a1).f6) from Kd.V_mk ul127_6 ge127_6); clear hva_ hvn_ hvc_ ge127_6 ul127_6; clear hcc127 hce127; have HR127_3 := Aside0.mk hi127_3; have HC127_3 := Aside0.mk hl127_3; clear hi127_3 hl127_3; have HR127_6 := Aside0.mk hi127_6; have HC127_6 := Aside0.mk hl127_6; clear hi127_6 hl127_6; replace p127 := eq_true p127; replace q127 := eq_true q127; have p128 : 0 ≤ (a1 : Int) := of_decide_eq_true asm_; have q128 : a1 < (l0.length : Int) := of_decide_eq_true asm_; obtain ⟨ad128, A128_3, c128_3, A128_6, c128_6, e128, hx128_0, hx128_1, hx128_2, hx128_3, hx128_4, hx128_5, hx128_6, hl128_3, hi128_3, hl128_6, hi128_6⟩ := at_T49 (Kd.V_reads' HO0.out).2.2 a1 p128 q128; obtain rfl : ad127 = ad128 := (by injection e128); obtain ⟨ce128, hce128, hMe128, hcc128⟩ := Kd.V_get HO0.out z49 a1 p128 (by first | exact q128 | exact of_decide_eq_true asm_ | (have e_ := (Kd.V_reads' HO0.out).1; omega)); obtain ⟨ua128_3, uc128_3, ua128_6, uc128_6, rfl, ul128_3, ge128_3, ul128_6, ge128_6⟩ := k49_openF hMe128; have hv128_3 := hcc128 3 _ rfl; rw [add_field _ _ 3 (by omega)] at hv128_3; replace hv128_3 := Option.some.inj (hv128_3.symm.trans hx128_3); injection hv128_3 with hva_ hvn_ hvc_; rw [hva_] at ge128_3; rw [hvc_] at ul128_3; have HL128_3 := Aside0.mk (show Kd.V (Kd.int .i64) 3 _ w.heap.size _ _ ((rd_T49 l0 a1).f3) from Kd.V_mk ul128_3 ge128_3); clear hva_ hvn_ hvc_ ge128_3 ul128_3; have hv128_6 := hcc128 6 _ rfl; rw [add_field _ _ 6 (by omega)] at hv128_6; replace hv128_6 := Option.some.inj (hv128_6.symm.trans hx128_6); injection hv128_6 with hva_ hvn_ hvc_; rw [hva_] at ge128_6; rw [hvc_] at ul128_6; have HL128_6 := Aside0.mk (show Kd.V k65 65 _ w.heap.size _ _ ((rd_T49 l0 a1).f6) from Kd.V_mk ul128_6 ge128_6); clear hva_ hvn_ hvc_ ge128_6 ul128_6; clear hcc128 hce128; have HR128_3 := Aside0.mk hi128_3; have HC128_3 := Aside0.mk hl128_3; clear hi128_3 hl128_3; have HR128_6 := Aside0.mk hi128_6; have HC128_6 := Aside0.mk hl128_6; clear hi128_6 hl128_6; replace p128 := eq_true p128; replace q128 := eq_true q128; have ea_ := Option.some.inj (hx127_3.symm.trans hx128_3); injection ea_ with ea_ en_ ec_; subst ea_; subst ec_; clear en_; have ea_ := Option.some.inj (hx127_6.symm.trans hx128_6); injection ea_ with ea_ en_ ec_; subst ea_; subst ec_; clear en_))
        go_ret3
        exact ⟨_, by first | rfl | (simp [errW_none, errW_some] <;> rfl) | (simp [*, errW_none, errW_some] <;> rfl), by (with_reducible repeat (first | apply Kd.V_alloc | apply Kd.V_drewN | apply Kd.V_drew)); exact HO0.out, bel_⟩
       ·rw [if_neg c11] at H
        have c11b0 : ((l0.length : Int) == 64) = false := beq_eq_false_iff_ne.mpr c11
        have c11b1 : ((l0.length : Int) != 64) = true := bne_iff_ne.mpr c11
        replace H := Option.bind_eq_some_iff.mp H
        obtain ⟨t129, A140, H⟩ := H
        replace H : (if a1 < (t129.length : Int) then ((some (t129.set (a1 : Int).toNat (⟨(rd_T49 t129 a1).f0, (rd_T49 t129 a1).f1, (rd_T49 t129 a1).f2, (rd_T49 t129 a1).f3, (rd_T49 t129 a1).f4, (l0.length : Int), (rd_T49 t129 a1).f6⟩ : S49) : List (S49))).bind fun y132 => (if y132.length < 1599289640401 then (some ((y132 ++ [(⟨3, 0, (-1), ([] : List Int), a1, (-1), ([] : List (S65))⟩ : S49)]), (l0.length : Int), 0)) else (none))) else (none)) = some (r1, r2, r3) := H
        have A14 := Aside0.mk A140
        clear A140
        by_cases c15 : a1 < (t129.length : Int)
        ·rw [if_pos c15] at H
         have c15b0 : decide (a1 < (t129.length : Int)) = true := decide_eq_true c15
         clear c15
         obtain ⟨y132, hy132⟩ : ∃ y_ : List (S49), y_ = (t129.set (a1 : Int).toNat (⟨(rd_T49 t129 a1).f0, (rd_T49 t129 a1).f1, (rd_T49 t129 a1).f2, (rd_T49 t129 a1).f3, (rd_T49 t129 a1).f4, (l0.length : Int), (rd_T49 t129 a1).f6⟩ : S49)) := ⟨_, rfl⟩
         replace H : (if y132.length < 1599289640401 then (some ((y132 ++ [(⟨3, 0, (-1), ([] : List Int), a1, (-1), ([] : List (S65))⟩ : S49)]), (l0.length : Int), 0)) else (none)) = some (r1, r2, r3) := by first | (rw [hy132]; with_reducible exact H) | (have H2_ := (Option.bind_some _ _).symm.trans H; rw [hy132]; with_reducible exact H2_) | (have H2_ := (Option.bind_some _ _).symm.trans H; with_reducible exact H2_) | with_reducible exact H | (rw [hy132]; exact H) | exact H
         have Ny132 := Aside0.mk hy132
         clear hy132
         by_cases c17 : y132.length < 1599289640401
         ·rw [if_pos c17] at H
          have LMc17 := Aside0.mk c17
          clear c17
          obtain ⟨y133, hy133⟩ : ∃ y_ : List (S49), y_ = (y132 ++ [(⟨3, 0, (-1), ([] : List Int), a1, (-1), ([] : List (S65))⟩ : S49)]) := ⟨_, rfl⟩
          replace H : (some (y133, (l0.length : Int), 0)) = some (r1, r2, r3) := by first | (rw [hy133]; with_reducible exact H) | (have H2_ := (Option.bind_some _ _).symm.trans H; rw [hy133]; with_reducible exact H2_) | (have H2_ := (Option.bind_some _ _).symm.trans H; with_reducible exact H2_) | with_reducible exact H | (rw [hy133]; exact H) | exact H
          have Ny133 := Aside0.mk hy133
          clear hy133
          simp only [Option.some.injEq, Prod.mk.injEq] at H
          obtain ⟨rfl, rfl, rfl⟩ := H
          go_enter Try.func14, Try.ntmps14
          go_wp2_with (first | ((with_reducible refine gate_callee (f := 23) rfl ?_); refine goesL_ (some 9) rfl rfl Try.func23 (by kernel_rfl) rfl #[.slice A0 l0.length c0] rfl margs_ ?_; (with_reducible refine (limelightref01_May.calls _ _ l0 true _ ?side1 ?side2 A3.out).mono ?_); (case side1 => exact kcb_ ((Kd.V_reads' HO0.out).2.2)); (case side2 => exact (Kd.V_reads' HO0.out).2.1); rintro e w18 ⟨rfl, hb⟩; refine ⟨_, rfl, ?_⟩; have n0_ := Aside0.mk (Kd.V_below (by (with_reducible repeat (first | apply Kd.V_alloc | apply Kd.V_drewN | apply Kd.V_drew)); exact HO0.out) hb); have n1_ := Aside0.mk (below_step bel_ hb); clear HO0; clear HB; have HO0 := n0_; have HB := n1_; clear n0_ n1_; (try clear hb); (try clear hb2); (try clear hk); (try clear hi)) | ((with_reducible refine gate_callee (f := 24) rfl ?_); refine goesL_ (some 13) rfl rfl Try.func24 (by kernel_rfl) rfl #[.slice A0 l0.length c0, .int .i64 a1] rfl margs_ ?_; (with_reducible refine (limelightref01_Is.calls _ _ l0 a1 true _ ?side1 ?side2 A5.out).mono ?_); (case side1 => exact kcb_ ((Kd.V_reads' HO0.out).2.2)); (case side2 => exact (Kd.V_reads' HO0.out).2.1); rintro e w19 ⟨rfl, hb⟩; refine ⟨_, rfl, ?_⟩; have n0_ := Aside0.mk (Kd.V_below (by (with_reducible repeat (first | apply Kd.V_alloc | apply Kd.V_drewN | apply Kd.V_drew)); exact HO0.out) hb); have n1_ := Aside0.mk (below_step bel_ hb); clear HO0; clear HB; have HO0 := n0_; have HB := n1_; clear n0_ n1_; (try clear hb); (try clear hb2); (try clear hk); (try clear hi); have p127 : 0 ≤ (a1 : Int) := of_decide_eq_true asm_; have q127 : a1 < (l0.length : Int) := of_decide_eq_true asm_; obtain ⟨ad127, A127_3, c127_3, A127_6, c127_6, e127, hx127_0, hx127_1, hx127_2, hx127_3, hx127_4, hx127_5, hx127_6, hl127_3, hi127_3, hl127_6, hi127_6⟩ := at_T49 (Kd.V_reads' HO0.out).2.2 a1 p127 q127; cases e127; obtain ⟨ce127, hce127, hMe127, hcc127⟩ := Kd.V_get HO0.out z49 a1 p127 (by first | exact q127 | exact of_decide_eq_true asm_ | (have e_ := (Kd.V_reads' HO0.out).1; omega)); obtain ⟨ua127_3, uc127_3, ua127_6, uc127_6, rfl, ul127_3, ge127_3, ul127_6, ge127_6⟩ := k49_openF hMe127; have hv127_3 := hcc127 3 _ rfl; rw [add_field _ _ 3 (by omega)] at hv127_3; replace hv127_3 := Option.some.inj (hv127_3.symm.trans hx127_3); injection hv127_3 with hva_ hvn_ hvc_; rw [hva_] at ge127_3; rw [hvc_] at ul127_3; have HL127_3 := Aside0.mk (show Kd.V (Kd.int .i64) 3 _ w.heap.size _ _ ((rd_T49 l0 a1).f3) from Kd.V_mk ul127_3 ge127_3); clear hva_ hvn_ hvc_ ge127_3 ul127_3; have hv127_6 := hcc127 6 _ rfl; rw [add_field _ _ 6 (by omega)] at hv127_6; replace hv127_6 := Option.some.inj (hv127_6.symm.trans hx127_6); injection hv127_6 with hva_ hvn_ hvc_; rw [hva_] at ge127_6; rw [hvc_] at ul127_6; have HL127_6 := Aside0.mk (show Kd.V k65 65 _ w.heap.size _ _ ((rd_T49 l0 a1).f6) from Kd.V_mk ul127_6 ge127_6); clear hva_ hvn_ hvc_ ge127_6 ul127_6; clear hcc127 hce127; have HR127_3 := Aside0.mk hi127_3; have HC127_3 := Aside0.mk hl127_3; clear hi127_3 hl127_3; have HR127_6 := Aside0.mk hi127_6; have HC127_6 := Aside0.mk hl127_6; clear hi127_6 hl127_6; replace p127 := eq_true p127; replace q127 := eq_true q127; have p128 : 0 ≤ (a1 : Int) := of_decide_eq_true asm_; have q128 : a1 < (l0.length : Int) := of_decide_eq_true asm_; obtain ⟨ad128, A128_3, c128_3, A128_6, c128_6, e128, hx128_0, hx128_1, hx128_2, hx128_3, hx128_4, hx128_5, hx128_6, hl128_3, hi128_3, hl128_6, hi128_6⟩ := at_T49 (Kd.V_reads' HO0.out).2.2 a1 p128 q128; obtain rfl : ad127 = ad128 := (by injection e128); obtain ⟨ce128, hce128, hMe128, hcc128⟩ := Kd.V_get HO0.out z49 a1 p128 (by first | exact q128 | exact of_decide_eq_true asm_ | (have e_ := (Kd.V_reads' HO0.out).1; omega)); obtain ⟨ua128_3, uc128_3, ua128_6, uc128_6, rfl, ul128_3, ge128_3, ul128_6, ge128_6⟩ := k49_openF hMe128; have hv128_3 := hcc128 3 _ rfl; rw [add_field _ _ 3 (by omega)] at hv128_3; replace hv128_3 := Option.some.inj (hv128_3.symm.trans hx128_3); injection hv128_3 with hva_ hvn_ hvc_; rw [hva_] at ge128_3; rw [hvc_] at ul128_3; have HL128_3 := Aside0.mk (show Kd.V (Kd.int .i64) 3 _ w.heap.size _ _ ((rd_T49 l0 a1).f3) from Kd.V_mk ul128_3 ge128_3); clear hva_ hvn_ hvc_ ge128_3 ul128_3; have hv128_6 := hcc128 6 _ rfl; rw [add_field _ _ 6 (by omega)] at hv128_6; replace hv128_6 := Option.some.inj (hv128_6.symm.trans hx128_6); injection hv128_6 with hva_ hvn_ hvc_; rw [hva_] at ge128_6; rw [hvc_] at ul128_6; have HL128_6 := Aside0.mk (show Kd.V k65 65 _ w.heap.size _ _ ((rd_T49 l0 a1).f6) from Kd.V_mk ul128_6 ge128_6); clear hva_ hvn_ hvc_ ge128_6 ul128_6; clear hcc128 hce128; have HR128_3 := Aside0.mk hi128_3; have HC128_3 := Aside0.mk hl128_3; clear hi128_3 hl128_3; have HR128_6 := Aside0.mk hi128_6; have HC128_6 := Aside0.mk hl128_6; clear hi128_6 hl128_6; replace p128 := eq_true p128; replace q128 := eq_true q128; have ea_ := Option.some.inj (hx127_3.symm.trans hx128_3); injection ea_ with ea_ en_ ec_; subst ea_; subst ec_; clear en_; have ea_ := Option.some.inj (hx127_6.symm.trans hx128_6); injection ea_ with ea_ en_ ec_; subst ea_; subst ec_; clear en_) | ((with_reducible refine gate_callee (f := 16) rfl ?_); refine goesL_ (some 35) rfl rfl Try.func16 (by kernel_rfl) rfl #[.slice (some ad127) l0.length c0] rfl margs_ ?_; (with_reducible refine (limelightref01_Copy.calls k _ _ l0 t129 _ ?side1 ?side2 A14.out).mono ?_); (case side1 => exact kcb_ ((Kd.V_reads' HO0.out).2.2)); (case side2 => exact (Kd.V_reads' HO0.out).2.1); rintro e w20 ⟨v130, rfl, ho0, hb⟩; refine ⟨_, rfl, ?_⟩; have n0_ := Aside0.mk (Kd.V_elder' (by (with_reducible repeat (first | apply Kd.V_alloc | apply Kd.V_drewN | apply Kd.V_drew)); exact HO0.out) (Kd.S_base ho0) hb); have n1_ := Aside0.mk (Kd.V_elder' (by (with_reducible repeat (first | apply Kd.V_alloc | apply Kd.V_drewN | apply Kd.V_drew)); exact HL127_3.out) (Kd.S_base ho0) hb); have n2_ := Aside0.mk (Kd.V_elder' (by (with_reducible repeat (first | apply Kd.V_alloc | apply Kd.V_drewN | apply Kd.V_drew)); exact HL127_6.out) (Kd.S_base ho0) hb); have n3_ := Aside0.mk (Kd.V_elder' (by (with_reducible repeat (first | apply Kd.V_alloc | apply Kd.V_drewN | apply Kd.V_drew)); exact HL128_3.out) (Kd.S_base ho0) hb); have n4_ := Aside0.mk (Kd.V_elder' (by (with_reducible repeat (first | apply Kd.V_alloc | apply Kd.V_drewN | apply Kd.V_drew)); exact HL128_6.out) (Kd.S_base ho0) hb); have n5_ := Aside0.mk (Kd.S_lower (Kd.S_newM (M := fun k_ => (w.heap.size ≤ k_)) ho0 (below_size bel_) (fun k_ h_ => h_)) (below_size bel_)); have n6_ := Aside0.mk (Kd.C_below (by repeat (first | (with_reducible exact HR127_3.out) | (with_reducible refine Kd.C_alloc ?_ _) | (with_reducible refine Kd.C_drewN ?_ _) | (with_reducible refine Kd.C_drew ?_) | exact HR127_3.out)) hb); have n7_ := Aside0.mk (Kd.C_below (by repeat (first | (with_reducible exact HR127_6.out) | (with_reducible refine Kd.C_alloc ?_ _) | (with_reducible refine Kd.C_drewN ?_ _) | (with_reducible refine Kd.C_drew ?_) | exact HR127_6.out)) hb); have n8_ := Aside0.mk (Kd.C_below (by repeat (first | (with_reducible exact HR128_3.out) | (with_reducible refine Kd.C_alloc ?_ _) | (with_reducible refine Kd.C_drewN ?_ _) | (with_reducible refine Kd.C_drew ?_) | exact HR128_3.out)) hb); have n9_ := Aside0.mk (Kd.C_below (by repeat (first | (with_reducible exact HR128_6.out) | (with_reducible refine Kd.C_alloc ?_ _) | (with_reducible refine Kd.C_drewN ?_ _) | (with_reducible refine Kd.C_drew ?_) | exact HR128_6.out)) hb); have n10_ := Aside0.mk (below_step bel_ hb); clear HO0; clear HL127_3; clear HL127_6; clear HL128_3; clear HL128_6; clear HR127_3; clear HR127_6; clear HR128_3; clear HR128_6; clear HB; have HO0 := n0_; have HL127_3 := n1_; have HL127_6 := n2_; have HL128_3 := n3_; have HL128_6 := n4_; have HO131 := n5_; have HR127_3 := n6_; have HR127_6 := n7_; have HR128_3 := n8_; have HR128_6 := n9_; have HB := n10_; clear n0_ n1_ n2_ n3_ n4_ n5_ n6_ n7_ n8_ n9_ n10_; (try clear hb); (try clear hb2); (try clear hk); (try clear hi); (try clear ho0); have p16 : 0 ≤ (a1 : Int) := of_decide_eq_true asm_; have q16 : (a1 : Int) < ((t129.length : Int) : Int) := of_decide_eq_true asm_; obtain ⟨go16, co16, eo16, gb16, gl16, cl16, HG16⟩ := Kd.S_form HO131.out (by omega); (first | cases eo16 | (injection eo16 with ea_ en_ ec_; (first | subst ea_ | (injection ea_ with ea_; subst ea_)); subst ec_; clear en_)); have GB16 := Aside0.mk gb16; have GG16 := Aside0.mk HG16; clear gb16 gl16 HG16; obtain ⟨_, ce16, hcl16, hM16, hcc16, hfr16, _, _⟩ := Kd.S_elem HO131.out z49 (a1 : Int) p16 q16; obtain ⟨ve16_3, ve16_6, rfl, ge16_3, ge16_6⟩ := k49_openM hM16; have hx16_0 : w20.cell? ⟨go16, (a1 : Int).toNat * 7, none⟩ = some (.int .i64 ((rd_T49 t129 a1).f0)) := hcc16 0 _ rfl; have hx16_1 : w20.cell? ⟨go16, (a1 : Int).toNat * 7 + 1, none⟩ = some (.int .i64 ((rd_T49 t129 a1).f1)) := hcc16 1 _ rfl; have hx16_2 : w20.cell? ⟨go16, (a1 : Int).toNat * 7 + 2, none⟩ = some (.int .i64 ((rd_T49 t129 a1).f2)) := hcc16 2 _ rfl; have hx16_3 : w20.cell? ⟨go16, (a1 : Int).toNat * 7 + 3, none⟩ = some (ve16_3) := hcc16 3 _ rfl; have hx16_4 : w20.cell? ⟨go16, (a1 : Int).toNat * 7 + 4, none⟩ = some (.int .i64 ((rd_T49 t129 a1).f4)) := hcc16 4 _ rfl; have hx16_5 : w20.cell? ⟨go16, (a1 : Int).toNat * 7 + 5, none⟩ = some (.int .i64 ((rd_T49 t129 a1).f5)) := hcc16 5 _ rfl; have hx16_6 : w20.cell? ⟨go16, (a1 : Int).toNat * 7 + 6, none⟩ = some (ve16_6) := hcc16 6 _ rfl; have hf16_0 : w20.frozen? ⟨go16, (a1 : Int).toNat * 7, none⟩ = false := hfr16 0; have hf16_1 : w20.frozen? ⟨go16, (a1 : Int).toNat * 7 + 1, none⟩ = false := hfr16 1; have hf16_2 : w20.frozen? ⟨go16, (a1 : Int).toNat * 7 + 2, none⟩ = false := hfr16 2; have hf16_3 : w20.frozen? ⟨go16, (a1 : Int).toNat * 7 + 3, none⟩ = false := hfr16 3; have hf16_4 : w20.frozen? ⟨go16, (a1 : Int).toNat * 7 + 4, none⟩ = false := hfr16 4; have hf16_5 : w20.frozen? ⟨go16, (a1 : Int).toNat * 7 + 5, none⟩ = false := hfr16 5; have hf16_6 : w20.frozen? ⟨go16, (a1 : Int).toNat * 7 + 6, none⟩ = false := hfr16 6; clear hcl16 hcc16 hfr16 hM16; replace p16 := eq_true p16; replace q16 := eq_true q16; have n_ := Aside0.mk (Kd.S_mono (ok' := (fun k_ => (w.heap.size ≤ k_))) HO131.out (fun k_ hk => hk.1)); clear HO131; have HO131 := n_; clear n_; have HX21 := Aside0.mk (show Kd.S k49 49 w20 w.heap.size (fun k_ => ((fun k_ => (w.heap.size ≤ k_))) k_ ∧ ¬ ((fun _ => False)) k_) (.slice (some ⟨go16, 0, none⟩) t129.length co16) t129 from (by (with_reducible repeat (first | apply Kd.S_alloc | apply Kd.S_drewN | apply Kd.S_drew)); exact Kd.S_mono HO131.out (fun k_ hk => ⟨hk, fun e_ => e_⟩))); obtain ⟨oki21, ce21, hcl21, hM21, hcc21, hfr21, hoki21, hH21⟩ := Kd.S_elem HX21.out z49 (a1 : Int) (of_decide_eq_true asm_) (by have h_ : (a1 : Int) < ((t129.length : Int) : Int) := of_decide_eq_true asm_; first | exact h_ | (have e_ := (Kd.S_reads' HO131.out).1; omega) | simpa using h_); obtain ⟨ve21_3, ve21_6, rfl, ge21_3, ge21_6⟩ := k49_openM hM21; have HP21 := Kd.S_seg hH21 (of_decide_eq_true asm_) (by have h_ : (a1 : Int) < ((t129.length : Int) : Int) := of_decide_eq_true asm_; first | exact h_ | (have e_ := (Kd.S_reads' HO131.out).1; omega) | simpa using h_) (seg := [.int .i64 (l0.length : Int)]) (j := 5) (show 6 ≤ 7 from by decide) (x' := (⟨(rd_T49 t129 a1).f0, (rd_T49 t129 a1).f1, (rd_T49 t129 a1).f2, (rd_T49 t129 a1).f3, (rd_T49 t129 a1).f4, (l0.length : Int), (rd_T49 t129 a1).f6⟩ : S49)) (k49_mkM _ _ _ (⟨(rd_T49 t129 a1).f0, (rd_T49 t129 a1).f1, (rd_T49 t129 a1).f2, (rd_T49 t129 a1).f3, (rd_T49 t129 a1).f4, (l0.length : Int), (rd_T49 t129 a1).f6⟩ : S49) (Kd.R_mono ge21_3 (fun _ h_ => Or.inl h_)) (Kd.R_mono ge21_6 (fun _ h_ => Or.inl h_))) (fun _ hk => hk) (fun k_ hk_ => hk_.elim); have hx21_5 := hcc21 5 _ rfl; (try simp only [show (k49).sz = 7 from rfl, Nat.mul_one, Nat.add_zero] at hx21_5); have hf21_5 := hfr21 5; (try simp only [show (k49).sz = 7 from rfl, Nat.mul_one, Nat.add_zero] at hf21_5); clear hcl21 hcc21 hfr21 hM21 hoki21 hH21) | ((with_reducible refine gate_store (t := 3) (p := 41) rfl ?_); refine store_event (t := 3) (p := 41) (v := ?vo_w22) (w1 := (w20.setCell ⟨go16, (a1 : Int).toNat * 7 + 5, none⟩ (.int .i64 (l0.length : Int)))) ?hg ?ho ?hn ?hr ?_; (case ho => rfl); (case hg => rfl); (case hn => rfl); (case hr => first | (go_simp; done) | (go_simp; rfl)); intro w22 hw; have hg : w20.grownBy w22 (some go16) := (by rw [hw]; exact HP21.2); have hp_ : Kd.S k49 49 w22 w.heap.size (fun k_ => (w.heap.size ≤ k_)) (.slice (some ⟨go16, 0, none⟩) t129.length co16) y132 := (by rw [hw, Ny132.out]; exact HP21.1); clear HP21; have n0_ := Aside0.mk (Kd.V_afterv (v := (.slice (some ⟨go16, 0, none⟩) t129.length co16)) (v1 := (.slice (some ⟨go16, 0, none⟩) t129.length co16)) (ok := (fun k_ => (P0_ k_ ∨ w.heap.size ≤ k_))) (by (with_reducible repeat (first | apply Kd.V_alloc | apply Kd.V_drewN | apply Kd.V_drew)); exact HO0.out) hg (.inl rfl)); have n1_ := Aside0.mk (Kd.V_afterv (v := (.slice (some ⟨go16, 0, none⟩) t129.length co16)) (v1 := (.slice (some ⟨go16, 0, none⟩) t129.length co16)) (ok := (fun k_ => (P0_ k_ ∨ w.heap.size ≤ k_))) (by (with_reducible repeat (first | apply Kd.V_alloc | apply Kd.V_drewN | apply Kd.V_drew)); exact HL127_3.out) hg (.inl rfl)); have n2_ := Aside0.mk (Kd.V_afterv (v := (.slice (some ⟨go16, 0, none⟩) t129.length co16)) (v1 := (.slice (some ⟨go16, 0, none⟩) t129.length co16)) (ok := (fun k_ => (P0_ k_ ∨ w.heap.size ≤ k_))) (by (with_reducible repeat (first | apply Kd.V_alloc | apply Kd.V_drewN | apply Kd.V_drew)); exact HL127_6.out) hg (.inl rfl)); have n3_ := Aside0.mk (Kd.V_afterv (v := (.slice (some ⟨go16, 0, none⟩) t129.length co16)) (v1 := (.slice (some ⟨go16, 0, none⟩) t129.length co16)) (ok := (fun k_ => (P0_ k_ ∨ w.heap.size ≤ k_))) (by (with_reducible repeat (first | apply Kd.V_alloc | apply Kd.V_drewN | apply Kd.V_drew)); exact HL128_3.out) hg (.inl rfl)); have n4_ := Aside0.mk (Kd.V_afterv (v := (.slice (some ⟨go16, 0, none⟩) t129.length co16)) (v1 := (.slice (some ⟨go16, 0, none⟩) t129.length co16)) (ok := (fun k_ => (P0_ k_ ∨ w.heap.size ≤ k_))) (by (with_reducible repeat (first | apply Kd.V_alloc | apply Kd.V_drewN | apply Kd.V_drew)); exact HL128_6.out) hg (.inl rfl)); have n5_ := Aside0.mk (hp_); have n6_ := Aside0.mk ((by rw [hw]; exact below_set (HB.out) GB16.out : Below w.heap.size w w22)); clear HO0; clear HL127_3; clear HL127_6; clear HL128_3; clear HL128_6; clear HO131; clear HB; have HO0 := n0_; have HL127_3 := n1_; have HL127_6 := n2_; have HL128_3 := n3_; have HL128_6 := n4_; have HO131 := n5_; have HB := n6_; clear n0_ n1_ n2_ n3_ n4_ n5_ n6_; clear hg hw hp_) | ((with_reducible refine gate_builtin (b := .append) (xs := #[.tmp 42, .tmp 45]) rfl ?_); at_builtin; refine Kd.S_append k49 (w0 := w) w.heap.size rfl (.tmp 42) (.tmp 45) 23 49 (.agg #[(.int .i64 0), (.int .i64 0), (.int .i64 0), (.slice none 0 0), (.int .i64 0), (.int .i64 0), (.slice none 0 0)]) 88 rfl Try.underlying23 info49 rfl (by decide) (by omega) (.slice (some ⟨go16, 0, none⟩) t129.length co16) y132 (⟨3, 0, (-1), ([] : List Int), a1, (-1), ([] : List (S65))⟩ : S49) [.int .i64 3, .int .i64 0, .int .i64 (-1), .slice none 0 0, .int .i64 a1, .int .i64 (-1), .slice none 0 0] (fun k_ => (w.heap.size ≤ k_)) (fun _ => False) rfl rfl ?aP (fun k_ hk_ => hk_.elim) ?aF ?aO ?aB ?aS ?aL ?_; (case aP => exact k49_mkM _ _ _ (⟨3, 0, (-1), ([] : List Int), a1, (-1), ([] : List (S65))⟩ : S49) (Kd.R_nil _ _ _ _ _) (Kd.R_nil _ _ _ _ _)); (case aB => exact bel_); (case aF => exact (fun k_ hk => (Nat.le_trans (below_size bel_) hk))); (case aO => exact (by (with_reducible repeat (first | apply Kd.S_alloc | apply Kd.S_drewN | apply Kd.S_drew)); exact Kd.S_mono HO131.out (fun k_ hk => ⟨hk, fun e_ => e_⟩))); (case aS => exact (below_size bel_)); (case aL => have := LMc17.out; omega); intro v134 w23 ho hb hg hat; rw [← Ny133.out] at ho; have n0_ := Aside0.mk (Kd.V_afterv (ok := (fun k_ => (P0_ k_ ∨ w.heap.size ≤ k_))) (by (with_reducible repeat (first | apply Kd.V_alloc | apply Kd.V_drewN | apply Kd.V_drew)); exact HO0.out) hg hat); have n1_ := Aside0.mk (Kd.V_afterv (ok := (fun k_ => (P0_ k_ ∨ w.heap.size ≤ k_))) (by (with_reducible repeat (first | apply Kd.V_alloc | apply Kd.V_drewN | apply Kd.V_drew)); exact HL127_3.out) hg hat); have n2_ := Aside0.mk (Kd.V_afterv (ok := (fun k_ => (P0_ k_ ∨ w.heap.size ≤ k_))) (by (with_reducible repeat (first | apply Kd.V_alloc | apply Kd.V_drewN | apply Kd.V_drew)); exact HL127_6.out) hg hat); have n3_ := Aside0.mk (Kd.V_afterv (ok := (fun k_ => (P0_ k_ ∨ w.heap.size ≤ k_))) (by (with_reducible repeat (first | apply Kd.V_alloc | apply Kd.V_drewN | apply Kd.V_drew)); exact HL128_3.out) hg hat); have n4_ := Aside0.mk (Kd.V_afterv (ok := (fun k_ => (P0_ k_ ∨ w.heap.size ≤ k_))) (by (with_reducible repeat (first | apply Kd.V_alloc | apply Kd.V_drewN | apply Kd.V_drew)); exact HL128_6.out) hg hat); have n5_ := Aside0.mk (hb); have n6_ := Aside0.mk (ho); clear HO0; clear HL127_3; clear HL127_6; clear HL128_3; clear HL128_6; clear HB; clear HO131; have HO0 := n0_; have HL127_3 := n1_; have HL127_6 := n2_; have HL128_3 := n3_; have HL128_6 := n4_; have HB := n5_; have HO135 := n6_; clear n0_ n1_ n2_ n3_ n4_ n5_ n6_; clear ho hb hg hat))
          go_ret3
          exact ⟨_, by first | rfl | (simp [errW_none, errW_some] <;> rfl) | (simp [*, errW_none, errW_some] <;> rfl), Kd.V_mono (Kd.S_V (by (with_reducible repeat (first | apply Kd.S_alloc | apply Kd.S_drewN | apply Kd.S_drew)); exact HO135.out)) (fun k_ hk => by first | exact ⟨(.inr (hk.1)), hk.2⟩ | exact (.inr (hk))), bel_⟩
         ·rw [if_neg c17] at H
          exact absurd H (by simp)
        ·rw [if_neg c15] at H
         exact absurd H (by simp)
      ·rw [if_neg c10] at H
       have c10b0 : (((rd_T49 l0 a1).f5) == (-1)) = false := beq_eq_false_iff_ne.mpr c10
       have c10b1 : (((rd_T49 l0 a1).f5) != (-1)) = true := bne_iff_ne.mpr c10
       simp only [Option.some.injEq, Prod.mk.injEq] at H
       obtain ⟨rfl, rfl, rfl⟩ := H
       go_enter Try.func14, Try.ntmps14
       go_wp2_with (first | ((with_reducible refine gate_callee (f := 23) rfl ?_); refine goesL_ (some 9) rfl rfl Try.func23 (by kernel_rfl) rfl #[.slice A0 l0.length c0] rfl margs_ ?_; (with_reducible refine (limelightref01_May.calls _ _ l0 true _ ?side1 ?side2 A3.out).mono ?_); (case side1 => exact kcb_ ((Kd.V_reads' HO0.out).2.2)); (case side2 => exact (Kd.V_reads' HO0.out).2.1); rintro e w24 ⟨rfl, hb⟩; refine ⟨_, rfl, ?_⟩; have n0_ := Aside0.mk (Kd.V_below (by (with_reducible repeat (first | apply Kd.V_alloc | apply Kd.V_drewN | apply Kd.V_drew)); exact HO0.out) hb); have n1_ := Aside0.mk (below_step bel_ hb); clear HO0; clear HB; have HO0 := n0_; have HB := n1_; clear n0_ n1_; (try clear hb); (try clear hb2); (try clear hk); (try clear hi)) | ((with_reducible refine gate_callee (f := 24) rfl ?_); refine goesL_ (some 13) rfl rfl Try.func24 (by kernel_rfl) rfl #[.slice A0 l0.length c0, .int .i64 a1] rfl margs_ ?_; (with_reducible refine (limelightref01_Is.calls _ _ l0 a1 true _ ?side1 ?side2 A5.out).mono ?_); (case side1 => exact kcb_ ((Kd.V_reads' HO0.out).2.2)); (case side2 => exact (Kd.V_reads' HO0.out).2.1); rintro e w25 ⟨rfl, hb⟩; refine ⟨_, rfl, ?_⟩; have n0_ := Aside0.mk (Kd.V_below (by (with_reducible repeat (first | apply Kd.V_alloc | apply Kd.V_drewN | apply Kd.V_drew)); exact HO0.out) hb); have n1_ := Aside0.mk (below_step bel_ hb); clear HO0; clear HB; have HO0 := n0_; have HB := n1_; clear n0_ n1_; (try clear hb); (try clear hb2); (try clear hk); (try clear hi); have p127 : 0 ≤ (a1 : Int) := of_decide_eq_true asm_; have q127 : a1 < (l0.length : Int) := of_decide_eq_true asm_; obtain ⟨ad127, A127_3, c127_3, A127_6, c127_6, e127, hx127_0, hx127_1, hx127_2, hx127_3, hx127_4, hx127_5, hx127_6, hl127_3, hi127_3, hl127_6, hi127_6⟩ := at_T49 (Kd.V_reads' HO0.out).2.2 a1 p127 q127; cases e127; obtain ⟨ce127, hce127, hMe127, hcc127⟩ := Kd.V_get HO0.out z49 a1 p127 (by first | exact q127 | exact of_decide_eq_true asm_ | (have e_ := (Kd.V_reads' HO0.out).1; omega)); obtain ⟨ua127_3, uc127_3, ua127_6, uc127_6, rfl, ul127_3, ge127_3, ul127_6, ge127_6⟩ := k49_openF hMe127; have hv127_3 := hcc127 3 _ rfl; rw [add_field _ _ 3 (by omega)] at hv127_3; replace hv127_3 := Option.some.inj (hv127_3.symm.trans hx127_3); injection hv127_3 with hva_ hvn_ hvc_; rw [hva_] at ge127_3; rw [hvc_] at ul127_3; have HL127_3 := Aside0.mk (show Kd.V (Kd.int .i64) 3 _ w.heap.size _ _ ((rd_T49 l0 a1).f3) from Kd.V_mk ul127_3 ge127_3); clear hva_ hvn_ hvc_ ge127_3 ul127_3; have hv127_6 := hcc127 6 _ rfl; rw [add_field _ _ 6 (by omega)] at hv127_6; replace hv127_6 := Option.some.inj (hv127_6.symm.trans hx127_6); injection hv127_6 with hva_ hvn_ hvc_; rw [hva_] at ge127_6; rw [hvc_] at ul127_6; have HL127_6 := Aside0.mk (show Kd.V k65 65 _ w.heap.size _ _ ((rd_T49 l0 a1).f6) from Kd.V_mk ul127_6 ge127_6); clear hva_ hvn_ hvc_ ge127_6 ul127_6; clear hcc127 hce127; have HR127_3 := Aside0.mk hi127_3; have HC127_3 := Aside0.mk hl127_3; clear hi127_3 hl127_3; have HR127_6 := Aside0.mk hi127_6; have HC127_6 := Aside0.mk hl127_6; clear hi127_6 hl127_6; replace p127 := eq_true p127; replace q127 := eq_true q127; have p128 : 0 ≤ (a1 : Int) := of_decide_eq_true asm_; have q128 : a1 < (l0.length : Int) := of_decide_eq_true asm_; obtain ⟨ad128, A128_3, c128_3, A128_6, c128_6, e128, hx128_0, hx128_1, hx128_2, hx128_3, hx128_4, hx128_5, hx128_6, hl128_3, hi128_3, hl128_6, hi128_6⟩ := at_T49 (Kd.V_reads' HO0.out).2.2 a1 p128 q128; obtain rfl : ad127 = ad128 := (by injection e128); obtain ⟨ce128, hce128, hMe128, hcc128⟩ := Kd.V_get HO0.out z49 a1 p128 (by first | exact q128 | exact of_decide_eq_true asm_ | (have e_ := (Kd.V_reads' HO0.out).1; omega)); obtain ⟨ua128_3, uc128_3, ua128_6, uc128_6, rfl, ul128_3, ge128_3, ul128_6, ge128_6⟩ := k49_openF hMe128; have hv128_3 := hcc128 3 _ rfl; rw [add_field _ _ 3 (by omega)] at hv128_3; replace hv128_3 := Option.some.inj (hv128_3.symm.trans hx128_3); injection hv128_3 with hva_ hvn_ hvc_; rw [hva_] at ge128_3; rw [hvc_] at ul128_3; have HL128_3 := Aside0.mk (show Kd.V (Kd.int .i64) 3 _ w.heap.size _ _ ((rd_T49 l0 a1).f3) from Kd.V_mk ul128_3 ge128_3); clear hva_ hvn_ hvc_ ge128_3 ul128_3; have hv128_6 := hcc128 6 _ rfl; rw [add_field _ _ 6 (by omega)] at hv128_6; replace hv128_6 := Option.some.inj (hv128_6.symm.trans hx128_6); injection hv128_6 with hva_ hvn_ hvc_; rw [hva_] at ge128_6; rw [hvc_] at ul128_6; have HL128_6 := Aside0.mk (show Kd.V k65 65 _ w.heap.size _ _ ((rd_T49 l0 a1).f6) from Kd.V_mk ul128_6 ge128_6); clear hva_ hvn_ hvc_ ge128_6 ul128_6; clear hcc128 hce128; have HR128_3 := Aside0.mk hi128_3; have HC128_3 := Aside0.mk hl128_3; clear hi128_3 hl128_3; have HR128_6 := Aside0.mk hi128_6; have HC128_6 := Aside0.mk hl128_6; clear hi128_6 hl128_6; replace p128 := eq_true p128; replace q128 := eq_true q128; have ea_ := Option.some.inj (hx127_3.symm.trans hx128_3); injection ea_ with ea_ en_ ec_; subst ea_; subst ec_; clear en_; have ea_ := Option.some.inj (hx127_6.symm.trans hx128_6); injection ea_ with ea_ en_ ec_; subst ea_; subst ec_; clear en_))
       go_ret3
       exact ⟨_, by first | rfl | (simp [errW_none, errW_some] <;> rfl) | (simp [*, errW_none, errW_some] <;> rfl), by (with_reducible repeat (first | apply Kd.V_alloc | apply Kd.V_drewN | apply Kd.V_drew)); exact HO0.out, bel_⟩
     ·rw [if_neg c9] at H
      have c9b0 : (((rd_T49 l0 a1).f0) == 1) = false := beq_eq_false_iff_ne.mpr c9
      have c9b1 : (((rd_T49 l0 a1).f0) != 1) = true := bne_iff_ne.mpr c9
      simp only [Option.some.injEq, Prod.mk.injEq] at H
      obtain ⟨rfl, rfl, rfl⟩ := H
      go_enter Try.func14, Try.ntmps14
      go_wp2_with (first | ((with_reducible refine gate_callee (f := 23) rfl ?_); refine goesL_ (some 9) rfl rfl Try.func23 (by kernel_rfl) rfl #[.slice A0 l0.length c0] rfl margs_ ?_; (with_reducible refine (limelightref01_May.calls _ _ l0 true _ ?side1 ?side2 A3.out).mono ?_); (case side1 => exact kcb_ ((Kd.V_reads' HO0.out).2.2)); (case side2 => exact (Kd.V_reads' HO0.out).2.1); rintro e w26 ⟨rfl, hb⟩; refine ⟨_, rfl, ?_⟩; have n0_ := Aside0.mk (Kd.V_below (by (with_reducible repeat (first | apply Kd.V_alloc | apply Kd.V_drewN | apply Kd.V_drew)); exact HO0.out) hb); have n1_ := Aside0.mk (below_step bel_ hb); clear HO0; clear HB; have HO0 := n0_; have HB := n1_; clear n0_ n1_; (try clear hb); (try clear hb2); (try clear hk); (try clear hi)) | ((with_reducible refine gate_callee (f := 24) rfl ?_); refine goesL_ (some 13) rfl rfl Try.func24 (by kernel_rfl) rfl #[.slice A0 l0.length c0, .int .i64 a1] rfl margs_ ?_; (with_reducible refine (limelightref01_Is.calls _ _ l0 a1 true _ ?side1 ?side2 A5.out).mono ?_); (case side1 => exact kcb_ ((Kd.V_reads' HO0.out).2.2)); (case side2 => exact (Kd.V_reads' HO0.out).2.1); rintro e w27 ⟨rfl, hb⟩; refine ⟨_, rfl, ?_⟩; have n0_ := Aside0.mk (Kd.V_below (by (with_reducible repeat (first | apply Kd.V_alloc | apply Kd.V_drewN | apply Kd.V_drew)); exact HO0.out) hb); have n1_ := Aside0.mk (below_step bel_ hb); clear HO0; clear HB; have HO0 := n0_; have HB := n1_; clear n0_ n1_; (try clear hb); (try clear hb2); (try clear hk); (try clear hi); have p127 : 0 ≤ (a1 : Int) := of_decide_eq_true asm_; have q127 : a1 < (l0.length : Int) := of_decide_eq_true asm_; obtain ⟨ad127, A127_3, c127_3, A127_6, c127_6, e127, hx127_0, hx127_1, hx127_2, hx127_3, hx127_4, hx127_5, hx127_6, hl127_3, hi127_3, hl127_6, hi127_6⟩ := at_T49 (Kd.V_reads' HO0.out).2.2 a1 p127 q127; cases e127; obtain ⟨ce127, hce127, hMe127, hcc127⟩ := Kd.V_get HO0.out z49 a1 p127 (by first | exact q127 | exact of_decide_eq_true asm_ | (have e_ := (Kd.V_reads' HO0.out).1; omega)); obtain ⟨ua127_3, uc127_3, ua127_6, uc127_6, rfl, ul127_3, ge127_3, ul127_6, ge127_6⟩ := k49_openF hMe127; have hv127_3 := hcc127 3 _ rfl; rw [add_field _ _ 3 (by omega)] at hv127_3; replace hv127_3 := Option.some.inj (hv127_3.symm.trans hx127_3); injection hv127_3 with hva_ hvn_ hvc_; rw [hva_] at ge127_3; rw [hvc_] at ul127_3; have HL127_3 := Aside0.mk (show Kd.V (Kd.int .i64) 3 _ w.heap.size _ _ ((rd_T49 l0 a1).f3) from Kd.V_mk ul127_3 ge127_3); clear hva_ hvn_ hvc_ ge127_3 ul127_3; have hv127_6 := hcc127 6 _ rfl; rw [add_field _ _ 6 (by omega)] at hv127_6; replace hv127_6 := Option.some.inj (hv127_6.symm.trans hx127_6); injection hv127_6 with hva_ hvn_ hvc_; rw [hva_] at ge127_6; rw [hvc_] at ul127_6; have HL127_6 := Aside0.mk (show Kd.V k65 65 _ w.heap.size _ _ ((rd_T49 l0 a1).f6) from Kd.V_mk ul127_6 ge127_6); clear hva_ hvn_ hvc_ ge127_6 ul127_6; clear hcc127 hce127; have HR127_3 := Aside0.mk hi127_3; have HC127_3 := Aside0.mk hl127_3; clear hi127_3 hl127_3; have HR127_6 := Aside0.mk hi127_6; have HC127_6 := Aside0.mk hl127_6; clear hi127_6 hl127_6; replace p127 := eq_true p127; replace q127 := eq_true q127))
      go_ret3
      exact ⟨_, by first | rfl | (simp [errW_none, errW_some] <;> rfl) | (simp [*, errW_none, errW_some] <;> rfl), by (with_reducible repeat (first | apply Kd.V_alloc | apply Kd.V_drewN | apply Kd.V_drew)); exact HO0.out, bel_⟩
    ·rw [if_neg c8] at H
     exact absurd H (by simp)
   ·rw [if_neg c7] at H
    exact absurd H (by simp)
  ·replace c6 := Bool.eq_false_iff.mpr c6
   subst c6
   have H1 : (some (l0, 0, 2)) = some (r1, r2, r3) := by rw [if_neg (show ¬ (false = true) by decide)] at H; exact H
   clear H
   have H := H1
   clear H1
   simp only [Option.some.injEq, Prod.mk.injEq] at H
   obtain ⟨rfl, rfl, rfl⟩ := H
   go_enter Try.func14, Try.ntmps14
   go_wp2_with (first | ((with_reducible refine gate_callee (f := 23) rfl ?_); refine goesL_ (some 9) rfl rfl Try.func23 (by kernel_rfl) rfl #[.slice A0 l0.length c0] rfl margs_ ?_; (with_reducible refine (limelightref01_May.calls _ _ l0 true _ ?side1 ?side2 A3.out).mono ?_); (case side1 => exact kcb_ ((Kd.V_reads' HO0.out).2.2)); (case side2 => exact (Kd.V_reads' HO0.out).2.1); rintro e w28 ⟨rfl, hb⟩; refine ⟨_, rfl, ?_⟩; have n0_ := Aside0.mk (Kd.V_below (by (with_reducible repeat (first | apply Kd.V_alloc | apply Kd.V_drewN | apply Kd.V_drew)); exact HO0.out) hb); have n1_ := Aside0.mk (below_step bel_ hb); clear HO0; clear HB; have HO0 := n0_; have HB := n1_; clear n0_ n1_; (try clear hb); (try clear hb2); (try clear hk); (try clear hi)) | ((with_reducible refine gate_callee (f := 24) rfl ?_); refine goesL_ (some 13) rfl rfl Try.func24 (by kernel_rfl) rfl #[.slice A0 l0.length c0, .int .i64 a1] rfl margs_ ?_; (with_reducible refine (limelightref01_Is.calls _ _ l0 a1 false _ ?side1 ?side2 A5.out).mono ?_); (case side1 => exact kcb_ ((Kd.V_reads' HO0.out).2.2)); (case side2 => exact (Kd.V_reads' HO0.out).2.1); rintro e w29 ⟨rfl, hb⟩; refine ⟨_, rfl, ?_⟩; have n0_ := Aside0.mk (Kd.V_below (by (with_reducible repeat (first | apply Kd.V_alloc | apply Kd.V_drewN | apply Kd.V_drew)); exact HO0.out) hb); have n1_ := Aside0.mk (below_step bel_ hb); clear HO0; clear HB; have HO0 := n0_; have HB := n1_; clear n0_ n1_; (try clear hb); (try clear hb2); (try clear hk); (try clear hi)))
   go_ret3
   exact ⟨_, by first | rfl | (simp [errW_none, errW_some] <;> rfl) | (simp [*, errW_none, errW_some] <;> rfl), by (with_reducible repeat (first | apply Kd.V_alloc | apply Kd.V_drewN | apply Kd.V_drew)); exact HO0.out, bel_⟩
 ·replace c4 := Bool.eq_false_iff.mpr c4
  subst c4
  have H1 : (some (([] : List (S49)), 0, 1)) = some (r1, r2, r3) := by rw [if_neg (show ¬ (false = true) by decide)] at H; exact H
  clear H
  have H := H1
  clear H1
  simp only [Option.some.injEq, Prod.mk.injEq] at H
  obtain ⟨rfl, rfl, rfl⟩ := H
  go_enter Try.func14, Try.ntmps14
  go_wp2_with (first | ((with_reducible refine gate_callee (f := 23) rfl ?_); refine goesL_ (some 9) rfl rfl Try.func23 (by kernel_rfl) rfl #[.slice A0 l0.length c0] rfl margs_ ?_; (with_reducible refine (limelightref01_May.calls _ _ l0 false _ ?side1 ?side2 A3.out).mono ?_); (case side1 => exact kcb_ ((Kd.V_reads' HO0.out).2.2)); (case side2 => exact (Kd.V_reads' HO0.out).2.1); rintro e w30 ⟨rfl, hb⟩; refine ⟨_, rfl, ?_⟩; have n0_ := Aside0.mk (Kd.V_below (by (with_reducible repeat (first | apply Kd.V_alloc | apply Kd.V_drewN | apply Kd.V_drew)); exact HO0.out) hb); have n1_ := Aside0.mk (below_step bel_ hb); clear HO0; clear HB; have HO0 := n0_; have HB := n1_; clear n0_ n1_; (try clear hb); (try clear hb2); (try clear hk); (try clear hi)))
  go_ret3
  exact ⟨_, by first | rfl | (simp [errW_none, errW_some] <;> rfl) | (simp [*, errW_none, errW_some] <;> rfl), Kd.V_nil _ _ _ _ _, bel_⟩

-- GIVEN: function 27 (limelightref01_Ints): ME

end Go.Proofs.Ytclhmgchllenlaa.P
