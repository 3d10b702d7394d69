import Derived.Test.YtclhmgchllenlaaPx0
import Derived.Test.YtclhmgchllenlaaPx1
import Derived.Test.YtclhmgchllenlaaLiv01
import Derived.Test.YtclhmgchllenlaaME
-- printed by wip/tools/pp.sh (a patched copy of the print's program), for this claim.
namespace Go.Proofs.Ytclhmgchllenlaa.P
open Go.RowKit Go.Proofs.YtclhmgchllenlaaW.PrintWords Go.Proofs.YtclhmgchllenlaaW.PrintLast Go.Proofs.YtclhmgchllenlaaW.PrintMore
attribute [local go_sem] max2_int min2_int max_two min_two max_three min_three max_four min_four   -- for this text's walks alone
set_option linter.unusedVariables false
set_option linter.unusedSimpArgs false

/-! ### limelightlaw01_TreeOnce: function 7 -/
mutual
def limelightlaw01_TreeOnce.j0 : Nat → List (S49) → Bool → Option (Bool)
 | 0, _, _ => none
 | k + 1, x0, x15 => if x15 = true then ((limelightlaw01_live.f).bind fun t329 => (some t329)) else (limelightlaw01_TreeOnce.l0 k x0 0)
def limelightlaw01_TreeOnce.l0 : Nat → List (S49) → Int → Option (Bool)
 | 0, _, _ => none
 | k + 1, x0, x3 => if x3 < (x0.length : Int) then (limelightlaw01_TreeOnce.l1 k x0 x3 0 0 0) else ((limelightlaw01_live.f).bind fun t330 => (some t330))
def limelightlaw01_TreeOnce.l1 : Nat → List (S49) → Int → Int → Int → Int → Option (Bool)
 | 0, _, _, _, _, _ => none
 | k + 1, x0, x3, x4, x5, x6 => if x6 < (x0.length : Int) then (limelightlaw01_TreeOnce.l2 k x0 x3 x4 x5 x6 0) else (if 0 ≤ x3 then (if x3 < (x0.length : Int) then (if ((((rd_T49 x0 x3).f2) == (-1)) != (x4 == 0)) = true then (none) else (if x4 > 1 then (none) else (if ((x5 == 1) != (((rd_T49 x0 x3).f0) == 3)) = true then (none) else (if x5 > 1 then (none) else (limelightlaw01_TreeOnce.l0 k x0 (wrap64 (x3 + 1))))))) else (none)) else (none))
def limelightlaw01_TreeOnce.l2 : Nat → List (S49) → Int → Int → Int → Int → Int → Option (Bool)
 | 0, _, _, _, _, _, _ => none
 | k + 1, x0, x3, x4, x5, x6, x7 => if 0 ≤ x6 then (if x6 < (x0.length : Int) then (if x7 < (((rd_T49 x0 x6).f3).length : Int) then (if 0 ≤ x7 then (if (rd ((rd_T49 x0 x6).f3) x7) = x3 then (limelightlaw01_TreeOnce.l2 k x0 x3 (wrap64 (x4 + 1)) x5 x6 (wrap64 (x7 + 1))) else (limelightlaw01_TreeOnce.l2 k x0 x3 x4 x5 x6 (wrap64 (x7 + 1)))) else (none)) else (if ((rd_T49 x0 x6).f5) = x3 then (limelightlaw01_TreeOnce.l1 k x0 x3 x4 (wrap64 (x5 + 1)) (wrap64 (x6 + 1))) else (limelightlaw01_TreeOnce.l1 k x0 x3 x4 x5 (wrap64 (x6 + 1))))) else (none)) else (none)
end
def limelightlaw01_TreeOnce.f (k : Nat) (l0 : List (S49)) : Option (Bool) := (limelightref01_Small.f l0).bind fun t327 => (if t327 = true then ((tree_Check.f l0).bind fun t328 => (limelightlaw01_TreeOnce.j0 k l0 (t328 != 0))) else (limelightlaw01_TreeOnce.j0 k l0 true))
theorem limelightlaw01_TreeOnce.mono_l : ∀ k, (∀ y0 y1, LeO (limelightlaw01_TreeOnce.j0 k y0 y1) (limelightlaw01_TreeOnce.j0 (k + 1) y0 y1)) ∧ (∀ y0 y1, LeO (limelightlaw01_TreeOnce.l0 k y0 y1) (limelightlaw01_TreeOnce.l0 (k + 1) y0 y1)) ∧ (∀ y0 y1 y2 y3 y4, LeO (limelightlaw01_TreeOnce.l1 k y0 y1 y2 y3 y4) (limelightlaw01_TreeOnce.l1 (k + 1) y0 y1 y2 y3 y4)) ∧ (∀ y0 y1 y2 y3 y4 y5, LeO (limelightlaw01_TreeOnce.l2 k y0 y1 y2 y3 y4 y5) (limelightlaw01_TreeOnce.l2 (k + 1) y0 y1 y2 y3 y4 y5))
 | 0 => ⟨fun _ _ r h => by simp [limelightlaw01_TreeOnce.j0] at h, fun _ _ r h => by simp [limelightlaw01_TreeOnce.l0] at h, fun _ _ _ _ _ r h => by simp [limelightlaw01_TreeOnce.l1] at h, fun _ _ _ _ _ _ r h => by simp [limelightlaw01_TreeOnce.l2] at h⟩
 | k + 1 => by
  obtain ⟨ih0, ih1, ih2, ih3⟩ := limelightlaw01_TreeOnce.mono_l k
  refine ⟨?_, ?_, ?_, ?_⟩
  ·intro y0 y1
   unfold limelightlaw01_TreeOnce.j0
   repeat' first
   | (with_reducible exact ih0 _ _)
   | (with_reducible exact ih1 _ _)
   | (with_reducible exact ih2 _ _ _ _ _)
   | (with_reducible exact ih3 _ _ _ _ _ _)
   | (with_reducible exact LeO.refl _)
   | (with_reducible exact LeO.none _)
   | (with_reducible refine LeO.ite ?_ ?_)
   | (with_reducible refine LeO.bind ?_ (fun _ => ?_))
   | exact ih0 _ _
   | exact ih1 _ _
   | exact ih2 _ _ _ _ _
   | exact ih3 _ _ _ _ _ _
   | exact LeO.none _
   | refine LeO.ite ?_ ?_
   | refine LeO.bind ?_ (fun _ => ?_)
  ·intro y0 y1
   unfold limelightlaw01_TreeOnce.l0
   repeat' first
   | (with_reducible exact ih0 _ _)
   | (with_reducible exact ih1 _ _)
   | (with_reducible exact ih2 _ _ _ _ _)
   | (with_reducible exact ih3 _ _ _ _ _ _)
   | (with_reducible exact LeO.refl _)
   | (with_reducible exact LeO.none _)
   | (with_reducible refine LeO.ite ?_ ?_)
   | (with_reducible refine LeO.bind ?_ (fun _ => ?_))
   | exact ih0 _ _
   | exact ih1 _ _
   | exact ih2 _ _ _ _ _
   | exact ih3 _ _ _ _ _ _
   | exact LeO.none _
   | refine LeO.ite ?_ ?_
   | refine LeO.bind ?_ (fun _ => ?_)
  ·intro y0 y1 y2 y3 y4
   unfold limelightlaw01_TreeOnce.l1
   repeat' first
   | (with_reducible exact ih0 _ _)
   | (with_reducible exact ih1 _ _)
   | (with_reducible exact ih2 _ _ _ _ _)
   | (with_reducible exact ih3 _ _ _ _ _ _)
   | (with_reducible exact LeO.refl _)
   | (with_reducible exact LeO.none _)
   | (with_reducible refine LeO.ite ?_ ?_)
   | (with_reducible refine LeO.bind ?_ (fun _ => ?_))
   | exact ih0 _ _
   | exact ih1 _ _
   | exact ih2 _ _ _ _ _
   | exact ih3 _ _ _ _ _ _
   | exact LeO.none _
   | refine LeO.ite ?_ ?_
   | refine LeO.bind ?_ (fun _ => ?_)
  ·intro y0 y1 y2 y3 y4 y5
   unfold limelightlaw01_TreeOnce.l2
   repeat' first
   | (with_reducible exact ih0 _ _)
   | (with_reducible exact ih1 _ _)
   | (with_reducible exact ih2 _ _ _ _ _)
   | (with_reducible exact ih3 _ _ _ _ _ _)
   | (with_reducible exact LeO.refl _)
   | (with_reducible exact LeO.none _)
   | (with_reducible refine LeO.ite ?_ ?_)
   | (with_reducible refine LeO.bind ?_ (fun _ => ?_))
   | exact ih0 _ _
   | exact ih1 _ _
   | exact ih2 _ _ _ _ _
   | exact ih3 _ _ _ _ _ _
   | exact LeO.none _
   | refine LeO.ite ?_ ?_
   | refine LeO.bind ?_ (fun _ => ?_)
theorem limelightlaw01_TreeOnce.mono : ∀ a0 k, LeO (limelightlaw01_TreeOnce.f k a0) (limelightlaw01_TreeOnce.f (k + 1) a0) := by
 intro a0 k
 obtain ⟨ih0, ih1, ih2, ih3⟩ := limelightlaw01_TreeOnce.mono_l k
 unfold limelightlaw01_TreeOnce.f
 repeat' first
   | (with_reducible exact ih0 _ _)
   | (with_reducible exact ih1 _ _)
   | (with_reducible exact ih2 _ _ _ _ _)
   | (with_reducible exact ih3 _ _ _ _ _ _)
   | (with_reducible exact LeO.refl _)
   | (with_reducible exact LeO.none _)
   | (with_reducible refine LeO.ite ?_ ?_)
   | (with_reducible refine LeO.bind ?_ (fun _ => ?_))
   | exact ih0 _ _
   | exact ih1 _ _
   | exact ih2 _ _ _ _ _
   | exact ih3 _ _ _ _ _ _
   | exact LeO.none _
   | refine LeO.ite ?_ ?_
   | refine LeO.bind ?_ (fun _ => ?_)
set_option maxHeartbeats 8000000 in
set_option maxRecDepth 100000 in
theorem limelightlaw01_TreeOnce.calls (k : Nat) (A0 : Option Addr) (c0 : Nat) (l0 : List (S49)) (r : Bool) (w : World) (hr0 : Kd.C k49 w A0 l0.length l0) (hc0 : l0.length ≤ c0) (h : limelightlaw01_TreeOnce.f k l0 = some r) :
  Calls Try.prog 7 #[.slice A0 l0.length c0] w fun e w' => e = .returned (.bool r) ∧ Below w.heap.size w w' := by
 have HR0 := Aside0.mk hr0
 have HC0 := Aside0.mk hc0
 clear hr0 hc0
 have HB := Aside0.mk (Below.refl w.heap.size w)
 have H : ((limelightref01_Small.f l0).bind fun t327 => (if t327 = true then ((tree_Check.f l0).bind fun t328 => (limelightlaw01_TreeOnce.j0 k l0 (t328 != 0))) else (limelightlaw01_TreeOnce.j0 k l0 true))) = some r := h
 clear h
 have HC2 := Aside0.mk H
 clear H
 go_enter Try.func7, Try.ntmps7
 go_upto_region 1 with (fail)
 go_cut [15] (fun v15 wc => ∃ (kq : Nat) (x15_1 : Bool), v15 = .bool x15_1 ∧ Aside0 (limelightlaw01_TreeOnce.j0 kq l0 x15_1 = some r) ∧ Aside0 (kq ≤ k) ∧ Aside0 (Below w.heap.size w wc))
 case first =>
  have H := HC2.out
  clear HC2
  replace H := Option.bind_eq_some_iff.mp H
  obtain ⟨t327, A30, H⟩ := H
  replace H : (if t327 = true then ((tree_Check.f l0).bind fun t328 => (limelightlaw01_TreeOnce.j0 k l0 (t328 != 0))) else (limelightlaw01_TreeOnce.j0 k l0 true)) = some r := H
  have A3 := Aside0.mk A30
  clear A30
  by_cases c4 : t327 = true
  ·subst c4
   have H1 : ((tree_Check.f l0).bind fun t328 => (limelightlaw01_TreeOnce.j0 k l0 (t328 != 0))) = some r := by rw [if_pos rfl] at H; exact H
   clear H
   have H := H1
   clear H1
   replace H := Option.bind_eq_some_iff.mp H
   obtain ⟨t328, A50, H⟩ := H
   replace H : (limelightlaw01_TreeOnce.j0 k l0 (t328 != 0)) = some r := H
   have A5 := Aside0.mk A50
   clear A50
   have H' := Aside0.mk H
   clear H
   go_wp2_with (first | ((with_reducible refine gate_callee (f := 9) rfl ?_); refine goesL_ (some 9) rfl rfl Try.func9 (by kernel_rfl) rfl #[.slice A0 l0.length c0] rfl margs_ ?_; (with_reducible refine (limelightref01_Small.calls _ _ l0 true _ ?side1 ?side2 A3.out).mono ?_); (case side1 => exact kcb_ ((Kd.C_below HR0.out HB.out))); (case side2 => exact HC0.out); rintro e w6 ⟨rfl, hb⟩; refine ⟨_, rfl, ?_⟩; have n0_ := Aside0.mk (below_step bel_ hb); clear HB; have HB := n0_; clear n0_; (try clear hb); (try clear hb2); (try clear hk); (try clear hi)) | (go_at_call 25; (with_reducible refine (tree_Check.calls _ _ l0 t328 _ ?side1 ?side2 A5.out).mono ?_); (case side1 => exact kcb_ ((Kd.C_below HR0.out HB.out))); (case side2 => exact HC0.out); rintro e w7 ⟨rfl, hb⟩; have n0_ := Aside0.mk (below_step bel_ hb); clear HB; have HB := n0_; clear n0_; (try clear hb); (try clear hb2); (try clear hk); (try clear hi)))
   go_meet
   case rel => exact ⟨_, ((t328 != 0)), (by first | rfl | (simp; done) | (simp [*]; done)), H', ⟨by first | omega | exact Nat.le_refl _⟩, ⟨bel_⟩⟩
  ·replace c4 := Bool.eq_false_iff.mpr c4
   subst c4
   have H1 : (limelightlaw01_TreeOnce.j0 k l0 true) = some r := by rw [if_neg (show ¬ (false = true) by decide)] at H; exact H
   clear H
   have H := H1
   clear H1
   have H' := Aside0.mk H
   clear H
   go_wp2_with (first | ((with_reducible refine gate_callee (f := 9) rfl ?_); refine goesL_ (some 9) rfl rfl Try.func9 (by kernel_rfl) rfl #[.slice A0 l0.length c0] rfl margs_ ?_; (with_reducible refine (limelightref01_Small.calls _ _ l0 false _ ?side1 ?side2 A3.out).mono ?_); (case side1 => exact kcb_ ((Kd.C_below HR0.out HB.out))); (case side2 => exact HC0.out); rintro e w8 ⟨rfl, hb⟩; refine ⟨_, rfl, ?_⟩; have n0_ := Aside0.mk (below_step bel_ hb); clear HB; have HB := n0_; clear n0_; (try clear hb); (try clear hb2); (try clear hk); (try clear hi)))
   go_meet
   case rel => exact ⟨_, (true), (by first | rfl | (simp; done) | (simp [*]; done)), H', ⟨by first | omega | exact Nat.le_refl _⟩, ⟨bel_⟩⟩
 case rest =>
  clear HC2
  try clear p2
  try clear c4
  try clear c7
  obtain ⟨kq, x15_1, rfl, HA, HJ1, HB⟩ := hcut
  cases kq with
  | zero => exact absurd HA.out (by simp [limelightlaw01_TreeOnce.j0])
  | succ kj1 =>
   have H := HA.out
   clear HA
   simp only [limelightlaw01_TreeOnce.j0] at H
   by_cases c9 : x15_1 = true
   ·subst c9
    have H1 : ((limelightlaw01_live.f).bind fun t329 => (some t329)) = some r := by rw [if_pos rfl] at H; exact H
    clear H
    have H := H1
    clear H1
    replace H := Option.bind_eq_some_iff.mp H
    obtain ⟨t329, A100, H⟩ := H
    replace H : (some t329) = some r := H
    have A10 := Aside0.mk A100
    clear A100
    obtain rfl := Option.some.inj H
    go_wp2_with (first | ((with_reducible refine gate_callee (f := 10) rfl ?_); refine goesL_ (some 16) rfl rfl Try.func10 (by kernel_rfl) rfl #[] rfl margs_ ?_; (with_reducible refine (limelightlaw01_live.calls  t329 _ A10.out).mono ?_); rintro e w11 ⟨rfl, hb⟩; refine ⟨_, rfl, ?_⟩; have n0_ := Aside0.mk (below_step bel_ hb); clear HB; have HB := n0_; clear n0_; (try clear hb); (try clear hb2); (try clear hk); (try clear hi)))
    go_ret
    exact ⟨by first | rfl | (simp [errW_none, errW_some] <;> rfl) | (simp [*, errW_none, errW_some] <;> rfl), bel_⟩
   ·replace c9 := Bool.eq_false_iff.mpr c9
    subst c9
    have H1 : (limelightlaw01_TreeOnce.l0 kj1 l0 0) = some r := by rw [if_neg (show ¬ (false = true) by decide)] at H; exact H
    clear H
    have H := H1
    clear H1
    have H' := Aside0.mk H
    clear H
    go_wp2
    go_loopg [3] kj1 (fun kq v3 w' => ∃ (x3_2 : Int), v3 = .int .i64 x3_2 ∧ Aside0 (limelightlaw01_TreeOnce.l0 kq l0 x3_2 = some r) ∧ Aside0 (kq ≤ kj1) ∧ Aside0 (Below w.heap.size w w'))
    case atStart => exact ⟨(0), (by first | rfl | (simp; done) | (simp [*]; done)), H', ⟨Nat.le_refl _⟩, ⟨bel_⟩⟩
    case round =>
     clear H'
     try clear c1
     try clear p2
     try clear c4
     try clear c7
     try clear c9
     try clear c10
     try clear p2
     obtain ⟨x3_2, rfl, HA, HK2, HB⟩ := hrel
     cases gk with
     | zero => exact absurd HA.out (by simp [limelightlaw01_TreeOnce.l0])
     | succ k2 =>
      have H := HA.out
      clear HA
      simp only [limelightlaw01_TreeOnce.l0] at H
      by_cases c12 : x3_2 < (l0.length : Int)
      ·rw [if_pos c12] at H
       have c12b0 : decide (x3_2 < (l0.length : Int)) = true := decide_eq_true c12
       clear c12
       have H' := Aside0.mk H
       clear H
       go_wp2
       go_loopg [4, 5, 6] k2 (fun kq v4 v5 v6 w' => ∃ (x4_3 : Int) (x5_3 : Int) (x6_3 : Int), v4 = .int .i64 x4_3 ∧ v5 = .int .i64 x5_3 ∧ v6 = .int .i64 x6_3 ∧ Aside0 (limelightlaw01_TreeOnce.l1 kq l0 x3_2 x4_3 x5_3 x6_3 = some r) ∧ Aside0 (kq ≤ k2) ∧ Aside0 (Below w.heap.size w w'))
       case atStart => exact ⟨(0), (0), (0), (by first | rfl | (simp; done) | (simp [*]; done)), (by first | rfl | (simp; done) | (simp [*]; done)), (by first | rfl | (simp; done) | (simp [*]; done)), H', ⟨Nat.le_refl _⟩, ⟨bel_⟩⟩
       case round =>
        clear H'
        try clear c1
        try clear p2
        try clear c4
        try clear c7
        try clear c9
        try clear c10
        try clear c12
        try clear c12b0
        try clear p2
        obtain ⟨x4_3, x5_3, x6_3, rfl, rfl, rfl, HA, HK3, HB⟩ := hrel
        cases gk with
        | zero => exact absurd HA.out (by simp [limelightlaw01_TreeOnce.l1])
        | succ k3 =>
         have H := HA.out
         clear HA
         simp only [limelightlaw01_TreeOnce.l1] at H
         by_cases c13 : x6_3 < (l0.length : Int)
         ·rw [if_pos c13] at H
          have c13b0 : decide (x6_3 < (l0.length : Int)) = true := decide_eq_true c13
          clear c13
          have H' := Aside0.mk H
          clear H
          go_wp2
          go_loopg [4, 7] k3 (fun kq v4 v7 w' => ∃ (x4_4 : Int) (x7_4 : Int), v4 = .int .i64 x4_4 ∧ v7 = .int .i64 x7_4 ∧ Aside0 (limelightlaw01_TreeOnce.l2 kq l0 x3_2 x4_4 x5_3 x6_3 x7_4 = some r) ∧ Aside0 (kq ≤ k3) ∧ Aside0 (Below w.heap.size w w'))
          case atStart => exact ⟨(x4_3), (0), (by first | rfl | (simp; done) | (simp [*]; done)), (by first | rfl | (simp; done) | (simp [*]; done)), H', ⟨Nat.le_refl _⟩, ⟨bel_⟩⟩
          case round =>
           clear H'
           try clear c1
           try clear p2
           try clear c4
           try clear c7
           try clear c9
           try clear c10
           try clear c12
           try clear c12b0
           try clear c13
           try clear c13b0
           try clear p2
           obtain ⟨x4_4, x7_4, rfl, rfl, HA, HK4, HB⟩ := hrel
           cases gk with
           | zero => exact absurd HA.out (by simp [limelightlaw01_TreeOnce.l2])
           | succ k4 =>
            have H := HA.out
            clear HA
            simp only [limelightlaw01_TreeOnce.l2] at H
            by_cases c14 : 0 ≤ x6_3
            ·rw [if_pos c14] at H
             have c14b0 : decide (0 ≤ x6_3) = true := decide_eq_true c14
             clear c14
             by_cases c15 : x6_3 < (l0.length : Int)
             ·rw [if_pos c15] at H
              have c15b0 : decide (x6_3 < (l0.length : Int)) = true := decide_eq_true c15
              clear c15
              by_cases c16 : x7_4 < (((rd_T49 l0 x6_3).f3).length : Int)
              ·rw [if_pos c16] at H
               have c16b0 : decide (x7_4 < (((rd_T49 l0 x6_3).f3).length : Int)) = true := decide_eq_true c16
               clear c16
               by_cases c17 : 0 ≤ x7_4
               ·rw [if_pos c17] at H
                have c17b0 : decide (0 ≤ x7_4) = true := decide_eq_true c17
                clear c17
                by_cases c18 : (rd ((rd_T49 l0 x6_3).f3) x7_4) = x3_2
                ·rw [if_pos c18] at H
                 have c18b0 : ((rd ((rd_T49 l0 x6_3).f3) x7_4) == x3_2) = true := beq_iff_eq.mpr c18
                 have c18b1 : ((rd ((rd_T49 l0 x6_3).f3) x7_4) != x3_2) = false := bne_eq_false_iff_eq.mpr c18
                 clear c18
                 have H' := Aside0.mk H
                 clear H
                 have p333 : 0 ≤ (x6_3 : Int) := of_decide_eq_true asm_
                 have q333 : x6_3 < (l0.length : Int) := of_decide_eq_true asm_
                 obtain ⟨ad333, A333_3, c333_3, A333_6, c333_6, e333, hx333_0, hx333_1, hx333_2, hx333_3, hx333_4, hx333_5, hx333_6, hl333_3, hi333_3, hl333_6, hi333_6⟩ := at_T49 HR0.out x6_3 p333 q333
                 cases e333
                 replace hx333_0 := (HB.out.cell (World.block_lt_of_cell? w _ hx333_0)).trans hx333_0
                 replace hx333_1 := (HB.out.cell (World.block_lt_of_cell? w _ hx333_1)).trans hx333_1
                 replace hx333_2 := (HB.out.cell (World.block_lt_of_cell? w _ hx333_2)).trans hx333_2
                 replace hx333_3 := (HB.out.cell (World.block_lt_of_cell? w _ hx333_3)).trans hx333_3
                 replace hx333_4 := (HB.out.cell (World.block_lt_of_cell? w _ hx333_4)).trans hx333_4
                 replace hx333_5 := (HB.out.cell (World.block_lt_of_cell? w _ hx333_5)).trans hx333_5
                 replace hx333_6 := (HB.out.cell (World.block_lt_of_cell? w _ hx333_6)).trans hx333_6
                 have HR333_3 := Aside0.mk hi333_3
                 have HC333_3 := Aside0.mk hl333_3
                 clear hi333_3 hl333_3
                 have HR333_6 := Aside0.mk hi333_6
                 have HC333_6 := Aside0.mk hl333_6
                 clear hi333_6 hl333_6
                 replace p333 := eq_true p333
                 replace q333 := eq_true q333
                 have p334 : 0 ≤ (x6_3 : Int) := of_decide_eq_true asm_
                 have q334 : x6_3 < (l0.length : Int) := of_decide_eq_true asm_
                 obtain ⟨ad334, A334_3, c334_3, A334_6, c334_6, e334, hx334_0, hx334_1, hx334_2, hx334_3, hx334_4, hx334_5, hx334_6, hl334_3, hi334_3, hl334_6, hi334_6⟩ := at_T49 HR0.out x6_3 p334 q334
                 obtain rfl : ad333 = ad334 := (by injection e334)
                 replace hx334_0 := (HB.out.cell (World.block_lt_of_cell? w _ hx334_0)).trans hx334_0
                 replace hx334_1 := (HB.out.cell (World.block_lt_of_cell? w _ hx334_1)).trans hx334_1
                 replace hx334_2 := (HB.out.cell (World.block_lt_of_cell? w _ hx334_2)).trans hx334_2
                 replace hx334_3 := (HB.out.cell (World.block_lt_of_cell? w _ hx334_3)).trans hx334_3
                 replace hx334_4 := (HB.out.cell (World.block_lt_of_cell? w _ hx334_4)).trans hx334_4
                 replace hx334_5 := (HB.out.cell (World.block_lt_of_cell? w _ hx334_5)).trans hx334_5
                 replace hx334_6 := (HB.out.cell (World.block_lt_of_cell? w _ hx334_6)).trans hx334_6
                 have HR334_3 := Aside0.mk hi334_3
                 have HC334_3 := Aside0.mk hl334_3
                 clear hi334_3 hl334_3
                 have HR334_6 := Aside0.mk hi334_6
                 have HC334_6 := Aside0.mk hl334_6
                 clear hi334_6 hl334_6
                 replace p334 := eq_true p334
                 replace q334 := eq_true q334
                 have ea_ := Option.some.inj (hx333_3.symm.trans hx334_3)
                 injection ea_ with ea_ en_ ec_
                 subst ea_
                 subst ec_
                 clear en_
                 have ea_ := Option.some.inj (hx333_6.symm.trans hx334_6)
                 injection ea_ with ea_ en_ ec_
                 subst ea_
                 subst ec_
                 clear en_
                 have p335 : 0 ≤ (x7_4 : Int) := of_decide_eq_true asm_
                 have q335 : x7_4 < (((rd_T49 l0 x6_3).f3).length : Int) := of_decide_eq_true asm_
                 obtain ⟨ad335, e335, hx335_0⟩ := Kd.at_int HR334_3.out x7_4 p335 q335
                 cases e335
                 replace hx335_0 := (HB.out.cell (World.block_lt_of_cell? w _ hx335_0)).trans hx335_0
                 replace p335 := eq_true p335
                 replace q335 := eq_true q335
                 go_wp2
                 go_roundg k4
                 case measure => have := HJ1.out; have := HK2.out; have := HK3.out; have := HK4.out; omega
                 case rel => exact ⟨(wrap64 (x4_4 + 1)), (wrap64 (x7_4 + 1)), (by first | rfl | (simp; done) | (simp [*]; done)), (by first | rfl | (simp; done) | (simp [*]; done)), H', ⟨by have := HJ1.out; have := HK2.out; have := HK3.out; have := HK4.out; omega⟩, ⟨bel_⟩⟩
                ·rw [if_neg c18] at H
                 have c18b0 : ((rd ((rd_T49 l0 x6_3).f3) x7_4) == x3_2) = false := beq_eq_false_iff_ne.mpr c18
                 have c18b1 : ((rd ((rd_T49 l0 x6_3).f3) x7_4) != x3_2) = true := bne_iff_ne.mpr c18
                 have H' := Aside0.mk H
                 clear H
                 have p333 : 0 ≤ (x6_3 : Int) := of_decide_eq_true asm_
                 have q333 : x6_3 < (l0.length : Int) := of_decide_eq_true asm_
                 obtain ⟨ad333, A333_3, c333_3, A333_6, c333_6, e333, hx333_0, hx333_1, hx333_2, hx333_3, hx333_4, hx333_5, hx333_6, hl333_3, hi333_3, hl333_6, hi333_6⟩ := at_T49 HR0.out x6_3 p333 q333
                 cases e333
                 replace hx333_0 := (HB.out.cell (World.block_lt_of_cell? w _ hx333_0)).trans hx333_0
                 replace hx333_1 := (HB.out.cell (World.block_lt_of_cell? w _ hx333_1)).trans hx333_1
                 replace hx333_2 := (HB.out.cell (World.block_lt_of_cell? w _ hx333_2)).trans hx333_2
                 replace hx333_3 := (HB.out.cell (World.block_lt_of_cell? w _ hx333_3)).trans hx333_3
                 replace hx333_4 := (HB.out.cell (World.block_lt_of_cell? w _ hx333_4)).trans hx333_4
                 replace hx333_5 := (HB.out.cell (World.block_lt_of_cell? w _ hx333_5)).trans hx333_5
                 replace hx333_6 := (HB.out.cell (World.block_lt_of_cell? w _ hx333_6)).trans hx333_6
                 have HR333_3 := Aside0.mk hi333_3
                 have HC333_3 := Aside0.mk hl333_3
                 clear hi333_3 hl333_3
                 have HR333_6 := Aside0.mk hi333_6
                 have HC333_6 := Aside0.mk hl333_6
                 clear hi333_6 hl333_6
                 replace p333 := eq_true p333
                 replace q333 := eq_true q333
                 have p334 : 0 ≤ (x6_3 : Int) := of_decide_eq_true asm_
                 have q334 : x6_3 < (l0.length : Int) := of_decide_eq_true asm_
                 obtain ⟨ad334, A334_3, c334_3, A334_6, c334_6, e334, hx334_0, hx334_1, hx334_2, hx334_3, hx334_4, hx334_5, hx334_6, hl334_3, hi334_3, hl334_6, hi334_6⟩ := at_T49 HR0.out x6_3 p334 q334
                 obtain rfl : ad333 = ad334 := (by injection e334)
                 replace hx334_0 := (HB.out.cell (World.block_lt_of_cell? w _ hx334_0)).trans hx334_0
                 replace hx334_1 := (HB.out.cell (World.block_lt_of_cell? w _ hx334_1)).trans hx334_1
                 replace hx334_2 := (HB.out.cell (World.block_lt_of_cell? w _ hx334_2)).trans hx334_2
                 replace hx334_3 := (HB.out.cell (World.block_lt_of_cell? w _ hx334_3)).trans hx334_3
                 replace hx334_4 := (HB.out.cell (World.block_lt_of_cell? w _ hx334_4)).trans hx334_4
                 replace hx334_5 := (HB.out.cell (World.block_lt_of_cell? w _ hx334_5)).trans hx334_5
                 replace hx334_6 := (HB.out.cell (World.block_lt_of_cell? w _ hx334_6)).trans hx334_6
                 have HR334_3 := Aside0.mk hi334_3
                 have HC334_3 := Aside0.mk hl334_3
                 clear hi334_3 hl334_3
                 have HR334_6 := Aside0.mk hi334_6
                 have HC334_6 := Aside0.mk hl334_6
                 clear hi334_6 hl334_6
                 replace p334 := eq_true p334
                 replace q334 := eq_true q334
                 have ea_ := Option.some.inj (hx333_3.symm.trans hx334_3)
                 injection ea_ with ea_ en_ ec_
                 subst ea_
                 subst ec_
                 clear en_
                 have ea_ := Option.some.inj (hx333_6.symm.trans hx334_6)
                 injection ea_ with ea_ en_ ec_
                 subst ea_
                 subst ec_
                 clear en_
                 have p335 : 0 ≤ (x7_4 : Int) := of_decide_eq_true asm_
                 have q335 : x7_4 < (((rd_T49 l0 x6_3).f3).length : Int) := of_decide_eq_true asm_
                 obtain ⟨ad335, e335, hx335_0⟩ := Kd.at_int HR334_3.out x7_4 p335 q335
                 cases e335
                 replace hx335_0 := (HB.out.cell (World.block_lt_of_cell? w _ hx335_0)).trans hx335_0
                 replace p335 := eq_true p335
                 replace q335 := eq_true q335
                 go_wp2
                 go_roundg k4
                 case measure => have := HJ1.out; have := HK2.out; have := HK3.out; have := HK4.out; omega
                 case rel => exact ⟨(x4_4), (wrap64 (x7_4 + 1)), (by first | rfl | (simp; done) | (simp [*]; done)), (by first | rfl | (simp; done) | (simp [*]; done)), H', ⟨by have := HJ1.out; have := HK2.out; have := HK3.out; have := HK4.out; omega⟩, ⟨bel_⟩⟩
               ·rw [if_neg c17] at H
                exact absurd H (by simp)
              ·rw [if_neg c16] at H
               have c16b0 : decide (x7_4 < (((rd_T49 l0 x6_3).f3).length : Int)) = false := decide_eq_false c16
               clear c16
               by_cases c19 : ((rd_T49 l0 x6_3).f5) = x3_2
               ·rw [if_pos c19] at H
                have c19b0 : (((rd_T49 l0 x6_3).f5) == x3_2) = true := beq_iff_eq.mpr c19
                have c19b1 : (((rd_T49 l0 x6_3).f5) != x3_2) = false := bne_eq_false_iff_eq.mpr c19
                clear c19
                have H' := Aside0.mk H
                clear H
                have p333 : 0 ≤ (x6_3 : Int) := of_decide_eq_true asm_
                have q333 : x6_3 < (l0.length : Int) := of_decide_eq_true asm_
                obtain ⟨ad333, A333_3, c333_3, A333_6, c333_6, e333, hx333_0, hx333_1, hx333_2, hx333_3, hx333_4, hx333_5, hx333_6, hl333_3, hi333_3, hl333_6, hi333_6⟩ := at_T49 HR0.out x6_3 p333 q333
                cases e333
                replace hx333_0 := (HB.out.cell (World.block_lt_of_cell? w _ hx333_0)).trans hx333_0
                replace hx333_1 := (HB.out.cell (World.block_lt_of_cell? w _ hx333_1)).trans hx333_1
                replace hx333_2 := (HB.out.cell (World.block_lt_of_cell? w _ hx333_2)).trans hx333_2
                replace hx333_3 := (HB.out.cell (World.block_lt_of_cell? w _ hx333_3)).trans hx333_3
                replace hx333_4 := (HB.out.cell (World.block_lt_of_cell? w _ hx333_4)).trans hx333_4
                replace hx333_5 := (HB.out.cell (World.block_lt_of_cell? w _ hx333_5)).trans hx333_5
                replace hx333_6 := (HB.out.cell (World.block_lt_of_cell? w _ hx333_6)).trans hx333_6
                have HR333_3 := Aside0.mk hi333_3
                have HC333_3 := Aside0.mk hl333_3
                clear hi333_3 hl333_3
                have HR333_6 := Aside0.mk hi333_6
                have HC333_6 := Aside0.mk hl333_6
                clear hi333_6 hl333_6
                replace p333 := eq_true p333
                replace q333 := eq_true q333
                have p336 : 0 ≤ (x6_3 : Int) := of_decide_eq_true asm_
                have q336 : x6_3 < (l0.length : Int) := of_decide_eq_true asm_
                obtain ⟨ad336, A336_3, c336_3, A336_6, c336_6, e336, hx336_0, hx336_1, hx336_2, hx336_3, hx336_4, hx336_5, hx336_6, hl336_3, hi336_3, hl336_6, hi336_6⟩ := at_T49 HR0.out x6_3 p336 q336
                obtain rfl : ad333 = ad336 := (by injection e336)
                replace hx336_0 := (HB.out.cell (World.block_lt_of_cell? w _ hx336_0)).trans hx336_0
                replace hx336_1 := (HB.out.cell (World.block_lt_of_cell? w _ hx336_1)).trans hx336_1
                replace hx336_2 := (HB.out.cell (World.block_lt_of_cell? w _ hx336_2)).trans hx336_2
                replace hx336_3 := (HB.out.cell (World.block_lt_of_cell? w _ hx336_3)).trans hx336_3
                replace hx336_4 := (HB.out.cell (World.block_lt_of_cell? w _ hx336_4)).trans hx336_4
                replace hx336_5 := (HB.out.cell (World.block_lt_of_cell? w _ hx336_5)).trans hx336_5
                replace hx336_6 := (HB.out.cell (World.block_lt_of_cell? w _ hx336_6)).trans hx336_6
                have HR336_3 := Aside0.mk hi336_3
                have HC336_3 := Aside0.mk hl336_3
                clear hi336_3 hl336_3
                have HR336_6 := Aside0.mk hi336_6
                have HC336_6 := Aside0.mk hl336_6
                clear hi336_6 hl336_6
                replace p336 := eq_true p336
                replace q336 := eq_true q336
                have ea_ := Option.some.inj (hx333_3.symm.trans hx336_3)
                injection ea_ with ea_ en_ ec_
                subst ea_
                subst ec_
                clear en_
                have ea_ := Option.some.inj (hx333_6.symm.trans hx336_6)
                injection ea_ with ea_ en_ ec_
                subst ea_
                subst ec_
                clear en_
                go_wp2
                go_roundg k4
                case measure => have := HJ1.out; have := HK2.out; have := HK3.out; have := HK4.out; omega
                case rel => exact ⟨(x4_4), (wrap64 (x5_3 + 1)), (wrap64 (x6_3 + 1)), (by first | rfl | (simp; done) | (simp [*]; done)), (by first | rfl | (simp; done) | (simp [*]; done)), (by first | rfl | (simp; done) | (simp [*]; done)), H', ⟨by have := HJ1.out; have := HK2.out; have := HK3.out; have := HK4.out; omega⟩, ⟨bel_⟩⟩
               ·rw [if_neg c19] at H
                have c19b0 : (((rd_T49 l0 x6_3).f5) == x3_2) = false := beq_eq_false_iff_ne.mpr c19
                have c19b1 : (((rd_T49 l0 x6_3).f5) != x3_2) = true := bne_iff_ne.mpr c19
                have H' := Aside0.mk H
                clear H
                have p333 : 0 ≤ (x6_3 : Int) := of_decide_eq_true asm_
                have q333 : x6_3 < (l0.length : Int) := of_decide_eq_true asm_
                obtain ⟨ad333, A333_3, c333_3, A333_6, c333_6, e333, hx333_0, hx333_1, hx333_2, hx333_3, hx333_4, hx333_5, hx333_6, hl333_3, hi333_3, hl333_6, hi333_6⟩ := at_T49 HR0.out x6_3 p333 q333
                cases e333
                replace hx333_0 := (HB.out.cell (World.block_lt_of_cell? w _ hx333_0)).trans hx333_0
                replace hx333_1 := (HB.out.cell (World.block_lt_of_cell? w _ hx333_1)).trans hx333_1
                replace hx333_2 := (HB.out.cell (World.block_lt_of_cell? w _ hx333_2)).trans hx333_2
                replace hx333_3 := (HB.out.cell (World.block_lt_of_cell? w _ hx333_3)).trans hx333_3
                replace hx333_4 := (HB.out.cell (World.block_lt_of_cell? w _ hx333_4)).trans hx333_4
                replace hx333_5 := (HB.out.cell (World.block_lt_of_cell? w _ hx333_5)).trans hx333_5
                replace hx333_6 := (HB.out.cell (World.block_lt_of_cell? w _ hx333_6)).trans hx333_6
                have HR333_3 := Aside0.mk hi333_3
                have HC333_3 := Aside0.mk hl333_3
                clear hi333_3 hl333_3
                have HR333_6 := Aside0.mk hi333_6
                have HC333_6 := Aside0.mk hl333_6
                clear hi333_6 hl333_6
                replace p333 := eq_true p333
                replace q333 := eq_true q333
                have p336 : 0 ≤ (x6_3 : Int) := of_decide_eq_true asm_
                have q336 : x6_3 < (l0.length : Int) := of_decide_eq_true asm_
                obtain ⟨ad336, A336_3, c336_3, A336_6, c336_6, e336, hx336_0, hx336_1, hx336_2, hx336_3, hx336_4, hx336_5, hx336_6, hl336_3, hi336_3, hl336_6, hi336_6⟩ := at_T49 HR0.out x6_3 p336 q336
                obtain rfl : ad333 = ad336 := (by injection e336)
                replace hx336_0 := (HB.out.cell (World.block_lt_of_cell? w _ hx336_0)).trans hx336_0
                replace hx336_1 := (HB.out.cell (World.block_lt_of_cell? w _ hx336_1)).trans hx336_1
                replace hx336_2 := (HB.out.cell (World.block_lt_of_cell? w _ hx336_2)).trans hx336_2
                replace hx336_3 := (HB.out.cell (World.block_lt_of_cell? w _ hx336_3)).trans hx336_3
                replace hx336_4 := (HB.out.cell (World.block_lt_of_cell? w _ hx336_4)).trans hx336_4
                replace hx336_5 := (HB.out.cell (World.block_lt_of_cell? w _ hx336_5)).trans hx336_5
                replace hx336_6 := (HB.out.cell (World.block_lt_of_cell? w _ hx336_6)).trans hx336_6
                have HR336_3 := Aside0.mk hi336_3
                have HC336_3 := Aside0.mk hl336_3
                clear hi336_3 hl336_3
                have HR336_6 := Aside0.mk hi336_6
                have HC336_6 := Aside0.mk hl336_6
                clear hi336_6 hl336_6
                replace p336 := eq_true p336
                replace q336 := eq_true q336
                have ea_ := Option.some.inj (hx333_3.symm.trans hx336_3)
                injection ea_ with ea_ en_ ec_
                subst ea_
                subst ec_
                clear en_
                have ea_ := Option.some.inj (hx333_6.symm.trans hx336_6)
                injection ea_ with ea_ en_ ec_
                subst ea_
                subst ec_
                clear en_
                go_wp2
                go_roundg k4
                case measure => have := HJ1.out; have := HK2.out; have := HK3.out; have := HK4.out; omega
                case rel => exact ⟨(x4_4), (x5_3), (wrap64 (x6_3 + 1)), (by first | rfl | (simp; done) | (simp [*]; done)), (by first | rfl | (simp; done) | (simp [*]; done)), (by first | rfl | (simp; done) | (simp [*]; done)), H', ⟨by have := HJ1.out; have := HK2.out; have := HK3.out; have := HK4.out; omega⟩, ⟨bel_⟩⟩
             ·rw [if_neg c15] at H
              exact absurd H (by simp)
            ·rw [if_neg c14] at H
             exact absurd H (by simp)
         ·rw [if_neg c13] at H
          have c13b0 : decide (x6_3 < (l0.length : Int)) = false := decide_eq_false c13
          clear c13
          by_cases c20 : 0 ≤ x3_2
          ·rw [if_pos c20] at H
           have c20b0 : decide (0 ≤ x3_2) = true := decide_eq_true c20
           clear c20
           by_cases c21 : x3_2 < (l0.length : Int)
           ·rw [if_pos c21] at H
            have c21b0 : decide (x3_2 < (l0.length : Int)) = true := decide_eq_true c21
            clear c21
            by_cases c22 : ((((rd_T49 l0 x3_2).f2) == (-1)) != (x4_3 == 0)) = true
            ·rw [if_pos c22] at H
             exact absurd H (by simp)
            ·rw [if_neg c22] at H
             have c22b0 : ((((rd_T49 l0 x3_2).f2) == (-1)) != (x4_3 == 0)) = false := by simpa using c22
             (try (have c22b1 : decide ((((rd_T49 l0 x3_2).f2) == (-1)) = (x4_3 == 0)) = true := by simpa using c22))
             (try (have c22b2 : ((((rd_T49 l0 x3_2).f2) == (-1)) == (x4_3 == 0)) = true := by simpa using c22))
             clear c22
             by_cases c23 : x4_3 > 1
             ·rw [if_pos c23] at H
              exact absurd H (by simp)
             ·rw [if_neg c23] at H
              have c23b0 : decide (1 < x4_3) = false := decide_eq_false c23
              clear c23
              by_cases c24 : ((x5_3 == 1) != (((rd_T49 l0 x3_2).f0) == 3)) = true
              ·rw [if_pos c24] at H
               exact absurd H (by simp)
              ·rw [if_neg c24] at H
               have c24b0 : ((x5_3 == 1) != (((rd_T49 l0 x3_2).f0) == 3)) = false := by simpa using c24
               (try (have c24b1 : decide ((x5_3 == 1) = (((rd_T49 l0 x3_2).f0) == 3)) = true := by simpa using c24))
               (try (have c24b2 : ((x5_3 == 1) == (((rd_T49 l0 x3_2).f0) == 3)) = true := by simpa using c24))
               clear c24
               by_cases c25 : x5_3 > 1
               ·rw [if_pos c25] at H
                exact absurd H (by simp)
               ·rw [if_neg c25] at H
                have c25b0 : decide (1 < x5_3) = false := decide_eq_false c25
                clear c25
                have H' := Aside0.mk H
                clear H
                have p331 : 0 ≤ (x3_2 : Int) := of_decide_eq_true asm_
                have q331 : x3_2 < (l0.length : Int) := of_decide_eq_true asm_
                obtain ⟨ad331, A331_3, c331_3, A331_6, c331_6, e331, hx331_0, hx331_1, hx331_2, hx331_3, hx331_4, hx331_5, hx331_6, hl331_3, hi331_3, hl331_6, hi331_6⟩ := at_T49 HR0.out x3_2 p331 q331
                cases e331
                replace hx331_0 := (HB.out.cell (World.block_lt_of_cell? w _ hx331_0)).trans hx331_0
                replace hx331_1 := (HB.out.cell (World.block_lt_of_cell? w _ hx331_1)).trans hx331_1
                replace hx331_2 := (HB.out.cell (World.block_lt_of_cell? w _ hx331_2)).trans hx331_2
                replace hx331_3 := (HB.out.cell (World.block_lt_of_cell? w _ hx331_3)).trans hx331_3
                replace hx331_4 := (HB.out.cell (World.block_lt_of_cell? w _ hx331_4)).trans hx331_4
                replace hx331_5 := (HB.out.cell (World.block_lt_of_cell? w _ hx331_5)).trans hx331_5
                replace hx331_6 := (HB.out.cell (World.block_lt_of_cell? w _ hx331_6)).trans hx331_6
                have HR331_3 := Aside0.mk hi331_3
                have HC331_3 := Aside0.mk hl331_3
                clear hi331_3 hl331_3
                have HR331_6 := Aside0.mk hi331_6
                have HC331_6 := Aside0.mk hl331_6
                clear hi331_6 hl331_6
                replace p331 := eq_true p331
                replace q331 := eq_true q331
                have p332 : 0 ≤ (x3_2 : Int) := of_decide_eq_true asm_
                have q332 : x3_2 < (l0.length : Int) := of_decide_eq_true asm_
                obtain ⟨ad332, A332_3, c332_3, A332_6, c332_6, e332, hx332_0, hx332_1, hx332_2, hx332_3, hx332_4, hx332_5, hx332_6, hl332_3, hi332_3, hl332_6, hi332_6⟩ := at_T49 HR0.out x3_2 p332 q332
                obtain rfl : ad331 = ad332 := (by injection e332)
                replace hx332_0 := (HB.out.cell (World.block_lt_of_cell? w _ hx332_0)).trans hx332_0
                replace hx332_1 := (HB.out.cell (World.block_lt_of_cell? w _ hx332_1)).trans hx332_1
                replace hx332_2 := (HB.out.cell (World.block_lt_of_cell? w _ hx332_2)).trans hx332_2
                replace hx332_3 := (HB.out.cell (World.block_lt_of_cell? w _ hx332_3)).trans hx332_3
                replace hx332_4 := (HB.out.cell (World.block_lt_of_cell? w _ hx332_4)).trans hx332_4
                replace hx332_5 := (HB.out.cell (World.block_lt_of_cell? w _ hx332_5)).trans hx332_5
                replace hx332_6 := (HB.out.cell (World.block_lt_of_cell? w _ hx332_6)).trans hx332_6
                have HR332_3 := Aside0.mk hi332_3
                have HC332_3 := Aside0.mk hl332_3
                clear hi332_3 hl332_3
                have HR332_6 := Aside0.mk hi332_6
                have HC332_6 := Aside0.mk hl332_6
                clear hi332_6 hl332_6
                replace p332 := eq_true p332
                replace q332 := eq_true q332
                have ea_ := Option.some.inj (hx331_3.symm.trans hx332_3)
                injection ea_ with ea_ en_ ec_
                subst ea_
                subst ec_
                clear en_
                have ea_ := Option.some.inj (hx331_6.symm.trans hx332_6)
                injection ea_ with ea_ en_ ec_
                subst ea_
                subst ec_
                clear en_
                go_wp2
                go_roundg k3
                case measure => have := HJ1.out; have := HK2.out; have := HK3.out; omega
                case rel => exact ⟨(wrap64 (x3_2 + 1)), (by first | rfl | (simp; done) | (simp [*]; done)), H', ⟨by have := HJ1.out; have := HK2.out; have := HK3.out; omega⟩, ⟨bel_⟩⟩
           ·rw [if_neg c21] at H
            exact absurd H (by simp)
          ·rw [if_neg c20] at H
           exact absurd H (by simp)
      ·rw [if_neg c12] at H
       have c12b0 : decide (x3_2 < (l0.length : Int)) = false := decide_eq_false c12
       clear c12
       replace H := Option.bind_eq_some_iff.mp H
       obtain ⟨t330, A260, H⟩ := H
       replace H : (some t330) = some r := H
       have A26 := Aside0.mk A260
       clear A260
       obtain rfl := Option.some.inj H
       go_wp2_with (first | ((with_reducible refine gate_callee (f := 10) rfl ?_); refine goesL_ (some 88) rfl rfl Try.func10 (by kernel_rfl) rfl #[] rfl margs_ ?_; (with_reducible refine (limelightlaw01_live.calls  t330 _ A26.out).mono ?_); rintro e w27 ⟨rfl, hb⟩; refine ⟨_, rfl, ?_⟩; have n0_ := Aside0.mk (below_step bel_ hb); clear HB; have HB := n0_; clear n0_; (try clear hb); (try clear hb2); (try clear hk); (try clear hi)))
       go_ret
       exact ⟨by first | rfl | (simp [errW_none, errW_some] <;> rfl) | (simp [*, errW_none, errW_some] <;> rfl), bel_⟩

end Go.Proofs.Ytclhmgchllenlaa.P
