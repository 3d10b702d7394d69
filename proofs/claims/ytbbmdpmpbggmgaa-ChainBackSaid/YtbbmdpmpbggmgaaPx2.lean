import Derived.Test.YtbbmdpmpbggmgaaPx0
import Derived.Test.YtbbmdpmpbggmgaaPx1
import Derived.Test.YtbbmdpmpbggmgaaME
import Derived.Test.YtbbmdpmpbggmgaaMH
import Derived.Test.YtbbmdpmpbggmgaaMS
-- printed by wip/tools/pp.sh (a patched copy of the print's program), for this claim.
namespace Go.Proofs.Ytbbmdpmpbggmgaa.P
open Go.RowKit Go.Proofs.YtbbmdpmpbggmgaaW.PrintWords Go.Proofs.YtbbmdpmpbggmgaaW.PrintLast Go.Proofs.YtbbmdpmpbggmgaaW.PrintMore
attribute [local go_sem] max2_int min2_int max_two min_two max_three min_three max_four min_four   -- for this text's walks alone
set_option linter.unusedVariables false
set_option linter.unusedSimpArgs false

attribute [local go_sem high] eqA37
-- GIVEN: function 10 (chain_Events): MH

-- GIVEN: function 22 (chain_is): MH

-- GIVEN: function 27 (shade_Retarget): MS

-- GIVEN: function 28 (order_Top): ME

/-! ### chain_Active: function 12 -/
def chain_Active.j0 : Nat → List (S40) → Int → Int → Int → Option (Int)
  | 0, _, _, _, _ => none
  | k + 1, x0, x1, x2, x7 => (shade_Retarget.f x0 x1 x2).bind fun t103 => (if t103 = x2 then (some x7) else ((order_Top.f x0 t103).bind fun t104 => (if t104 = x2 then (some t103) else (some x7))))
def chain_Active.f (k : Nat) (l0 : List (S40)) (a1 : Int) (a2 : Int) : Option (Int) := (chain_is.f l0 a1 a2).bind fun t101 => (if t101 = true then (if 0 ≤ a2 then (if a2 < (l0.length : Int) then (if ((rd_T40 l0 a2).f0) = 0 then (chain_Active.j0 k l0 a1 a2 0) else (if ((rd_T40 l0 a2).f0) = 1 then (some (-1)) else (if ((rd_T40 l0 a2).f0) = 2 then (some (-1)) else (chain_Active.j0 k l0 a1 a2 (-1))))) else (none)) else (none)) else (some (-1)))
theorem chain_Active.mono_l : ∀ k, (∀ y0 y1 y2 y3, LeO (chain_Active.j0 k y0 y1 y2 y3) (chain_Active.j0 (k + 1) y0 y1 y2 y3))
  | 0 => fun _ _ _ _ r h => by simp [chain_Active.j0] at h
  | k + 1 => by
    have ih0 := chain_Active.mono_l k
    · intro y0 y1 y2 y3
      unfold chain_Active.j0
      repeat' first
      | (with_reducible exact ih0 _ _ _ _)
      | (with_reducible exact LeO.refl _)
      | (with_reducible exact LeO.none _)
      | (with_reducible refine LeO.ite ?_ ?_)
      | (with_reducible refine LeO.bind ?_ (fun _ => ?_))
      | exact ih0 _ _ _ _
      | exact LeO.none _
      | refine LeO.ite ?_ ?_
      | refine LeO.bind ?_ (fun _ => ?_)
theorem chain_Active.mono : ∀ a0 a1 a2 k, LeO (chain_Active.f k a0 a1 a2) (chain_Active.f (k + 1) a0 a1 a2) := by
  intro a0 a1 a2 k
  have ih0 := chain_Active.mono_l k
  unfold chain_Active.f
  repeat' first
      | (with_reducible exact ih0 _ _ _ _)
      | (with_reducible exact LeO.refl _)
      | (with_reducible exact LeO.none _)
      | (with_reducible refine LeO.ite ?_ ?_)
      | (with_reducible refine LeO.bind ?_ (fun _ => ?_))
      | exact ih0 _ _ _ _
      | exact LeO.none _
      | refine LeO.ite ?_ ?_
      | refine LeO.bind ?_ (fun _ => ?_)
set_option maxHeartbeats 8000000 in
set_option maxRecDepth 100000 in
theorem chain_Active.calls (k : Nat) (A0 : Option Addr) (c0 : Nat) (l0 : List (S40)) (a1 : Int) (a2 : Int) (r : Int) (w : World) (hr0 : Kd.C k40 w A0 l0.length l0) (hc0 : l0.length ≤ c0) (h : chain_Active.f k l0 a1 a2 = some r) :
    Calls Try.prog 12 #[.slice A0 l0.length c0, .int .i64 a1, .int .i64 a2] w fun e w' => e = .returned (.int .i64 r) ∧ Below w.heap.size w w' := by
  have HR0 := Aside0.mk hr0
  have HC0 := Aside0.mk hc0
  clear hr0 hc0
  have HB := Aside0.mk (Below.refl w.heap.size w)
  have H : ((chain_is.f l0 a1 a2).bind fun t101 => (if t101 = true then (if 0 ≤ a2 then (if a2 < (l0.length : Int) then (if ((rd_T40 l0 a2).f0) = 0 then (chain_Active.j0 k l0 a1 a2 0) else (if ((rd_T40 l0 a2).f0) = 1 then (some (-1)) else (if ((rd_T40 l0 a2).f0) = 2 then (some (-1)) else (chain_Active.j0 k l0 a1 a2 (-1))))) else (none)) else (none)) else (some (-1)))) = some r := h
  clear h
  replace H := Option.bind_eq_some_iff.mp H
  obtain ⟨t101, A40, H⟩ := H
  replace H : (if t101 = true then (if 0 ≤ a2 then (if a2 < (l0.length : Int) then (if ((rd_T40 l0 a2).f0) = 0 then (chain_Active.j0 k l0 a1 a2 0) else (if ((rd_T40 l0 a2).f0) = 1 then (some (-1)) else (if ((rd_T40 l0 a2).f0) = 2 then (some (-1)) else (chain_Active.j0 k l0 a1 a2 (-1))))) else (none)) else (none)) else (some (-1))) = some r := H
  have A4 := Aside0.mk A40
  clear A40
  by_cases c5 : t101 = true
  · subst c5
    have H1 : (if 0 ≤ a2 then (if a2 < (l0.length : Int) then (if ((rd_T40 l0 a2).f0) = 0 then (chain_Active.j0 k l0 a1 a2 0) else (if ((rd_T40 l0 a2).f0) = 1 then (some (-1)) else (if ((rd_T40 l0 a2).f0) = 2 then (some (-1)) else (chain_Active.j0 k l0 a1 a2 (-1))))) else (none)) else (none)) = some r := by rw [if_pos rfl] at H; exact H
    clear H
    have H := H1
    clear H1
    by_cases c6 : 0 ≤ a2
    · rw [if_pos c6] at H
      have c6b0 : decide (0 ≤ a2) = true := decide_eq_true c6
      clear c6
      by_cases c7 : a2 < (l0.length : Int)
      · rw [if_pos c7] at H
        have c7b0 : decide (a2 < (l0.length : Int)) = true := decide_eq_true c7
        clear c7
        have HC8 := Aside0.mk H
        clear H
        go_enter Try.func12, Try.ntmps12
        go_upto_block 0 with (first | ((with_reducible refine gate_callee (f := 22) rfl ?_); refine goesL_ (some 12) rfl rfl Try.func22 (by kernel_rfl) rfl #[.slice A0 l0.length c0, .int .i64 a1, .int .i64 a2] rfl (by (try simp only [List.map_toArray, List.map_cons, List.map_nil]); first | done | rfl | (simp only [List.length_drop, List.length_take]; rfl)) ?_; (with_reducible refine (chain_is.calls _ _ l0 a1 a2 true _ ?side1 ?side2 A4.out).mono ?_); (case side1 => repeat (first | exact HR0.out | (with_reducible refine Kd.C_alloc ?_ _) | (with_reducible refine Kd.C_drewN ?_ _) | (with_reducible refine Kd.C_drew ?_))); (case side2 => exact HC0.out); rintro e w9 ⟨rfl, hb⟩; refine ⟨_, rfl, ?_⟩; have n0_ := Aside0.mk (below_step (by repeat (first | (with_reducible first | exact HB.out | apply below_alloc | apply pw_below_drewN | apply below_drew1) | exact HB.out)) hb); clear HB; have HB := n0_; clear n0_; (try clear hb); (try clear hb2); (try clear hk); (try clear hi); have p102 : 0 ≤ (a2 : Int) := of_decide_eq_true (by first | (with_reducible assumption) | assumption); have q102 : a2 < (l0.length : Int) := of_decide_eq_true (by first | (with_reducible assumption) | assumption); obtain ⟨ad102, A102_3, c102_3, A102_6, c102_6, e102, hx102_0, hx102_1, hx102_2, hx102_3, hx102_4, hx102_5, hx102_6, hl102_3, hi102_3, hl102_6, hi102_6⟩ := at_T40 HR0.out a2 p102 q102; cases e102; replace hx102_0 := (HB.out.cell (World.block_lt_of_cell? w _ hx102_0)).trans hx102_0; replace hx102_1 := (HB.out.cell (World.block_lt_of_cell? w _ hx102_1)).trans hx102_1; replace hx102_2 := (HB.out.cell (World.block_lt_of_cell? w _ hx102_2)).trans hx102_2; replace hx102_3 := (HB.out.cell (World.block_lt_of_cell? w _ hx102_3)).trans hx102_3; replace hx102_4 := (HB.out.cell (World.block_lt_of_cell? w _ hx102_4)).trans hx102_4; replace hx102_5 := (HB.out.cell (World.block_lt_of_cell? w _ hx102_5)).trans hx102_5; replace hx102_6 := (HB.out.cell (World.block_lt_of_cell? w _ hx102_6)).trans hx102_6; have HR102_3 := Aside0.mk hi102_3; have HC102_3 := Aside0.mk hl102_3; clear hi102_3 hl102_3; have HR102_6 := Aside0.mk hi102_6; have HC102_6 := Aside0.mk hl102_6; clear hi102_6 hl102_6; replace p102 := eq_true p102; replace q102 := eq_true q102))
        (try simp only [Act.put, List.setIfInBounds_toArray, List.set_cons_zero, List.set_cons_succ])
        go_cut [7] (fun v7 wc => ∃ (kq : Nat) (x7_7 : Int), v7 = .int .i64 x7_7 ∧ Aside0 (chain_Active.j0 kq l0 a1 a2 x7_7 = some r) ∧ Aside0 (kq ≤ k) ∧ Aside0 (Below w.heap.size w wc))
        case first =>
          have H := HC8.out
          clear HC8
          by_cases c10 : ((rd_T40 l0 a2).f0) = 0
          · rw [if_pos c10] at H
            have c10b0 : (((rd_T40 l0 a2).f0) == 0) = true := beq_iff_eq.mpr c10
            have c10b1 : (((rd_T40 l0 a2).f0) != 0) = false := bne_eq_false_iff_eq.mpr c10
            clear c10
            (first | rw [c10b0] | (simp only [i64_w, i32_w]; rw [c10b0]) | skip)
            have H' := Aside0.mk H
            clear H
            go_wp2
            go_meet
            case rel => exact ⟨_, (0), (by first | rfl | (simp; done) | (simp [*]; done)), H', ⟨by first | omega | exact Nat.le_refl _⟩, ⟨by repeat (first | (with_reducible first | exact HB.out | apply below_alloc | apply pw_below_drewN | apply below_drew1) | exact HB.out)⟩⟩
          · rw [if_neg c10] at H
            have c10b0 : (((rd_T40 l0 a2).f0) == 0) = false := beq_eq_false_iff_ne.mpr c10
            have c10b1 : (((rd_T40 l0 a2).f0) != 0) = true := bne_iff_ne.mpr c10
            (first | rw [c10b0] | (simp only [i64_w, i32_w]; rw [c10b0]) | skip)
            by_cases c11 : ((rd_T40 l0 a2).f0) = 1
            · rw [if_pos c11] at H
              have c11b0 : (((rd_T40 l0 a2).f0) == 1) = true := beq_iff_eq.mpr c11
              have c11b1 : (((rd_T40 l0 a2).f0) != 1) = false := bne_eq_false_iff_eq.mpr c11
              clear c11
              obtain rfl := Option.some.inj H
              go_wp2
              go_ret
              exact ⟨by first | rfl | (simp [errW_none, errW_some] <;> rfl) | (simp [*, errW_none, errW_some] <;> rfl), by repeat (first | (with_reducible first | exact HB.out | apply below_alloc | apply pw_below_drewN | apply below_drew1) | exact HB.out)⟩
            · rw [if_neg c11] at H
              have c11b0 : (((rd_T40 l0 a2).f0) == 1) = false := beq_eq_false_iff_ne.mpr c11
              have c11b1 : (((rd_T40 l0 a2).f0) != 1) = true := bne_iff_ne.mpr c11
              by_cases c12 : ((rd_T40 l0 a2).f0) = 2
              · rw [if_pos c12] at H
                have c12b0 : (((rd_T40 l0 a2).f0) == 2) = true := beq_iff_eq.mpr c12
                have c12b1 : (((rd_T40 l0 a2).f0) != 2) = false := bne_eq_false_iff_eq.mpr c12
                clear c12
                obtain rfl := Option.some.inj H
                go_wp2
                go_ret
                exact ⟨by first | rfl | (simp [errW_none, errW_some] <;> rfl) | (simp [*, errW_none, errW_some] <;> rfl), by repeat (first | (with_reducible first | exact HB.out | apply below_alloc | apply pw_below_drewN | apply below_drew1) | exact HB.out)⟩
              · rw [if_neg c12] at H
                have c12b0 : (((rd_T40 l0 a2).f0) == 2) = false := beq_eq_false_iff_ne.mpr c12
                have c12b1 : (((rd_T40 l0 a2).f0) != 2) = true := bne_iff_ne.mpr c12
                have H' := Aside0.mk H
                clear H
                go_wp2
                go_meet
                case rel => exact ⟨_, ((-1)), (by first | rfl | (simp; done) | (simp [*]; done)), H', ⟨by first | omega | exact Nat.le_refl _⟩, ⟨by repeat (first | (with_reducible first | exact HB.out | apply below_alloc | apply pw_below_drewN | apply below_drew1) | exact HB.out)⟩⟩
        case rest =>
          clear HC8
          try clear c1
          try clear p1
          try clear q1
          try clear hx1
          try clear c2
          try clear p2
          try clear c5
          try clear c6
          try clear c6b0
          try clear c7
          try clear c7b0
          try clear c10
          try clear c10b0
          try clear c10b1
          try clear p10
          try clear q10
          try clear hx10
          try clear c11
          try clear c11b0
          try clear c11b1
          try clear c12
          try clear c12b0
          try clear c12b1
          try clear hx102_0
          try clear hx102_1
          try clear hx102_2
          try clear hx102_3
          try clear hx102_4
          try clear hx102_5
          try clear hx102_6
          try clear p102
          try clear q102
          obtain ⟨kq, x7_7, rfl, HA, HJ7, HB⟩ := hcut
          cases kq with
          | zero => exact absurd HA.out (by simp [chain_Active.j0])
          | succ kj7 =>
            have H := HA.out
            clear HA
            simp only [chain_Active.j0] at H
            replace H := Option.bind_eq_some_iff.mp H
            obtain ⟨t103, A130, H⟩ := H
            replace H : (if t103 = a2 then (some x7_7) else ((order_Top.f l0 t103).bind fun t104 => (if t104 = a2 then (some t103) else (some x7_7)))) = some r := H
            have A13 := Aside0.mk A130
            clear A130
            by_cases c14 : t103 = a2
            · rw [if_pos c14] at H
              have c14b0 : (t103 == a2) = true := beq_iff_eq.mpr c14
              have c14b1 : (t103 != a2) = false := bne_eq_false_iff_eq.mpr c14
              clear c14
              obtain rfl := Option.some.inj H
              go_wp2_with (first | ((with_reducible refine gate_callee (f := 27) rfl ?_); refine goesL_ (some 27) rfl rfl Try.func27 (by kernel_rfl) rfl #[.slice (some ad102) l0.length c0, .int .i64 a1, .int .i64 a2] rfl (by (try simp only [List.map_toArray, List.map_cons, List.map_nil]); first | done | rfl | (simp only [List.length_drop, List.length_take]; rfl)) ?_; (with_reducible refine (shade_Retarget.calls _ _ l0 a1 a2 t103 _ ?side1 ?side2 A13.out).mono ?_); (case side1 => repeat (first | exact (Kd.C_below HR0.out HB.out) | (with_reducible refine Kd.C_alloc ?_ _) | (with_reducible refine Kd.C_drewN ?_ _) | (with_reducible refine Kd.C_drew ?_))); (case side2 => exact HC0.out); rintro e w15 ⟨rfl, hb⟩; refine ⟨_, rfl, ?_⟩; have n0_ := Aside0.mk (below_step (by repeat (first | (with_reducible first | exact HB.out | apply below_alloc | apply pw_below_drewN | apply below_drew1) | exact HB.out)) hb); clear HB; have HB := n0_; clear n0_; (try clear hb); (try clear hb2); (try clear hk); (try clear hi)))
              go_ret
              exact ⟨by first | rfl | (simp [errW_none, errW_some] <;> rfl) | (simp [*, errW_none, errW_some] <;> rfl), by repeat (first | (with_reducible first | exact HB.out | apply below_alloc | apply pw_below_drewN | apply below_drew1) | exact HB.out)⟩
            · rw [if_neg c14] at H
              have c14b0 : (t103 == a2) = false := beq_eq_false_iff_ne.mpr c14
              have c14b1 : (t103 != a2) = true := bne_iff_ne.mpr c14
              replace H := Option.bind_eq_some_iff.mp H
              obtain ⟨t104, A160, H⟩ := H
              replace H : (if t104 = a2 then (some t103) else (some x7_7)) = some r := H
              have A16 := Aside0.mk A160
              clear A160
              by_cases c17 : t104 = a2
              · rw [if_pos c17] at H
                have c17b0 : (t104 == a2) = true := beq_iff_eq.mpr c17
                have c17b1 : (t104 != a2) = false := bne_eq_false_iff_eq.mpr c17
                clear c17
                obtain rfl := Option.some.inj H
                go_wp2_with (first | ((with_reducible refine gate_callee (f := 27) rfl ?_); refine goesL_ (some 27) rfl rfl Try.func27 (by kernel_rfl) rfl #[.slice (some ad102) l0.length c0, .int .i64 a1, .int .i64 a2] rfl (by (try simp only [List.map_toArray, List.map_cons, List.map_nil]); first | done | rfl | (simp only [List.length_drop, List.length_take]; rfl)) ?_; (with_reducible refine (shade_Retarget.calls _ _ l0 a1 a2 t103 _ ?side1 ?side2 A13.out).mono ?_); (case side1 => repeat (first | exact (Kd.C_below HR0.out HB.out) | (with_reducible refine Kd.C_alloc ?_ _) | (with_reducible refine Kd.C_drewN ?_ _) | (with_reducible refine Kd.C_drew ?_))); (case side2 => exact HC0.out); rintro e w18 ⟨rfl, hb⟩; refine ⟨_, rfl, ?_⟩; have n0_ := Aside0.mk (below_step (by repeat (first | (with_reducible first | exact HB.out | apply below_alloc | apply pw_below_drewN | apply below_drew1) | exact HB.out)) hb); clear HB; have HB := n0_; clear n0_; (try clear hb); (try clear hb2); (try clear hk); (try clear hi)) | (go_at_call 28; (with_reducible refine (order_Top.calls _ _ l0 t103 t104 _ ?side1 ?side2 A16.out).mono ?_); (case side1 => repeat (first | exact (Kd.C_below HR0.out HB.out) | (with_reducible refine Kd.C_alloc ?_ _) | (with_reducible refine Kd.C_drewN ?_ _) | (with_reducible refine Kd.C_drew ?_))); (case side2 => exact HC0.out); rintro e w19 ⟨rfl, hb⟩; have n0_ := Aside0.mk (below_step (by repeat (first | (with_reducible first | exact HB.out | apply below_alloc | apply pw_below_drewN | apply below_drew1) | exact HB.out)) hb); clear HB; have HB := n0_; clear n0_; (try clear hb); (try clear hb2); (try clear hk); (try clear hi)))
                go_ret
                exact ⟨by first | rfl | (simp [errW_none, errW_some] <;> rfl) | (simp [*, errW_none, errW_some] <;> rfl), by repeat (first | (with_reducible first | exact HB.out | apply below_alloc | apply pw_below_drewN | apply below_drew1) | exact HB.out)⟩
              · rw [if_neg c17] at H
                have c17b0 : (t104 == a2) = false := beq_eq_false_iff_ne.mpr c17
                have c17b1 : (t104 != a2) = true := bne_iff_ne.mpr c17
                obtain rfl := Option.some.inj H
                go_wp2_with (first | ((with_reducible refine gate_callee (f := 27) rfl ?_); refine goesL_ (some 27) rfl rfl Try.func27 (by kernel_rfl) rfl #[.slice (some ad102) l0.length c0, .int .i64 a1, .int .i64 a2] rfl (by (try simp only [List.map_toArray, List.map_cons, List.map_nil]); first | done | rfl | (simp only [List.length_drop, List.length_take]; rfl)) ?_; (with_reducible refine (shade_Retarget.calls _ _ l0 a1 a2 t103 _ ?side1 ?side2 A13.out).mono ?_); (case side1 => repeat (first | exact (Kd.C_below HR0.out HB.out) | (with_reducible refine Kd.C_alloc ?_ _) | (with_reducible refine Kd.C_drewN ?_ _) | (with_reducible refine Kd.C_drew ?_))); (case side2 => exact HC0.out); rintro e w20 ⟨rfl, hb⟩; refine ⟨_, rfl, ?_⟩; have n0_ := Aside0.mk (below_step (by repeat (first | (with_reducible first | exact HB.out | apply below_alloc | apply pw_below_drewN | apply below_drew1) | exact HB.out)) hb); clear HB; have HB := n0_; clear n0_; (try clear hb); (try clear hb2); (try clear hk); (try clear hi)) | (go_at_call 28; (with_reducible refine (order_Top.calls _ _ l0 t103 t104 _ ?side1 ?side2 A16.out).mono ?_); (case side1 => repeat (first | exact (Kd.C_below HR0.out HB.out) | (with_reducible refine Kd.C_alloc ?_ _) | (with_reducible refine Kd.C_drewN ?_ _) | (with_reducible refine Kd.C_drew ?_))); (case side2 => exact HC0.out); rintro e w21 ⟨rfl, hb⟩; have n0_ := Aside0.mk (below_step (by repeat (first | (with_reducible first | exact HB.out | apply below_alloc | apply pw_below_drewN | apply below_drew1) | exact HB.out)) hb); clear HB; have HB := n0_; clear n0_; (try clear hb); (try clear hb2); (try clear hk); (try clear hi)))
                go_ret
                exact ⟨by first | rfl | (simp [errW_none, errW_some] <;> rfl) | (simp [*, errW_none, errW_some] <;> rfl), by repeat (first | (with_reducible first | exact HB.out | apply below_alloc | apply pw_below_drewN | apply below_drew1) | exact HB.out)⟩
      · rw [if_neg c7] at H
        exact absurd H (by simp)
    · rw [if_neg c6] at H
      exact absurd H (by simp)
  · replace c5 := Bool.eq_false_iff.mpr c5
    subst c5
    have H1 : (some (-1)) = some r := by rw [if_neg (show ¬ (false = true) by decide)] at H; exact H
    clear H
    have H := H1
    clear H1
    obtain rfl := Option.some.inj H
    go_enter Try.func12, Try.ntmps12
    go_wp2_with (first | ((with_reducible refine gate_callee (f := 22) rfl ?_); refine goesL_ (some 12) rfl rfl Try.func22 (by kernel_rfl) rfl #[.slice A0 l0.length c0, .int .i64 a1, .int .i64 a2] rfl (by (try simp only [List.map_toArray, List.map_cons, List.map_nil]); first | done | rfl | (simp only [List.length_drop, List.length_take]; rfl)) ?_; (with_reducible refine (chain_is.calls _ _ l0 a1 a2 false _ ?side1 ?side2 A4.out).mono ?_); (case side1 => repeat (first | exact HR0.out | (with_reducible refine Kd.C_alloc ?_ _) | (with_reducible refine Kd.C_drewN ?_ _) | (with_reducible refine Kd.C_drew ?_))); (case side2 => exact HC0.out); rintro e w22 ⟨rfl, hb⟩; refine ⟨_, rfl, ?_⟩; have n0_ := Aside0.mk (below_step (by repeat (first | (with_reducible first | exact HB.out | apply below_alloc | apply pw_below_drewN | apply below_drew1) | exact HB.out)) hb); clear HB; have HB := n0_; clear n0_; (try clear hb); (try clear hb2); (try clear hk); (try clear hi)))
    go_ret
    exact ⟨by first | rfl | (simp [errW_none, errW_some] <;> rfl) | (simp [*, errW_none, errW_some] <;> rfl), by repeat (first | (with_reducible first | exact HB.out | apply below_alloc | apply pw_below_drewN | apply below_drew1) | exact HB.out)⟩

-- GIVEN: function 13 (chain_Chain): MH|V

-- GIVEN: function 16 (limelightref01_Ints): ME

/-! ### limelightlaw15_live: function 9 -/
def limelightlaw15_live.f (k : Nat)  : Option (Bool) := (some (([(⟨0, 0, (-1), (([1, 4] : List Int)), (-1), (-1), ([] : List (S61))⟩ : S40), (⟨1, 0, 0, ([] : List Int), (-1), 2, ([] : List (S61))⟩ : S40), (⟨3, 0, (-1), (([3] : List Int)), 1, (-1), ([] : List (S61))⟩ : S40), (⟨1, 0, 2, ([] : List Int), (-1), (-1), ([] : List (S61))⟩ : S40), (⟨1, 0, 0, ([] : List Int), (-1), (-1), ([] : List (S61))⟩ : S40)] : List (S40)) : List (S40))).bind fun y111 => ((chain_Events.f y111 3 4).bind fun t114 => (if (t114.length : Int) = 4 then ((chain_Chain.f y111 3).bind fun t117 => ((limelightref01_Ints.f t117 (([3, 0] : List Int))).bind fun t123 => (if t123 = true then (if 0 < (t114.length : Int) then (if (((rd_T37 t114 0).f0) == 1 && (((rd_T37 t114 0).f1) == 3 && (((rd_T37 t114 0).f2) == 4 && (!((rd_T37 t114 0).f3) && (!((rd_T37 t114 0).f4) && (((rd_T37 t114 0).f5))))))) = true then (if 3 < (t114.length : Int) then (if (((rd_T37 t114 3).f0) == 2 && (((rd_T37 t114 3).f1) == 4 && (((rd_T37 t114 3).f2) == 3 && (((rd_T37 t114 3).f3) && (!((rd_T37 t114 3).f4) && (((rd_T37 t114 3).f5))))))) = true then ((chain_Events.f y111 3 3).bind fun t126 => (if (t126.length : Int) = 0 then ((chain_Events.f y111 0 4).bind fun t129 => (if (t129.length : Int) = 2 then ((chain_Active.f k y111 3 0).bind fun t132 => (if t132 = 1 then ((chain_Active.f k y111 3 2).bind fun t133 => (if t133 = 3 then ((chain_Active.f k y111 4 2).bind fun t134 => (if t134 = (-1) then ((chain_Active.f k y111 0 0).bind fun t135 => (if t135 = 0 then ((chain_Active.f k y111 3 1).bind fun t136 => (if t136 = (-1) then ((chain_Events.f ([] : List (S40)) 0 1).bind fun t137 => (some ((t137.length : Int) == 0))) else (none))) else (none))) else (none))) else (none))) else (none))) else (none))) else (none))) else (none)) else (none)) else (none)) else (none)) else (none)))) else (none)))
theorem limelightlaw15_live.mono : ∀ k, LeO (limelightlaw15_live.f k ) (limelightlaw15_live.f (k + 1) ) := by
  intro  k
  unfold limelightlaw15_live.f
  repeat' first
      | (with_reducible exact chain_Active.mono _ _ _ _)
      | (with_reducible exact LeO.refl _)
      | (with_reducible exact LeO.none _)
      | (with_reducible refine LeO.ite ?_ ?_)
      | (with_reducible refine LeO.bind ?_ (fun _ => ?_))
      | exact chain_Active.mono _ _ _ _
      | exact LeO.none _
      | refine LeO.ite ?_ ?_
      | refine LeO.bind ?_ (fun _ => ?_)
set_option maxHeartbeats 8000000 in
set_option maxRecDepth 100000 in
theorem limelightlaw15_live.calls (k : Nat)  (r : Bool) (w : World) (h : limelightlaw15_live.f k  = some r) :
    Calls Try.prog 9 #[] w fun e w' => e = .returned (.bool r) ∧ Below w.heap.size w w' := by
  have hu40 := Try.underlying40
  have hu37 := Try.underlying37
  have HB := Aside0.mk (Below.refl w.heap.size w)
  have H : ((some (([(⟨0, 0, (-1), (([1, 4] : List Int)), (-1), (-1), ([] : List (S61))⟩ : S40), (⟨1, 0, 0, ([] : List Int), (-1), 2, ([] : List (S61))⟩ : S40), (⟨3, 0, (-1), (([3] : List Int)), 1, (-1), ([] : List (S61))⟩ : S40), (⟨1, 0, 2, ([] : List Int), (-1), (-1), ([] : List (S61))⟩ : S40), (⟨1, 0, 0, ([] : List Int), (-1), (-1), ([] : List (S61))⟩ : S40)] : List (S40)) : List (S40))).bind fun y111 => ((chain_Events.f y111 3 4).bind fun t114 => (if (t114.length : Int) = 4 then ((chain_Chain.f y111 3).bind fun t117 => ((limelightref01_Ints.f t117 (([3, 0] : List Int))).bind fun t123 => (if t123 = true then (if 0 < (t114.length : Int) then (if (((rd_T37 t114 0).f0) == 1 && (((rd_T37 t114 0).f1) == 3 && (((rd_T37 t114 0).f2) == 4 && (!((rd_T37 t114 0).f3) && (!((rd_T37 t114 0).f4) && (((rd_T37 t114 0).f5))))))) = true then (if 3 < (t114.length : Int) then (if (((rd_T37 t114 3).f0) == 2 && (((rd_T37 t114 3).f1) == 4 && (((rd_T37 t114 3).f2) == 3 && (((rd_T37 t114 3).f3) && (!((rd_T37 t114 3).f4) && (((rd_T37 t114 3).f5))))))) = true then ((chain_Events.f y111 3 3).bind fun t126 => (if (t126.length : Int) = 0 then ((chain_Events.f y111 0 4).bind fun t129 => (if (t129.length : Int) = 2 then ((chain_Active.f k y111 3 0).bind fun t132 => (if t132 = 1 then ((chain_Active.f k y111 3 2).bind fun t133 => (if t133 = 3 then ((chain_Active.f k y111 4 2).bind fun t134 => (if t134 = (-1) then ((chain_Active.f k y111 0 0).bind fun t135 => (if t135 = 0 then ((chain_Active.f k y111 3 1).bind fun t136 => (if t136 = (-1) then ((chain_Events.f ([] : List (S40)) 0 1).bind fun t137 => (some ((t137.length : Int) == 0))) else (none))) else (none))) else (none))) else (none))) else (none))) else (none))) else (none))) else (none)) else (none)) else (none)) else (none)) else (none)))) else (none)))) = some r := h
  clear h
  obtain ⟨y105, hy105⟩ : ∃ y_ : List Int, y_ = (([1, 4] : List Int)) := ⟨_, rfl⟩
  replace H : ((some (([(⟨0, 0, (-1), y105, (-1), (-1), ([] : List (S61))⟩ : S40), (⟨1, 0, 0, ([] : List Int), (-1), 2, ([] : List (S61))⟩ : S40), (⟨3, 0, (-1), (([3] : List Int)), 1, (-1), ([] : List (S61))⟩ : S40), (⟨1, 0, 2, ([] : List Int), (-1), (-1), ([] : List (S61))⟩ : S40), (⟨1, 0, 0, ([] : List Int), (-1), (-1), ([] : List (S61))⟩ : S40)] : List (S40)) : List (S40))).bind fun y111 => ((chain_Events.f y111 3 4).bind fun t114 => (if (t114.length : Int) = 4 then ((chain_Chain.f y111 3).bind fun t117 => ((limelightref01_Ints.f t117 (([3, 0] : List Int))).bind fun t123 => (if t123 = true then (if 0 < (t114.length : Int) then (if (((rd_T37 t114 0).f0) == 1 && (((rd_T37 t114 0).f1) == 3 && (((rd_T37 t114 0).f2) == 4 && (!((rd_T37 t114 0).f3) && (!((rd_T37 t114 0).f4) && (((rd_T37 t114 0).f5))))))) = true then (if 3 < (t114.length : Int) then (if (((rd_T37 t114 3).f0) == 2 && (((rd_T37 t114 3).f1) == 4 && (((rd_T37 t114 3).f2) == 3 && (((rd_T37 t114 3).f3) && (!((rd_T37 t114 3).f4) && (((rd_T37 t114 3).f5))))))) = true then ((chain_Events.f y111 3 3).bind fun t126 => (if (t126.length : Int) = 0 then ((chain_Events.f y111 0 4).bind fun t129 => (if (t129.length : Int) = 2 then ((chain_Active.f k y111 3 0).bind fun t132 => (if t132 = 1 then ((chain_Active.f k y111 3 2).bind fun t133 => (if t133 = 3 then ((chain_Active.f k y111 4 2).bind fun t134 => (if t134 = (-1) then ((chain_Active.f k y111 0 0).bind fun t135 => (if t135 = 0 then ((chain_Active.f k y111 3 1).bind fun t136 => (if t136 = (-1) then ((chain_Events.f ([] : List (S40)) 0 1).bind fun t137 => (some ((t137.length : Int) == 0))) else (none))) else (none))) else (none))) else (none))) else (none))) else (none))) else (none))) else (none)) else (none)) else (none)) else (none)) else (none)))) else (none)))) = some r := by first | (rw [hy105]; with_reducible exact H) | (have H2_ := (Option.bind_some _ _).symm.trans H; rw [hy105]; with_reducible exact H2_) | (have H2_ := (Option.bind_some _ _).symm.trans H; with_reducible exact H2_) | with_reducible exact H | (rw [hy105]; exact H) | exact H
  have Ny105 := Aside0.mk hy105
  clear hy105
  obtain ⟨y108, hy108⟩ : ∃ y_ : List Int, y_ = (([3] : List Int)) := ⟨_, rfl⟩
  replace H : ((some (([(⟨0, 0, (-1), y105, (-1), (-1), ([] : List (S61))⟩ : S40), (⟨1, 0, 0, ([] : List Int), (-1), 2, ([] : List (S61))⟩ : S40), (⟨3, 0, (-1), y108, 1, (-1), ([] : List (S61))⟩ : S40), (⟨1, 0, 2, ([] : List Int), (-1), (-1), ([] : List (S61))⟩ : S40), (⟨1, 0, 0, ([] : List Int), (-1), (-1), ([] : List (S61))⟩ : S40)] : List (S40)) : List (S40))).bind fun y111 => ((chain_Events.f y111 3 4).bind fun t114 => (if (t114.length : Int) = 4 then ((chain_Chain.f y111 3).bind fun t117 => ((limelightref01_Ints.f t117 (([3, 0] : List Int))).bind fun t123 => (if t123 = true then (if 0 < (t114.length : Int) then (if (((rd_T37 t114 0).f0) == 1 && (((rd_T37 t114 0).f1) == 3 && (((rd_T37 t114 0).f2) == 4 && (!((rd_T37 t114 0).f3) && (!((rd_T37 t114 0).f4) && (((rd_T37 t114 0).f5))))))) = true then (if 3 < (t114.length : Int) then (if (((rd_T37 t114 3).f0) == 2 && (((rd_T37 t114 3).f1) == 4 && (((rd_T37 t114 3).f2) == 3 && (((rd_T37 t114 3).f3) && (!((rd_T37 t114 3).f4) && (((rd_T37 t114 3).f5))))))) = true then ((chain_Events.f y111 3 3).bind fun t126 => (if (t126.length : Int) = 0 then ((chain_Events.f y111 0 4).bind fun t129 => (if (t129.length : Int) = 2 then ((chain_Active.f k y111 3 0).bind fun t132 => (if t132 = 1 then ((chain_Active.f k y111 3 2).bind fun t133 => (if t133 = 3 then ((chain_Active.f k y111 4 2).bind fun t134 => (if t134 = (-1) then ((chain_Active.f k y111 0 0).bind fun t135 => (if t135 = 0 then ((chain_Active.f k y111 3 1).bind fun t136 => (if t136 = (-1) then ((chain_Events.f ([] : List (S40)) 0 1).bind fun t137 => (some ((t137.length : Int) == 0))) else (none))) else (none))) else (none))) else (none))) else (none))) else (none))) else (none))) else (none)) else (none)) else (none)) else (none)) else (none)))) else (none)))) = some r := by first | (rw [hy108]; with_reducible exact H) | (have H2_ := (Option.bind_some _ _).symm.trans H; rw [hy108]; with_reducible exact H2_) | (have H2_ := (Option.bind_some _ _).symm.trans H; with_reducible exact H2_) | with_reducible exact H | (rw [hy108]; exact H) | exact H
  have Ny108 := Aside0.mk hy108
  clear hy108
  obtain ⟨y111, hy111⟩ : ∃ y_ : List (S40), y_ = (([(⟨0, 0, (-1), y105, (-1), (-1), ([] : List (S61))⟩ : S40), (⟨1, 0, 0, ([] : List Int), (-1), 2, ([] : List (S61))⟩ : S40), (⟨3, 0, (-1), y108, 1, (-1), ([] : List (S61))⟩ : S40), (⟨1, 0, 2, ([] : List Int), (-1), (-1), ([] : List (S61))⟩ : S40), (⟨1, 0, 0, ([] : List Int), (-1), (-1), ([] : List (S61))⟩ : S40)] : List (S40))) := ⟨_, rfl⟩
  replace H : ((chain_Events.f y111 3 4).bind fun t114 => (if (t114.length : Int) = 4 then ((chain_Chain.f y111 3).bind fun t117 => ((limelightref01_Ints.f t117 (([3, 0] : List Int))).bind fun t123 => (if t123 = true then (if 0 < (t114.length : Int) then (if (((rd_T37 t114 0).f0) == 1 && (((rd_T37 t114 0).f1) == 3 && (((rd_T37 t114 0).f2) == 4 && (!((rd_T37 t114 0).f3) && (!((rd_T37 t114 0).f4) && (((rd_T37 t114 0).f5))))))) = true then (if 3 < (t114.length : Int) then (if (((rd_T37 t114 3).f0) == 2 && (((rd_T37 t114 3).f1) == 4 && (((rd_T37 t114 3).f2) == 3 && (((rd_T37 t114 3).f3) && (!((rd_T37 t114 3).f4) && (((rd_T37 t114 3).f5))))))) = true then ((chain_Events.f y111 3 3).bind fun t126 => (if (t126.length : Int) = 0 then ((chain_Events.f y111 0 4).bind fun t129 => (if (t129.length : Int) = 2 then ((chain_Active.f k y111 3 0).bind fun t132 => (if t132 = 1 then ((chain_Active.f k y111 3 2).bind fun t133 => (if t133 = 3 then ((chain_Active.f k y111 4 2).bind fun t134 => (if t134 = (-1) then ((chain_Active.f k y111 0 0).bind fun t135 => (if t135 = 0 then ((chain_Active.f k y111 3 1).bind fun t136 => (if t136 = (-1) then ((chain_Events.f ([] : List (S40)) 0 1).bind fun t137 => (some ((t137.length : Int) == 0))) else (none))) else (none))) else (none))) else (none))) else (none))) else (none))) else (none))) else (none)) else (none)) else (none)) else (none)) else (none)))) else (none))) = some r := by first | (rw [hy111]; with_reducible exact H) | (have H2_ := (Option.bind_some _ _).symm.trans H; rw [hy111]; with_reducible exact H2_) | (have H2_ := (Option.bind_some _ _).symm.trans H; with_reducible exact H2_) | with_reducible exact H | (rw [hy111]; exact H) | exact H
  have Ny111 := Aside0.mk hy111
  clear hy111
  replace H := Option.bind_eq_some_iff.mp H
  obtain ⟨t114, A10, H⟩ := H
  replace H : (if (t114.length : Int) = 4 then ((chain_Chain.f y111 3).bind fun t117 => ((limelightref01_Ints.f t117 (([3, 0] : List Int))).bind fun t123 => (if t123 = true then (if 0 < (t114.length : Int) then (if (((rd_T37 t114 0).f0) == 1 && (((rd_T37 t114 0).f1) == 3 && (((rd_T37 t114 0).f2) == 4 && (!((rd_T37 t114 0).f3) && (!((rd_T37 t114 0).f4) && (((rd_T37 t114 0).f5))))))) = true then (if 3 < (t114.length : Int) then (if (((rd_T37 t114 3).f0) == 2 && (((rd_T37 t114 3).f1) == 4 && (((rd_T37 t114 3).f2) == 3 && (((rd_T37 t114 3).f3) && (!((rd_T37 t114 3).f4) && (((rd_T37 t114 3).f5))))))) = true then ((chain_Events.f y111 3 3).bind fun t126 => (if (t126.length : Int) = 0 then ((chain_Events.f y111 0 4).bind fun t129 => (if (t129.length : Int) = 2 then ((chain_Active.f k y111 3 0).bind fun t132 => (if t132 = 1 then ((chain_Active.f k y111 3 2).bind fun t133 => (if t133 = 3 then ((chain_Active.f k y111 4 2).bind fun t134 => (if t134 = (-1) then ((chain_Active.f k y111 0 0).bind fun t135 => (if t135 = 0 then ((chain_Active.f k y111 3 1).bind fun t136 => (if t136 = (-1) then ((chain_Events.f ([] : List (S40)) 0 1).bind fun t137 => (some ((t137.length : Int) == 0))) else (none))) else (none))) else (none))) else (none))) else (none))) else (none))) else (none))) else (none)) else (none)) else (none)) else (none)) else (none)))) else (none)) = some r := H
  have A1 := Aside0.mk A10
  clear A10
  by_cases c2 : (t114.length : Int) = 4
  · rw [if_pos c2] at H
    have c2b0 : ((t114.length : Int) == 4) = true := beq_iff_eq.mpr c2
    have c2b1 : ((t114.length : Int) != 4) = false := bne_eq_false_iff_eq.mpr c2
    clear c2
    replace H := Option.bind_eq_some_iff.mp H
    obtain ⟨t117, A30, H⟩ := H
    replace H : ((limelightref01_Ints.f t117 (([3, 0] : List Int))).bind fun t123 => (if t123 = true then (if 0 < (t114.length : Int) then (if (((rd_T37 t114 0).f0) == 1 && (((rd_T37 t114 0).f1) == 3 && (((rd_T37 t114 0).f2) == 4 && (!((rd_T37 t114 0).f3) && (!((rd_T37 t114 0).f4) && (((rd_T37 t114 0).f5))))))) = true then (if 3 < (t114.length : Int) then (if (((rd_T37 t114 3).f0) == 2 && (((rd_T37 t114 3).f1) == 4 && (((rd_T37 t114 3).f2) == 3 && (((rd_T37 t114 3).f3) && (!((rd_T37 t114 3).f4) && (((rd_T37 t114 3).f5))))))) = true then ((chain_Events.f y111 3 3).bind fun t126 => (if (t126.length : Int) = 0 then ((chain_Events.f y111 0 4).bind fun t129 => (if (t129.length : Int) = 2 then ((chain_Active.f k y111 3 0).bind fun t132 => (if t132 = 1 then ((chain_Active.f k y111 3 2).bind fun t133 => (if t133 = 3 then ((chain_Active.f k y111 4 2).bind fun t134 => (if t134 = (-1) then ((chain_Active.f k y111 0 0).bind fun t135 => (if t135 = 0 then ((chain_Active.f k y111 3 1).bind fun t136 => (if t136 = (-1) then ((chain_Events.f ([] : List (S40)) 0 1).bind fun t137 => (some ((t137.length : Int) == 0))) else (none))) else (none))) else (none))) else (none))) else (none))) else (none))) else (none))) else (none)) else (none)) else (none)) else (none)) else (none))) = some r := H
    have A3 := Aside0.mk A30
    clear A30
    obtain ⟨y120, hy120⟩ : ∃ y_ : List Int, y_ = (([3, 0] : List Int)) := ⟨_, rfl⟩
    replace H : ((limelightref01_Ints.f t117 y120).bind fun t123 => (if t123 = true then (if 0 < (t114.length : Int) then (if (((rd_T37 t114 0).f0) == 1 && (((rd_T37 t114 0).f1) == 3 && (((rd_T37 t114 0).f2) == 4 && (!((rd_T37 t114 0).f3) && (!((rd_T37 t114 0).f4) && (((rd_T37 t114 0).f5))))))) = true then (if 3 < (t114.length : Int) then (if (((rd_T37 t114 3).f0) == 2 && (((rd_T37 t114 3).f1) == 4 && (((rd_T37 t114 3).f2) == 3 && (((rd_T37 t114 3).f3) && (!((rd_T37 t114 3).f4) && (((rd_T37 t114 3).f5))))))) = true then ((chain_Events.f y111 3 3).bind fun t126 => (if (t126.length : Int) = 0 then ((chain_Events.f y111 0 4).bind fun t129 => (if (t129.length : Int) = 2 then ((chain_Active.f k y111 3 0).bind fun t132 => (if t132 = 1 then ((chain_Active.f k y111 3 2).bind fun t133 => (if t133 = 3 then ((chain_Active.f k y111 4 2).bind fun t134 => (if t134 = (-1) then ((chain_Active.f k y111 0 0).bind fun t135 => (if t135 = 0 then ((chain_Active.f k y111 3 1).bind fun t136 => (if t136 = (-1) then ((chain_Events.f ([] : List (S40)) 0 1).bind fun t137 => (some ((t137.length : Int) == 0))) else (none))) else (none))) else (none))) else (none))) else (none))) else (none))) else (none))) else (none)) else (none)) else (none)) else (none)) else (none))) = some r := by first | (rw [hy120]; with_reducible exact H) | (have H2_ := (Option.bind_some _ _).symm.trans H; rw [hy120]; with_reducible exact H2_) | (have H2_ := (Option.bind_some _ _).symm.trans H; with_reducible exact H2_) | with_reducible exact H | (rw [hy120]; exact H) | exact H
    have Ny120 := Aside0.mk hy120
    clear hy120
    replace H := Option.bind_eq_some_iff.mp H
    obtain ⟨t123, A40, H⟩ := H
    replace H : (if t123 = true then (if 0 < (t114.length : Int) then (if (((rd_T37 t114 0).f0) == 1 && (((rd_T37 t114 0).f1) == 3 && (((rd_T37 t114 0).f2) == 4 && (!((rd_T37 t114 0).f3) && (!((rd_T37 t114 0).f4) && (((rd_T37 t114 0).f5))))))) = true then (if 3 < (t114.length : Int) then (if (((rd_T37 t114 3).f0) == 2 && (((rd_T37 t114 3).f1) == 4 && (((rd_T37 t114 3).f2) == 3 && (((rd_T37 t114 3).f3) && (!((rd_T37 t114 3).f4) && (((rd_T37 t114 3).f5))))))) = true then ((chain_Events.f y111 3 3).bind fun t126 => (if (t126.length : Int) = 0 then ((chain_Events.f y111 0 4).bind fun t129 => (if (t129.length : Int) = 2 then ((chain_Active.f k y111 3 0).bind fun t132 => (if t132 = 1 then ((chain_Active.f k y111 3 2).bind fun t133 => (if t133 = 3 then ((chain_Active.f k y111 4 2).bind fun t134 => (if t134 = (-1) then ((chain_Active.f k y111 0 0).bind fun t135 => (if t135 = 0 then ((chain_Active.f k y111 3 1).bind fun t136 => (if t136 = (-1) then ((chain_Events.f ([] : List (S40)) 0 1).bind fun t137 => (some ((t137.length : Int) == 0))) else (none))) else (none))) else (none))) else (none))) else (none))) else (none))) else (none))) else (none)) else (none)) else (none)) else (none)) else (none)) = some r := H
    have A4 := Aside0.mk A40
    clear A40
    by_cases c5 : t123 = true
    · subst c5
      have H1 : (if 0 < (t114.length : Int) then (if (((rd_T37 t114 0).f0) == 1 && (((rd_T37 t114 0).f1) == 3 && (((rd_T37 t114 0).f2) == 4 && (!((rd_T37 t114 0).f3) && (!((rd_T37 t114 0).f4) && (((rd_T37 t114 0).f5))))))) = true then (if 3 < (t114.length : Int) then (if (((rd_T37 t114 3).f0) == 2 && (((rd_T37 t114 3).f1) == 4 && (((rd_T37 t114 3).f2) == 3 && (((rd_T37 t114 3).f3) && (!((rd_T37 t114 3).f4) && (((rd_T37 t114 3).f5))))))) = true then ((chain_Events.f y111 3 3).bind fun t126 => (if (t126.length : Int) = 0 then ((chain_Events.f y111 0 4).bind fun t129 => (if (t129.length : Int) = 2 then ((chain_Active.f k y111 3 0).bind fun t132 => (if t132 = 1 then ((chain_Active.f k y111 3 2).bind fun t133 => (if t133 = 3 then ((chain_Active.f k y111 4 2).bind fun t134 => (if t134 = (-1) then ((chain_Active.f k y111 0 0).bind fun t135 => (if t135 = 0 then ((chain_Active.f k y111 3 1).bind fun t136 => (if t136 = (-1) then ((chain_Events.f ([] : List (S40)) 0 1).bind fun t137 => (some ((t137.length : Int) == 0))) else (none))) else (none))) else (none))) else (none))) else (none))) else (none))) else (none))) else (none)) else (none)) else (none)) else (none)) = some r := by rw [if_pos rfl] at H; exact H
      clear H
      have H := H1
      clear H1
      by_cases c6 : 0 < (t114.length : Int)
      · rw [if_pos c6] at H
        have c6b0 : decide (0 < (t114.length : Int)) = true := decide_eq_true c6
        have c6b1 : decide (0 < t114.length) = true := decide_eq_true (by omega)
        clear c6
        by_cases c7 : (((rd_T37 t114 0).f0) == 1 && (((rd_T37 t114 0).f1) == 3 && (((rd_T37 t114 0).f2) == 4 && (!((rd_T37 t114 0).f3) && (!((rd_T37 t114 0).f4) && (((rd_T37 t114 0).f5))))))) = true
        · rw [if_pos c7] at H
          have c7b0 : (((rd_T37 t114 0).f0) == 1 && (((rd_T37 t114 0).f1) == 3 && (((rd_T37 t114 0).f2) == 4 && (!((rd_T37 t114 0).f3) && (!((rd_T37 t114 0).f4) && (((rd_T37 t114 0).f5))))))) = true := c7
          (try (have c7b1 : decide (((rd_T37 t114 0).f0) = 1 && (((rd_T37 t114 0).f1) == 3 && (((rd_T37 t114 0).f2) == 4 && (!((rd_T37 t114 0).f3) && (!((rd_T37 t114 0).f4) && (((rd_T37 t114 0).f5))))))) = true := by simpa using c7))
          (try (have c7b2 : (((rd_T37 t114 0).f0) == 1 && (((rd_T37 t114 0).f1) == 3 && (((rd_T37 t114 0).f2) == 4 && (!((rd_T37 t114 0).f3) && (!((rd_T37 t114 0).f4) && (((rd_T37 t114 0).f5))))))) = true := by simpa using c7))
          clear c7
          by_cases c8 : 3 < (t114.length : Int)
          · rw [if_pos c8] at H
            have c8b0 : decide (3 < (t114.length : Int)) = true := decide_eq_true c8
            have c8b1 : decide (3 < t114.length) = true := decide_eq_true (by omega)
            clear c8
            by_cases c9 : (((rd_T37 t114 3).f0) == 2 && (((rd_T37 t114 3).f1) == 4 && (((rd_T37 t114 3).f2) == 3 && (((rd_T37 t114 3).f3) && (!((rd_T37 t114 3).f4) && (((rd_T37 t114 3).f5))))))) = true
            · rw [if_pos c9] at H
              have c9b0 : (((rd_T37 t114 3).f0) == 2 && (((rd_T37 t114 3).f1) == 4 && (((rd_T37 t114 3).f2) == 3 && (((rd_T37 t114 3).f3) && (!((rd_T37 t114 3).f4) && (((rd_T37 t114 3).f5))))))) = true := c9
              (try (have c9b1 : decide (((rd_T37 t114 3).f0) = 2 && (((rd_T37 t114 3).f1) == 4 && (((rd_T37 t114 3).f2) == 3 && (((rd_T37 t114 3).f3) && (!((rd_T37 t114 3).f4) && (((rd_T37 t114 3).f5))))))) = true := by simpa using c9))
              (try (have c9b2 : (((rd_T37 t114 3).f0) == 2 && (((rd_T37 t114 3).f1) == 4 && (((rd_T37 t114 3).f2) == 3 && (((rd_T37 t114 3).f3) && (!((rd_T37 t114 3).f4) && (((rd_T37 t114 3).f5))))))) = true := by simpa using c9))
              clear c9
              replace H := Option.bind_eq_some_iff.mp H
              obtain ⟨t126, A100, H⟩ := H
              replace H : (if (t126.length : Int) = 0 then ((chain_Events.f y111 0 4).bind fun t129 => (if (t129.length : Int) = 2 then ((chain_Active.f k y111 3 0).bind fun t132 => (if t132 = 1 then ((chain_Active.f k y111 3 2).bind fun t133 => (if t133 = 3 then ((chain_Active.f k y111 4 2).bind fun t134 => (if t134 = (-1) then ((chain_Active.f k y111 0 0).bind fun t135 => (if t135 = 0 then ((chain_Active.f k y111 3 1).bind fun t136 => (if t136 = (-1) then ((chain_Events.f ([] : List (S40)) 0 1).bind fun t137 => (some ((t137.length : Int) == 0))) else (none))) else (none))) else (none))) else (none))) else (none))) else (none))) else (none)) = some r := H
              have A10 := Aside0.mk A100
              clear A100
              by_cases c11 : (t126.length : Int) = 0
              · rw [if_pos c11] at H
                have c11b0 : ((t126.length : Int) == 0) = true := beq_iff_eq.mpr c11
                have c11b1 : ((t126.length : Int) != 0) = false := bne_eq_false_iff_eq.mpr c11
                clear c11
                replace H := Option.bind_eq_some_iff.mp H
                obtain ⟨t129, A120, H⟩ := H
                replace H : (if (t129.length : Int) = 2 then ((chain_Active.f k y111 3 0).bind fun t132 => (if t132 = 1 then ((chain_Active.f k y111 3 2).bind fun t133 => (if t133 = 3 then ((chain_Active.f k y111 4 2).bind fun t134 => (if t134 = (-1) then ((chain_Active.f k y111 0 0).bind fun t135 => (if t135 = 0 then ((chain_Active.f k y111 3 1).bind fun t136 => (if t136 = (-1) then ((chain_Events.f ([] : List (S40)) 0 1).bind fun t137 => (some ((t137.length : Int) == 0))) else (none))) else (none))) else (none))) else (none))) else (none))) else (none)) = some r := H
                have A12 := Aside0.mk A120
                clear A120
                by_cases c13 : (t129.length : Int) = 2
                · rw [if_pos c13] at H
                  have c13b0 : ((t129.length : Int) == 2) = true := beq_iff_eq.mpr c13
                  have c13b1 : ((t129.length : Int) != 2) = false := bne_eq_false_iff_eq.mpr c13
                  clear c13
                  replace H := Option.bind_eq_some_iff.mp H
                  obtain ⟨t132, A140, H⟩ := H
                  replace H : (if t132 = 1 then ((chain_Active.f k y111 3 2).bind fun t133 => (if t133 = 3 then ((chain_Active.f k y111 4 2).bind fun t134 => (if t134 = (-1) then ((chain_Active.f k y111 0 0).bind fun t135 => (if t135 = 0 then ((chain_Active.f k y111 3 1).bind fun t136 => (if t136 = (-1) then ((chain_Events.f ([] : List (S40)) 0 1).bind fun t137 => (some ((t137.length : Int) == 0))) else (none))) else (none))) else (none))) else (none))) else (none)) = some r := H
                  have A14 := Aside0.mk A140
                  clear A140
                  by_cases c15 : t132 = 1
                  · rw [if_pos c15] at H
                    have c15b0 : (t132 == 1) = true := beq_iff_eq.mpr c15
                    have c15b1 : (t132 != 1) = false := bne_eq_false_iff_eq.mpr c15
                    clear c15
                    replace H := Option.bind_eq_some_iff.mp H
                    obtain ⟨t133, A160, H⟩ := H
                    replace H : (if t133 = 3 then ((chain_Active.f k y111 4 2).bind fun t134 => (if t134 = (-1) then ((chain_Active.f k y111 0 0).bind fun t135 => (if t135 = 0 then ((chain_Active.f k y111 3 1).bind fun t136 => (if t136 = (-1) then ((chain_Events.f ([] : List (S40)) 0 1).bind fun t137 => (some ((t137.length : Int) == 0))) else (none))) else (none))) else (none))) else (none)) = some r := H
                    have A16 := Aside0.mk A160
                    clear A160
                    by_cases c17 : t133 = 3
                    · rw [if_pos c17] at H
                      have c17b0 : (t133 == 3) = true := beq_iff_eq.mpr c17
                      have c17b1 : (t133 != 3) = false := bne_eq_false_iff_eq.mpr c17
                      clear c17
                      replace H := Option.bind_eq_some_iff.mp H
                      obtain ⟨t134, A180, H⟩ := H
                      replace H : (if t134 = (-1) then ((chain_Active.f k y111 0 0).bind fun t135 => (if t135 = 0 then ((chain_Active.f k y111 3 1).bind fun t136 => (if t136 = (-1) then ((chain_Events.f ([] : List (S40)) 0 1).bind fun t137 => (some ((t137.length : Int) == 0))) else (none))) else (none))) else (none)) = some r := H
                      have A18 := Aside0.mk A180
                      clear A180
                      by_cases c19 : t134 = (-1)
                      · rw [if_pos c19] at H
                        have c19b0 : (t134 == (-1)) = true := beq_iff_eq.mpr c19
                        have c19b1 : (t134 != (-1)) = false := bne_eq_false_iff_eq.mpr c19
                        clear c19
                        replace H := Option.bind_eq_some_iff.mp H
                        obtain ⟨t135, A200, H⟩ := H
                        replace H : (if t135 = 0 then ((chain_Active.f k y111 3 1).bind fun t136 => (if t136 = (-1) then ((chain_Events.f ([] : List (S40)) 0 1).bind fun t137 => (some ((t137.length : Int) == 0))) else (none))) else (none)) = some r := H
                        have A20 := Aside0.mk A200
                        clear A200
                        by_cases c21 : t135 = 0
                        · rw [if_pos c21] at H
                          have c21b0 : (t135 == 0) = true := beq_iff_eq.mpr c21
                          have c21b1 : (t135 != 0) = false := bne_eq_false_iff_eq.mpr c21
                          clear c21
                          replace H := Option.bind_eq_some_iff.mp H
                          obtain ⟨t136, A220, H⟩ := H
                          replace H : (if t136 = (-1) then ((chain_Events.f ([] : List (S40)) 0 1).bind fun t137 => (some ((t137.length : Int) == 0))) else (none)) = some r := H
                          have A22 := Aside0.mk A220
                          clear A220
                          by_cases c23 : t136 = (-1)
                          · rw [if_pos c23] at H
                            have c23b0 : (t136 == (-1)) = true := beq_iff_eq.mpr c23
                            have c23b1 : (t136 != (-1)) = false := bne_eq_false_iff_eq.mpr c23
                            clear c23
                            replace H := Option.bind_eq_some_iff.mp H
                            obtain ⟨t137, A240, H⟩ := H
                            replace H : (some ((t137.length : Int) == 0)) = some r := H
                            have A24 := Aside0.mk A240
                            clear A240
                            obtain rfl := Option.some.inj H
                            go_enter Try.func9, Try.ntmps9
                            go_wp2_with (first | ((with_reducible refine gate_dst (N := 3) rfl ?_); (try (refine gate_guard (by rfl) ?_; dsimp only)); refine Kd.R_lit (Kd.int .i64) _ 3 ?hg (N := 3) ?hd (xs := ([1, 4] : List Int)) (inner := [.int .i64 1, .int .i64 4]) (ok := fun _ => True) (okp := fun _ => True) ?hr ?hp (fun _ hk => hk) trivial (Below.refl _ _) (Nat.le_refl _) (by simp) ?_; (case hd => rfl); (case hg => rfl); (case hr => first | (go_simp; done) | (go_simp; rfl)); (case hp => exact (Reps.one (show Kd.M (Kd.int .i64) _ _ _ 1 [.int .i64 1] from rfl) (Reps.one (show Kd.M (Kd.int .i64) _ _ _ 4 [.int .i64 4] from rfl) (Reps.none _ _)))); intro v106 w25 ho26 hb hg_ hnew_; clear hg_ hnew_; (first | rw [← Ny105.out] at ho26 | (simp only [Int.reduceToNat] at ho26; rw [← Ny105.out] at ho26)); have n0_ := Aside0.mk (Kd.R_lower ho26 (below_size (by repeat (first | (with_reducible first | exact HB.out | apply below_alloc | apply pw_below_drewN | apply below_drew1) | exact HB.out)))); have n1_ := Aside0.mk (below_step (by repeat (first | (with_reducible first | exact HB.out | apply below_alloc | apply pw_below_drewN | apply below_drew1) | exact HB.out)) hb); clear HB; have HO107 := n0_; have HB := n1_; clear n0_ n1_; clear hb ho26; obtain ⟨Ao27, co27, eo27⟩ := Kd.R_slice HO107.out; subst eo27) | ((with_reducible refine gate_dst (N := 6) rfl ?_); (try (refine gate_guard (by rfl) ?_; dsimp only)); refine Kd.R_lit (Kd.int .i64) _ 3 ?hg (N := 6) ?hd (xs := ([3] : List Int)) (inner := [.int .i64 3]) (ok := fun _ => True) (okp := fun _ => True) ?hr ?hp (fun _ hk => hk) trivial (Below.refl _ _) (Nat.le_refl _) (by simp) ?_; (case hd => rfl); (case hg => rfl); (case hr => first | (go_simp; done) | (go_simp; rfl)); (case hp => exact (Reps.one (show Kd.M (Kd.int .i64) _ _ _ 3 [.int .i64 3] from rfl) (Reps.none _ _))); intro v109 w28 ho29 hb hg_ hnew_; clear hg_ hnew_; (first | rw [← Ny108.out] at ho29 | (simp only [Int.reduceToNat] at ho29; rw [← Ny108.out] at ho29)); have n0_ := Aside0.mk (Kd.R_elder' (by (with_reducible repeat (first | apply Kd.R_alloc | apply Kd.R_drewN | apply Kd.R_drew)); exact HO107.out) (Kd.R_base ho29) hb); have n1_ := Aside0.mk (Kd.R_lower (Kd.R_new' ho29 (Kd.R_lt (by (with_reducible repeat (first | apply Kd.R_alloc | apply Kd.R_drewN | apply Kd.R_drew)); exact HO107.out))) (below_size (by repeat (first | (with_reducible first | exact HB.out | apply below_alloc | apply pw_below_drewN | apply below_drew1) | exact HB.out)))); have n2_ := Aside0.mk (below_step (by repeat (first | (with_reducible first | exact HB.out | apply below_alloc | apply pw_below_drewN | apply below_drew1) | exact HB.out)) hb); clear HO107; clear HB; have HO107 := n0_; have HO110 := n1_; have HB := n2_; clear n0_ n1_ n2_; clear hb ho29; obtain ⟨Ao30, co30, eo30⟩ := Kd.R_slice HO110.out; subst eo30) | ((with_reducible refine gate_dst (N := 10) rfl ?_); (try (refine gate_guard (by rfl) ?_; dsimp only)); refine Kd.N_lit k40 _ 40 ?hg (N' := 10) ?hd (xs := ([(⟨0, 0, (-1), y105, (-1), (-1), ([] : List (S61))⟩ : S40), (⟨1, 0, 0, ([] : List Int), (-1), 2, ([] : List (S61))⟩ : S40), (⟨3, 0, (-1), y108, 1, (-1), ([] : List (S61))⟩ : S40), (⟨1, 0, 2, ([] : List Int), (-1), (-1), ([] : List (S61))⟩ : S40), (⟨1, 0, 0, ([] : List Int), (-1), (-1), ([] : List (S61))⟩ : S40)] : List (S40))) (inner := [.int .i64 0, .int .i64 0, .int .i64 (-1), .slice Ao27 y105.length co27, .int .i64 (-1), .int .i64 (-1), .slice none 0 0, .int .i64 1, .int .i64 0, .int .i64 0, .slice none 0 0, .int .i64 (-1), .int .i64 2, .slice none 0 0, .int .i64 3, .int .i64 0, .int .i64 (-1), .slice Ao30 y108.length co30, .int .i64 1, .int .i64 (-1), .slice none 0 0, .int .i64 1, .int .i64 0, .int .i64 2, .slice none 0 0, .int .i64 (-1), .int .i64 (-1), .slice none 0 0, .int .i64 1, .int .i64 0, .int .i64 0, .slice none 0 0, .int .i64 (-1), .int .i64 (-1), .slice none 0 0]) (ok := (fun _ => True)) (okp := (fun _ => True)) ?hr ?hp (fun _ hk => hk) ((show ∀ k_, w28.heap.size ≤ k_ → (fun _ => True) k_ from fun k_ hk => trivial) _ (Nat.le_refl _)) (Below.refl _ _) (Nat.le_refl _) (by simp) ?_; (case hd => rfl); (case hg => rfl); (case hr => first | (go_simp; done) | (go_simp; rfl)); (case hp => exact (Reps.c7 (show Kd.FK k40 _ _ (⟨0, 0, (-1), y105, (-1), (-1), ([] : List (S61))⟩ : S40) [.int .i64 0, .int .i64 0, .int .i64 (-1), .slice Ao27 y105.length co27, .int .i64 (-1), .int .i64 (-1), .slice none 0 0] from (k40_mkF _ _ (⟨0, 0, (-1), y105, (-1), (-1), ([] : List (S61))⟩ : S40) (Kd.R_reads' (Kd.R_mono (ok' := (fun _ => True)) (HO107.out) (fun k_ hk => trivial))).2.1 (Kd.R_F (Kd.R_mono (ok' := (fun _ => True)) (HO107.out) (fun k_ hk => trivial))) (Nat.le_refl _) (Kd.F_nil _ _ _))) (Reps.c7 (show Kd.FK k40 _ _ (⟨1, 0, 0, ([] : List Int), (-1), 2, ([] : List (S61))⟩ : S40) [.int .i64 1, .int .i64 0, .int .i64 0, .slice none 0 0, .int .i64 (-1), .int .i64 2, .slice none 0 0] from (k40_mkF _ _ (⟨1, 0, 0, ([] : List Int), (-1), 2, ([] : List (S61))⟩ : S40) (Nat.le_refl _) (Kd.F_nil _ _ _) (Nat.le_refl _) (Kd.F_nil _ _ _))) (Reps.c7 (show Kd.FK k40 _ _ (⟨3, 0, (-1), y108, 1, (-1), ([] : List (S61))⟩ : S40) [.int .i64 3, .int .i64 0, .int .i64 (-1), .slice Ao30 y108.length co30, .int .i64 1, .int .i64 (-1), .slice none 0 0] from (k40_mkF _ _ (⟨3, 0, (-1), y108, 1, (-1), ([] : List (S61))⟩ : S40) (Kd.R_reads' (Kd.R_mono (ok' := (fun _ => True)) (HO110.out) (fun k_ hk => trivial))).2.1 (Kd.R_F (Kd.R_mono (ok' := (fun _ => True)) (HO110.out) (fun k_ hk => trivial))) (Nat.le_refl _) (Kd.F_nil _ _ _))) (Reps.c7 (show Kd.FK k40 _ _ (⟨1, 0, 2, ([] : List Int), (-1), (-1), ([] : List (S61))⟩ : S40) [.int .i64 1, .int .i64 0, .int .i64 2, .slice none 0 0, .int .i64 (-1), .int .i64 (-1), .slice none 0 0] from (k40_mkF _ _ (⟨1, 0, 2, ([] : List Int), (-1), (-1), ([] : List (S61))⟩ : S40) (Nat.le_refl _) (Kd.F_nil _ _ _) (Nat.le_refl _) (Kd.F_nil _ _ _))) (Reps.c7 (show Kd.FK k40 _ _ (⟨1, 0, 0, ([] : List Int), (-1), (-1), ([] : List (S61))⟩ : S40) [.int .i64 1, .int .i64 0, .int .i64 0, .slice none 0 0, .int .i64 (-1), .int .i64 (-1), .slice none 0 0] from (k40_mkF _ _ (⟨1, 0, 0, ([] : List Int), (-1), (-1), ([] : List (S61))⟩ : S40) (Nat.le_refl _) (Kd.F_nil _ _ _) (Nat.le_refl _) (Kd.F_nil _ _ _))) (Reps.none _ _))))))); intro v112 w31 ho32 hb hg_ hnew_; clear hg_ hnew_; (first | rw [← Ny111.out] at ho32 | (simp only [Int.reduceToNat] at ho32; rw [← Ny111.out] at ho32)); have n0_ := Aside0.mk (Kd.N_lower ho32 (below_size (by repeat (first | (with_reducible first | exact HB.out | apply below_alloc | apply pw_below_drewN | apply below_drew1) | exact HB.out)))); have n1_ := Aside0.mk (below_step (by repeat (first | (with_reducible first | exact HB.out | apply below_alloc | apply pw_below_drewN | apply below_drew1) | exact HB.out)) hb); clear HB; clear HO107; clear HO110; have HO113 := n0_; have HB := n1_; clear n0_ n1_; clear hb ho32; obtain ⟨Ao33, co33, eo33⟩ := Kd.N_slice HO113.out; subst eo33) | ((with_reducible refine gate_callee (f := 10) rfl ?_); refine goesL_ (some 12) rfl rfl Try.func10 (by kernel_rfl) rfl #[.slice Ao33 y111.length co33, .int .i64 3, .int .i64 4] rfl (by (try simp only [List.map_toArray, List.map_cons, List.map_nil]); first | done | rfl | (simp only [List.length_drop, List.length_take]; rfl)) ?_; (with_reducible refine (chain_Events.calls _ _ y111 3 4 t114 _ ?side1 ?side2 A1.out).mono ?_); (case side1 => repeat (first | exact (Kd.N_reads' HO113.out).2.2 | (with_reducible refine Kd.C_alloc ?_ _) | (with_reducible refine Kd.C_drewN ?_ _) | (with_reducible refine Kd.C_drew ?_))); (case side2 => exact (Kd.N_reads' HO113.out).2.1); rintro e w34 ⟨v115, rfl, ho0, hb⟩; refine ⟨_, rfl, ?_⟩; have n0_ := Aside0.mk (Kd.N_elder' (by (with_reducible repeat (first | apply Kd.N_alloc | apply Kd.N_drewN | apply Kd.N_drew)); exact HO113.out) (Kd.R_base ho0) hb); have n1_ := Aside0.mk (Kd.R_lower ho0 (below_size (by repeat (first | (with_reducible first | exact HB.out | apply below_alloc | apply pw_below_drewN | apply below_drew1) | exact HB.out)))); have n2_ := Aside0.mk (below_step (by repeat (first | (with_reducible first | exact HB.out | apply below_alloc | apply pw_below_drewN | apply below_drew1) | exact HB.out)) hb); clear HO113; clear HB; have HO113 := n0_; have HO116 := n1_; have HB := n2_; clear n0_ n1_ n2_; (try clear hb); (try clear hb2); (try clear hk); (try clear hi); (try clear ho0); obtain ⟨Ao35, co35, eo35⟩ := Kd.R_slice HO116.out; subst eo35) | ((with_reducible refine gate_callee (f := 13) rfl ?_); refine goesL_ (some 17) rfl rfl Try.func13 (by kernel_rfl) rfl #[.slice Ao33 y111.length co33, .int .i64 3] rfl (by (try simp only [List.map_toArray, List.map_cons, List.map_nil]); first | done | rfl | (simp only [List.length_drop, List.length_take]; rfl)) ?_; (with_reducible refine (chain_Chain.calls _ _ y111 3 t117 _ ?side1 ?side2 A3.out).mono ?_); (case side1 => repeat (first | exact (Kd.N_reads' HO113.out).2.2 | (with_reducible refine Kd.C_alloc ?_ _) | (with_reducible refine Kd.C_drewN ?_ _) | (with_reducible refine Kd.C_drew ?_))); (case side2 => exact (Kd.N_reads' HO113.out).2.1); rintro e w36 ⟨v118, rfl, ho0, hb⟩; refine ⟨_, rfl, ?_⟩; have n0_ := Aside0.mk (Kd.N_below (by (with_reducible repeat (first | apply Kd.N_alloc | apply Kd.N_drewN | apply Kd.N_drew)); exact HO113.out) hb); have n1_ := Aside0.mk (Kd.R_below (by (with_reducible repeat (first | apply Kd.R_alloc | apply Kd.R_drewN | apply Kd.R_drew)); exact HO116.out) hb); have n2_ := Aside0.mk (Kd.V_lower (Kd.V_mono (ok' := fun k_ => some k_ ≠ (.slice Ao33 y111.length co33 : Value).ownBlock ∧ some k_ ≠ (.slice Ao35 t114.length co35 : Value).ownBlock) ho0 (fun k_ hk_ => ⟨(Kd.fresh' (Kd.N_lt (by (with_reducible repeat (first | apply Kd.N_alloc | apply Kd.N_drewN | apply Kd.N_drew)); exact HO113.out)) k_ hk_), (Kd.fresh' (Kd.R_lt (by (with_reducible repeat (first | apply Kd.R_alloc | apply Kd.R_drewN | apply Kd.R_drew)); exact HO116.out)) k_ hk_)⟩)) (below_size (by repeat (first | (with_reducible first | exact HB.out | apply below_alloc | apply pw_below_drewN | apply below_drew1) | exact HB.out)))); have n3_ := Aside0.mk (below_step (by repeat (first | (with_reducible first | exact HB.out | apply below_alloc | apply pw_below_drewN | apply below_drew1) | exact HB.out)) hb); clear HO113; clear HO116; clear HB; have HO113 := n0_; have HO116 := n1_; have HO119 := n2_; have HB := n3_; clear n0_ n1_ n2_ n3_; (try clear hb); (try clear hb2); (try clear hk); (try clear hi); (try clear ho0)) | ((with_reducible refine gate_dst (N := 18) rfl ?_); (try (refine gate_guard (by rfl) ?_; dsimp only)); refine Kd.R_lit (Kd.int .i64) _ 3 ?hg (N := 18) ?hd (xs := ([3, 0] : List Int)) (inner := [.int .i64 3, .int .i64 0]) (ok := fun _ => True) (okp := fun _ => True) ?hr ?hp (fun _ hk => hk) trivial (Below.refl _ _) (Nat.le_refl _) (by simp) ?_; (case hd => rfl); (case hg => rfl); (case hr => first | (go_simp; done) | (go_simp; rfl)); (case hp => exact (Reps.one (show Kd.M (Kd.int .i64) _ _ _ 3 [.int .i64 3] from rfl) (Reps.one (show Kd.M (Kd.int .i64) _ _ _ 0 [.int .i64 0] from rfl) (Reps.none _ _)))); intro v121 w37 ho38 hb hg_ hnew_; clear hg_ hnew_; (first | rw [← Ny120.out] at ho38 | (simp only [Int.reduceToNat] at ho38; rw [← Ny120.out] at ho38)); have n0_ := Aside0.mk (Kd.N_elder' (by (with_reducible repeat (first | apply Kd.N_alloc | apply Kd.N_drewN | apply Kd.N_drew)); exact HO113.out) (Kd.R_base ho38) hb); have n1_ := Aside0.mk (Kd.R_below (by (with_reducible repeat (first | apply Kd.R_alloc | apply Kd.R_drewN | apply Kd.R_drew)); exact HO116.out) hb); have n2_ := Aside0.mk (Kd.V_elder' (by (with_reducible repeat (first | apply Kd.V_alloc | apply Kd.V_drewN | apply Kd.V_drew)); exact HO119.out) (Kd.R_base ho38) hb); have n3_ := Aside0.mk (Kd.R_lower ho38 (below_size (by repeat (first | (with_reducible first | exact HB.out | apply below_alloc | apply pw_below_drewN | apply below_drew1) | exact HB.out)))); have n4_ := Aside0.mk (below_step (by repeat (first | (with_reducible first | exact HB.out | apply below_alloc | apply pw_below_drewN | apply below_drew1) | exact HB.out)) hb); clear HO113; clear HO116; clear HO119; clear HB; have HO113 := n0_; have HO116 := n1_; have HO119 := n2_; have HO122 := n3_; have HB := n4_; clear n0_ n1_ n2_ n3_ n4_; clear hb ho38; obtain ⟨Ao39, co39, eo39⟩ := Kd.V_slice HO119.out; subst eo39; obtain ⟨Ao40, co40, eo40⟩ := Kd.R_slice HO122.out; subst eo40) | ((with_reducible refine gate_callee (f := 16) rfl ?_); refine goesL_ (some 19) rfl rfl Try.func16 (by kernel_rfl) rfl #[.slice Ao39 t117.length co39, .slice Ao40 y120.length co40] rfl (by (try simp only [List.map_toArray, List.map_cons, List.map_nil]); first | done | rfl | (simp only [List.length_drop, List.length_take]; rfl)) ?_; (with_reducible refine (limelightref01_Ints.calls _ _ t117 _ _ y120 true _ ?side1 ?side2 ?side3 ?side4 A4.out).mono ?_); (case side1 => repeat (first | exact (Kd.V_reads' HO119.out).2.2 | (with_reducible refine Kd.C_alloc ?_ _) | (with_reducible refine Kd.C_drewN ?_ _) | (with_reducible refine Kd.C_drew ?_))); (case side2 => exact (Kd.V_reads' HO119.out).2.1); (case side3 => repeat (first | exact (Kd.R_reads' HO122.out).2.2 | (with_reducible refine Kd.C_alloc ?_ _) | (with_reducible refine Kd.C_drewN ?_ _) | (with_reducible refine Kd.C_drew ?_))); (case side4 => exact (Kd.R_reads' HO122.out).2.1); rintro e w41 ⟨rfl, hb⟩; refine ⟨_, rfl, ?_⟩; have n0_ := Aside0.mk (Kd.N_below (by (with_reducible repeat (first | apply Kd.N_alloc | apply Kd.N_drewN | apply Kd.N_drew)); exact HO113.out) hb); have n1_ := Aside0.mk (Kd.R_below (by (with_reducible repeat (first | apply Kd.R_alloc | apply Kd.R_drewN | apply Kd.R_drew)); exact HO116.out) hb); have n2_ := Aside0.mk (Kd.V_below (by (with_reducible repeat (first | apply Kd.V_alloc | apply Kd.V_drewN | apply Kd.V_drew)); exact HO119.out) hb); have n3_ := Aside0.mk (Kd.R_below (by (with_reducible repeat (first | apply Kd.R_alloc | apply Kd.R_drewN | apply Kd.R_drew)); exact HO122.out) hb); have n4_ := Aside0.mk (below_step (by repeat (first | (with_reducible first | exact HB.out | apply below_alloc | apply pw_below_drewN | apply below_drew1) | exact HB.out)) hb); clear HO113; clear HO116; clear HO119; clear HO122; clear HB; have HO113 := n0_; have HO116 := n1_; have HO119 := n2_; have HO122 := n3_; have HB := n4_; clear n0_ n1_ n2_ n3_ n4_; (try clear hb); (try clear hb2); (try clear hk); (try clear hi); have p124 : 0 ≤ (0 : Int) := (by omega); have q124 : 0 < (t114.length : Int) := of_decide_eq_true (by first | (with_reducible assumption) | assumption); obtain ⟨ad124, e124, hx124_0, hx124_1, hx124_2, hx124_3, hx124_4, hx124_5⟩ := at_T37 (Kd.R_reads' HO116.out).2.2 0 p124 q124; cases e124; have qi124 : (0 < t114.length) = True := eq_true (by omega); (try rw [show ((0 : Int)).toNat = 0 from rfl] at hx124_0); (try rw [show 0 * 6 = 0 from rfl] at hx124_0); (try rw [Addr.add_zero'] at hx124_0); (try rw [show ((0 : Int)).toNat = 0 from rfl] at hx124_1); (try rw [show 0 * 6 = 0 from rfl] at hx124_1); (try rw [Addr.add_zero'] at hx124_1); (try rw [show ((0 : Int)).toNat = 0 from rfl] at hx124_2); (try rw [show 0 * 6 = 0 from rfl] at hx124_2); (try rw [Addr.add_zero'] at hx124_2); (try rw [show ((0 : Int)).toNat = 0 from rfl] at hx124_3); (try rw [show 0 * 6 = 0 from rfl] at hx124_3); (try rw [Addr.add_zero'] at hx124_3); (try rw [show ((0 : Int)).toNat = 0 from rfl] at hx124_4); (try rw [show 0 * 6 = 0 from rfl] at hx124_4); (try rw [Addr.add_zero'] at hx124_4); (try rw [show ((0 : Int)).toNat = 0 from rfl] at hx124_5); (try rw [show 0 * 6 = 0 from rfl] at hx124_5); (try rw [Addr.add_zero'] at hx124_5); replace p124 := eq_true p124; replace q124 := eq_true q124; have p125 : 0 ≤ (3 : Int) := (by omega); have q125 : 3 < (t114.length : Int) := of_decide_eq_true (by first | (with_reducible assumption) | assumption); obtain ⟨ad125, e125, hx125_0, hx125_1, hx125_2, hx125_3, hx125_4, hx125_5⟩ := at_T37 (Kd.R_reads' HO116.out).2.2 3 p125 q125; obtain rfl : ad124 = ad125 := (by injection e125); (try simp only [show (3 : Int).toNat = 3 from rfl, Nat.reduceMul, Nat.reduceEqDiff, Go.Addr.add, ↓reduceIte] at hx125_0); (try simp only [show (3 : Int).toNat = 3 from rfl, Nat.reduceMul, Nat.reduceEqDiff, Go.Addr.add, ↓reduceIte] at hx125_1); (try simp only [show (3 : Int).toNat = 3 from rfl, Nat.reduceMul, Nat.reduceEqDiff, Go.Addr.add, ↓reduceIte] at hx125_2); (try simp only [show (3 : Int).toNat = 3 from rfl, Nat.reduceMul, Nat.reduceEqDiff, Go.Addr.add, ↓reduceIte] at hx125_3); (try simp only [show (3 : Int).toNat = 3 from rfl, Nat.reduceMul, Nat.reduceEqDiff, Go.Addr.add, ↓reduceIte] at hx125_4); (try simp only [show (3 : Int).toNat = 3 from rfl, Nat.reduceMul, Nat.reduceEqDiff, Go.Addr.add, ↓reduceIte] at hx125_5); have qi125 : (3 < t114.length) = True := eq_true (by omega); (try rw [show ((3 : Int)).toNat = 3 from rfl] at hx125_0); (try rw [show 3 * 6 = 18 from rfl] at hx125_0); (try rw [show ((3 : Int)).toNat = 3 from rfl] at hx125_1); (try rw [show 3 * 6 = 18 from rfl] at hx125_1); (try rw [show ((3 : Int)).toNat = 3 from rfl] at hx125_2); (try rw [show 3 * 6 = 18 from rfl] at hx125_2); (try rw [show ((3 : Int)).toNat = 3 from rfl] at hx125_3); (try rw [show 3 * 6 = 18 from rfl] at hx125_3); (try rw [show ((3 : Int)).toNat = 3 from rfl] at hx125_4); (try rw [show 3 * 6 = 18 from rfl] at hx125_4); (try rw [show ((3 : Int)).toNat = 3 from rfl] at hx125_5); (try rw [show 3 * 6 = 18 from rfl] at hx125_5); replace p125 := eq_true p125; replace q125 := eq_true q125) | (go_at_call 10; (with_reducible refine (chain_Events.calls _ _ y111 3 3 t126 _ ?side1 ?side2 A10.out).mono ?_); (case side1 => repeat (first | exact (Kd.N_reads' HO113.out).2.2 | (with_reducible refine Kd.C_alloc ?_ _) | (with_reducible refine Kd.C_drewN ?_ _) | (with_reducible refine Kd.C_drew ?_))); (case side2 => exact (Kd.N_reads' HO113.out).2.1); rintro e w42 ⟨v127, rfl, ho0, hb⟩; have n0_ := Aside0.mk (Kd.N_elder' (by (with_reducible repeat (first | apply Kd.N_alloc | apply Kd.N_drewN | apply Kd.N_drew)); exact HO113.out) (Kd.R_base ho0) hb); have n1_ := Aside0.mk (Kd.R_elder' (by (with_reducible repeat (first | apply Kd.R_alloc | apply Kd.R_drewN | apply Kd.R_drew)); exact HO116.out) (Kd.R_base ho0) hb); have n2_ := Aside0.mk (Kd.V_elder' (by (with_reducible repeat (first | apply Kd.V_alloc | apply Kd.V_drewN | apply Kd.V_drew)); exact HO119.out) (Kd.R_base ho0) hb); have n3_ := Aside0.mk (Kd.R_below (by (with_reducible repeat (first | apply Kd.R_alloc | apply Kd.R_drewN | apply Kd.R_drew)); exact HO122.out) hb); have n4_ := Aside0.mk (Kd.R_lower (Kd.R_new' ho0 (Kd.R_lt (by (with_reducible repeat (first | apply Kd.R_alloc | apply Kd.R_drewN | apply Kd.R_drew)); exact HO116.out))) (below_size (by repeat (first | (with_reducible first | exact HB.out | apply below_alloc | apply pw_below_drewN | apply below_drew1) | exact HB.out)))); have n5_ := Aside0.mk (below_step (by repeat (first | (with_reducible first | exact HB.out | apply below_alloc | apply pw_below_drewN | apply below_drew1) | exact HB.out)) hb); clear HO113; clear HO116; clear HO119; clear HO122; clear HB; have HO113 := n0_; have HO116 := n1_; have HO119 := n2_; have HO122 := n3_; have HO128 := n4_; have HB := n5_; clear n0_ n1_ n2_ n3_ n4_ n5_; (try clear hb); (try clear hb2); (try clear hk); (try clear hi); (try clear ho0); obtain ⟨Ao43, co43, eo43⟩ := Kd.R_slice HO128.out; subst eo43) | (go_at_call 10; (with_reducible refine (chain_Events.calls _ _ y111 0 4 t129 _ ?side1 ?side2 A12.out).mono ?_); (case side1 => repeat (first | exact (Kd.N_reads' HO113.out).2.2 | (with_reducible refine Kd.C_alloc ?_ _) | (with_reducible refine Kd.C_drewN ?_ _) | (with_reducible refine Kd.C_drew ?_))); (case side2 => exact (Kd.N_reads' HO113.out).2.1); rintro e w44 ⟨v130, rfl, ho0, hb⟩; have n0_ := Aside0.mk (Kd.N_elder' (by (with_reducible repeat (first | apply Kd.N_alloc | apply Kd.N_drewN | apply Kd.N_drew)); exact HO113.out) (Kd.R_base ho0) hb); have n1_ := Aside0.mk (Kd.R_elder' (by (with_reducible repeat (first | apply Kd.R_alloc | apply Kd.R_drewN | apply Kd.R_drew)); exact HO116.out) (Kd.R_base ho0) hb); have n2_ := Aside0.mk (Kd.V_elder' (by (with_reducible repeat (first | apply Kd.V_alloc | apply Kd.V_drewN | apply Kd.V_drew)); exact HO119.out) (Kd.R_base ho0) hb); have n3_ := Aside0.mk (Kd.R_below (by (with_reducible repeat (first | apply Kd.R_alloc | apply Kd.R_drewN | apply Kd.R_drew)); exact HO122.out) hb); have n4_ := Aside0.mk (Kd.R_elder' (by (with_reducible repeat (first | apply Kd.R_alloc | apply Kd.R_drewN | apply Kd.R_drew)); exact HO128.out) (Kd.R_base ho0) hb); have n5_ := Aside0.mk (Kd.R_lower (Kd.R_new' (Kd.R_new' ho0 (Kd.R_lt (by (with_reducible repeat (first | apply Kd.R_alloc | apply Kd.R_drewN | apply Kd.R_drew)); exact HO116.out))) (Kd.R_lt (by (with_reducible repeat (first | apply Kd.R_alloc | apply Kd.R_drewN | apply Kd.R_drew)); exact HO128.out))) (below_size (by repeat (first | (with_reducible first | exact HB.out | apply below_alloc | apply pw_below_drewN | apply below_drew1) | exact HB.out)))); have n6_ := Aside0.mk (below_step (by repeat (first | (with_reducible first | exact HB.out | apply below_alloc | apply pw_below_drewN | apply below_drew1) | exact HB.out)) hb); clear HO113; clear HO116; clear HO119; clear HO122; clear HO128; clear HB; have HO113 := n0_; have HO116 := n1_; have HO119 := n2_; have HO122 := n3_; have HO128 := n4_; have HO131 := n5_; have HB := n6_; clear n0_ n1_ n2_ n3_ n4_ n5_ n6_; (try clear hb); (try clear hb2); (try clear hk); (try clear hi); (try clear ho0); obtain ⟨Ao45, co45, eo45⟩ := Kd.R_slice HO131.out; subst eo45) | (go_at_call 12; (with_reducible refine (chain_Active.calls k _ _ y111 3 0 t132 _ ?side1 ?side2 A14.out).mono ?_); (case side1 => repeat (first | exact (Kd.N_reads' HO113.out).2.2 | (with_reducible refine Kd.C_alloc ?_ _) | (with_reducible refine Kd.C_drewN ?_ _) | (with_reducible refine Kd.C_drew ?_))); (case side2 => exact (Kd.N_reads' HO113.out).2.1); rintro e w46 ⟨rfl, hb⟩; have n0_ := Aside0.mk (Kd.N_below (by (with_reducible repeat (first | apply Kd.N_alloc | apply Kd.N_drewN | apply Kd.N_drew)); exact HO113.out) hb); have n1_ := Aside0.mk (Kd.R_below (by (with_reducible repeat (first | apply Kd.R_alloc | apply Kd.R_drewN | apply Kd.R_drew)); exact HO116.out) hb); have n2_ := Aside0.mk (Kd.V_below (by (with_reducible repeat (first | apply Kd.V_alloc | apply Kd.V_drewN | apply Kd.V_drew)); exact HO119.out) hb); have n3_ := Aside0.mk (Kd.R_below (by (with_reducible repeat (first | apply Kd.R_alloc | apply Kd.R_drewN | apply Kd.R_drew)); exact HO122.out) hb); have n4_ := Aside0.mk (Kd.R_below (by (with_reducible repeat (first | apply Kd.R_alloc | apply Kd.R_drewN | apply Kd.R_drew)); exact HO128.out) hb); have n5_ := Aside0.mk (Kd.R_below (by (with_reducible repeat (first | apply Kd.R_alloc | apply Kd.R_drewN | apply Kd.R_drew)); exact HO131.out) hb); have n6_ := Aside0.mk (below_step (by repeat (first | (with_reducible first | exact HB.out | apply below_alloc | apply pw_below_drewN | apply below_drew1) | exact HB.out)) hb); clear HO113; clear HO116; clear HO119; clear HO122; clear HO128; clear HO131; clear HB; have HO113 := n0_; have HO116 := n1_; have HO119 := n2_; have HO122 := n3_; have HO128 := n4_; have HO131 := n5_; have HB := n6_; clear n0_ n1_ n2_ n3_ n4_ n5_ n6_; (try clear hb); (try clear hb2); (try clear hk); (try clear hi)) | (go_at_call 12; (with_reducible refine (chain_Active.calls k _ _ y111 3 2 t133 _ ?side1 ?side2 A16.out).mono ?_); (case side1 => repeat (first | exact (Kd.N_reads' HO113.out).2.2 | (with_reducible refine Kd.C_alloc ?_ _) | (with_reducible refine Kd.C_drewN ?_ _) | (with_reducible refine Kd.C_drew ?_))); (case side2 => exact (Kd.N_reads' HO113.out).2.1); rintro e w47 ⟨rfl, hb⟩; have n0_ := Aside0.mk (Kd.N_below (by (with_reducible repeat (first | apply Kd.N_alloc | apply Kd.N_drewN | apply Kd.N_drew)); exact HO113.out) hb); have n1_ := Aside0.mk (Kd.R_below (by (with_reducible repeat (first | apply Kd.R_alloc | apply Kd.R_drewN | apply Kd.R_drew)); exact HO116.out) hb); have n2_ := Aside0.mk (Kd.V_below (by (with_reducible repeat (first | apply Kd.V_alloc | apply Kd.V_drewN | apply Kd.V_drew)); exact HO119.out) hb); have n3_ := Aside0.mk (Kd.R_below (by (with_reducible repeat (first | apply Kd.R_alloc | apply Kd.R_drewN | apply Kd.R_drew)); exact HO122.out) hb); have n4_ := Aside0.mk (Kd.R_below (by (with_reducible repeat (first | apply Kd.R_alloc | apply Kd.R_drewN | apply Kd.R_drew)); exact HO128.out) hb); have n5_ := Aside0.mk (Kd.R_below (by (with_reducible repeat (first | apply Kd.R_alloc | apply Kd.R_drewN | apply Kd.R_drew)); exact HO131.out) hb); have n6_ := Aside0.mk (below_step (by repeat (first | (with_reducible first | exact HB.out | apply below_alloc | apply pw_below_drewN | apply below_drew1) | exact HB.out)) hb); clear HO113; clear HO116; clear HO119; clear HO122; clear HO128; clear HO131; clear HB; have HO113 := n0_; have HO116 := n1_; have HO119 := n2_; have HO122 := n3_; have HO128 := n4_; have HO131 := n5_; have HB := n6_; clear n0_ n1_ n2_ n3_ n4_ n5_ n6_; (try clear hb); (try clear hb2); (try clear hk); (try clear hi)) | (go_at_call 12; (with_reducible refine (chain_Active.calls k _ _ y111 4 2 t134 _ ?side1 ?side2 A18.out).mono ?_); (case side1 => repeat (first | exact (Kd.N_reads' HO113.out).2.2 | (with_reducible refine Kd.C_alloc ?_ _) | (with_reducible refine Kd.C_drewN ?_ _) | (with_reducible refine Kd.C_drew ?_))); (case side2 => exact (Kd.N_reads' HO113.out).2.1); rintro e w48 ⟨rfl, hb⟩; have n0_ := Aside0.mk (Kd.N_below (by (with_reducible repeat (first | apply Kd.N_alloc | apply Kd.N_drewN | apply Kd.N_drew)); exact HO113.out) hb); have n1_ := Aside0.mk (Kd.R_below (by (with_reducible repeat (first | apply Kd.R_alloc | apply Kd.R_drewN | apply Kd.R_drew)); exact HO116.out) hb); have n2_ := Aside0.mk (Kd.V_below (by (with_reducible repeat (first | apply Kd.V_alloc | apply Kd.V_drewN | apply Kd.V_drew)); exact HO119.out) hb); have n3_ := Aside0.mk (Kd.R_below (by (with_reducible repeat (first | apply Kd.R_alloc | apply Kd.R_drewN | apply Kd.R_drew)); exact HO122.out) hb); have n4_ := Aside0.mk (Kd.R_below (by (with_reducible repeat (first | apply Kd.R_alloc | apply Kd.R_drewN | apply Kd.R_drew)); exact HO128.out) hb); have n5_ := Aside0.mk (Kd.R_below (by (with_reducible repeat (first | apply Kd.R_alloc | apply Kd.R_drewN | apply Kd.R_drew)); exact HO131.out) hb); have n6_ := Aside0.mk (below_step (by repeat (first | (with_reducible first | exact HB.out | apply below_alloc | apply pw_below_drewN | apply below_drew1) | exact HB.out)) hb); clear HO113; clear HO116; clear HO119; clear HO122; clear HO128; clear HO131; clear HB; have HO113 := n0_; have HO116 := n1_; have HO119 := n2_; have HO122 := n3_; have HO128 := n4_; have HO131 := n5_; have HB := n6_; clear n0_ n1_ n2_ n3_ n4_ n5_ n6_; (try clear hb); (try clear hb2); (try clear hk); (try clear hi)) | (go_at_call 12; (with_reducible refine (chain_Active.calls k _ _ y111 0 0 t135 _ ?side1 ?side2 A20.out).mono ?_); (case side1 => repeat (first | exact (Kd.N_reads' HO113.out).2.2 | (with_reducible refine Kd.C_alloc ?_ _) | (with_reducible refine Kd.C_drewN ?_ _) | (with_reducible refine Kd.C_drew ?_))); (case side2 => exact (Kd.N_reads' HO113.out).2.1); rintro e w49 ⟨rfl, hb⟩; have n0_ := Aside0.mk (Kd.N_below (by (with_reducible repeat (first | apply Kd.N_alloc | apply Kd.N_drewN | apply Kd.N_drew)); exact HO113.out) hb); have n1_ := Aside0.mk (Kd.R_below (by (with_reducible repeat (first | apply Kd.R_alloc | apply Kd.R_drewN | apply Kd.R_drew)); exact HO116.out) hb); have n2_ := Aside0.mk (Kd.V_below (by (with_reducible repeat (first | apply Kd.V_alloc | apply Kd.V_drewN | apply Kd.V_drew)); exact HO119.out) hb); have n3_ := Aside0.mk (Kd.R_below (by (with_reducible repeat (first | apply Kd.R_alloc | apply Kd.R_drewN | apply Kd.R_drew)); exact HO122.out) hb); have n4_ := Aside0.mk (Kd.R_below (by (with_reducible repeat (first | apply Kd.R_alloc | apply Kd.R_drewN | apply Kd.R_drew)); exact HO128.out) hb); have n5_ := Aside0.mk (Kd.R_below (by (with_reducible repeat (first | apply Kd.R_alloc | apply Kd.R_drewN | apply Kd.R_drew)); exact HO131.out) hb); have n6_ := Aside0.mk (below_step (by repeat (first | (with_reducible first | exact HB.out | apply below_alloc | apply pw_below_drewN | apply below_drew1) | exact HB.out)) hb); clear HO113; clear HO116; clear HO119; clear HO122; clear HO128; clear HO131; clear HB; have HO113 := n0_; have HO116 := n1_; have HO119 := n2_; have HO122 := n3_; have HO128 := n4_; have HO131 := n5_; have HB := n6_; clear n0_ n1_ n2_ n3_ n4_ n5_ n6_; (try clear hb); (try clear hb2); (try clear hk); (try clear hi)) | (go_at_call 12; (with_reducible refine (chain_Active.calls k _ _ y111 3 1 t136 _ ?side1 ?side2 A22.out).mono ?_); (case side1 => repeat (first | exact (Kd.N_reads' HO113.out).2.2 | (with_reducible refine Kd.C_alloc ?_ _) | (with_reducible refine Kd.C_drewN ?_ _) | (with_reducible refine Kd.C_drew ?_))); (case side2 => exact (Kd.N_reads' HO113.out).2.1); rintro e w50 ⟨rfl, hb⟩; have n0_ := Aside0.mk (Kd.N_below (by (with_reducible repeat (first | apply Kd.N_alloc | apply Kd.N_drewN | apply Kd.N_drew)); exact HO113.out) hb); have n1_ := Aside0.mk (Kd.R_below (by (with_reducible repeat (first | apply Kd.R_alloc | apply Kd.R_drewN | apply Kd.R_drew)); exact HO116.out) hb); have n2_ := Aside0.mk (Kd.V_below (by (with_reducible repeat (first | apply Kd.V_alloc | apply Kd.V_drewN | apply Kd.V_drew)); exact HO119.out) hb); have n3_ := Aside0.mk (Kd.R_below (by (with_reducible repeat (first | apply Kd.R_alloc | apply Kd.R_drewN | apply Kd.R_drew)); exact HO122.out) hb); have n4_ := Aside0.mk (Kd.R_below (by (with_reducible repeat (first | apply Kd.R_alloc | apply Kd.R_drewN | apply Kd.R_drew)); exact HO128.out) hb); have n5_ := Aside0.mk (Kd.R_below (by (with_reducible repeat (first | apply Kd.R_alloc | apply Kd.R_drewN | apply Kd.R_drew)); exact HO131.out) hb); have n6_ := Aside0.mk (below_step (by repeat (first | (with_reducible first | exact HB.out | apply below_alloc | apply pw_below_drewN | apply below_drew1) | exact HB.out)) hb); clear HO113; clear HO116; clear HO119; clear HO122; clear HO128; clear HO131; clear HB; have HO113 := n0_; have HO116 := n1_; have HO119 := n2_; have HO122 := n3_; have HO128 := n4_; have HO131 := n5_; have HB := n6_; clear n0_ n1_ n2_ n3_ n4_ n5_ n6_; (try clear hb); (try clear hb2); (try clear hk); (try clear hi)) | (go_at_call 10; (refine (chain_Events.calls _ _ ([] : List (S40)) 0 1 t137 _ ?side1 ?side2 A24.out).mono ?_); (case side1 => exact Kd.C_nil _ _); (case side2 => exact Nat.le_refl _); rintro e w51 ⟨v138, rfl, ho0, hb⟩; have n0_ := Aside0.mk (Kd.N_elder' (by (with_reducible repeat (first | apply Kd.N_alloc | apply Kd.N_drewN | apply Kd.N_drew)); exact HO113.out) (Kd.R_base ho0) hb); have n1_ := Aside0.mk (Kd.R_elder' (by (with_reducible repeat (first | apply Kd.R_alloc | apply Kd.R_drewN | apply Kd.R_drew)); exact HO116.out) (Kd.R_base ho0) hb); have n2_ := Aside0.mk (Kd.V_elder' (by (with_reducible repeat (first | apply Kd.V_alloc | apply Kd.V_drewN | apply Kd.V_drew)); exact HO119.out) (Kd.R_base ho0) hb); have n3_ := Aside0.mk (Kd.R_below (by (with_reducible repeat (first | apply Kd.R_alloc | apply Kd.R_drewN | apply Kd.R_drew)); exact HO122.out) hb); have n4_ := Aside0.mk (Kd.R_elder' (by (with_reducible repeat (first | apply Kd.R_alloc | apply Kd.R_drewN | apply Kd.R_drew)); exact HO128.out) (Kd.R_base ho0) hb); have n5_ := Aside0.mk (Kd.R_elder' (by (with_reducible repeat (first | apply Kd.R_alloc | apply Kd.R_drewN | apply Kd.R_drew)); exact HO131.out) (Kd.R_base ho0) hb); have n6_ := Aside0.mk (Kd.R_lower (Kd.R_new' (Kd.R_new' (Kd.R_new' ho0 (Kd.R_lt (by (with_reducible repeat (first | apply Kd.R_alloc | apply Kd.R_drewN | apply Kd.R_drew)); exact HO116.out))) (Kd.R_lt (by (with_reducible repeat (first | apply Kd.R_alloc | apply Kd.R_drewN | apply Kd.R_drew)); exact HO128.out))) (Kd.R_lt (by (with_reducible repeat (first | apply Kd.R_alloc | apply Kd.R_drewN | apply Kd.R_drew)); exact HO131.out))) (below_size (by repeat (first | (with_reducible first | exact HB.out | apply below_alloc | apply pw_below_drewN | apply below_drew1) | exact HB.out)))); have n7_ := Aside0.mk (below_step (by repeat (first | (with_reducible first | exact HB.out | apply below_alloc | apply pw_below_drewN | apply below_drew1) | exact HB.out)) hb); clear HO113; clear HO116; clear HO119; clear HO122; clear HO128; clear HO131; clear HB; have HO113 := n0_; have HO116 := n1_; have HO119 := n2_; have HO122 := n3_; have HO128 := n4_; have HO131 := n5_; have HO139 := n6_; have HB := n7_; clear n0_ n1_ n2_ n3_ n4_ n5_ n6_ n7_; (try clear hb); (try clear hb2); (try clear hk); (try clear hi); (try clear ho0); obtain ⟨Ao52, co52, eo52⟩ := Kd.R_slice HO139.out; subst eo52))
                            go_ret
                            exact ⟨by first | rfl | (simp [errW_none, errW_some] <;> rfl) | (simp [*, errW_none, errW_some] <;> rfl), by repeat (first | (with_reducible first | exact HB.out | apply below_alloc | apply pw_below_drewN | apply below_drew1) | exact HB.out)⟩
                          · rw [if_neg c23] at H
                            exact absurd H (by simp)
                        · rw [if_neg c21] at H
                          exact absurd H (by simp)
                      · rw [if_neg c19] at H
                        exact absurd H (by simp)
                    · rw [if_neg c17] at H
                      exact absurd H (by simp)
                  · rw [if_neg c15] at H
                    exact absurd H (by simp)
                · rw [if_neg c13] at H
                  exact absurd H (by simp)
              · rw [if_neg c11] at H
                exact absurd H (by simp)
            · rw [if_neg c9] at H
              exact absurd H (by simp)
          · rw [if_neg c8] at H
            exact absurd H (by simp)
        · rw [if_neg c7] at H
          exact absurd H (by simp)
      · rw [if_neg c6] at H
        exact absurd H (by simp)
    · replace c5 := Bool.eq_false_iff.mpr c5
      subst c5
      have H1 : (none) = some r := by rw [if_neg (show ¬ (false = true) by decide)] at H; exact H
      clear H
      have H := H1
      clear H1
      exact absurd H (by simp)
  · rw [if_neg c2] at H
    exact absurd H (by simp)

/-- THE ONE PURE STATEMENT of limelightlaw15_live: yours. -/
def limelightlaw15_live.Pure : Prop := ∃ k, limelightlaw15_live.f k  = some true
theorem limelightlaw15_live.walk (P : limelightlaw15_live.Pure)  (w : World)  :
    Calls Try.prog 9 #[] w fun e w' => e = .returned (.bool true) ∧ Below w.heap.size w w' := by
  obtain ⟨k, h⟩ := P  
  refine (limelightlaw15_live.calls k  true w h).mono ?_
  rintro e w' ⟨rfl, hd⟩
  exact ⟨rfl, hd⟩

-- GIVEN: function 25 (limelightref01_May): ME

-- GIVEN: function 26 (limelightref01_Is): ME

end Go.Proofs.Ytbbmdpmpbggmgaa.P
