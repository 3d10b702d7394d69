-- printed by wip/tools/pp.sh (a patched copy of the print's program), for this claim.
import Derived.Test.YthjpokmangbibaaPx0
import Derived.Test.YthjpokmangbibaaPx1
import Derived.Test.YthjpokmangbibaaPx2
import Derived.Test.YthjpokmangbibaaME
import Derived.Test.YthjpokmangbibaaMS
namespace Go.Proofs.Ythjpokmangbibaa.P
open Go.RowKit Go.Proofs.YthjpokmangbibaaW.PrintWords Go.Proofs.YthjpokmangbibaaW.PrintLast Go.Proofs.YthjpokmangbibaaW.PrintMore
attribute [local go_sem] max2_int min2_int max_two min_two max_three min_three max_four min_four   -- for this text's walks alone
set_option linter.unusedVariables false
set_option linter.unusedSimpArgs false

/-! ### limelightref03_Top: function 24 -/
def limelightref03_Top.f (k : Nat) (l0 : List (S35)) (a1 : Int) : Option (Int) := (limelightref03_Up.f k l0 a1).bind fun t203 => (if 0 ≤ (wrap64 ((t203.length : Int) - 1)) then (if (wrap64 ((t203.length : Int) - 1)) < (t203.length : Int) then (some (rd t203 (wrap64 ((t203.length : Int) - 1)))) else (none)) else (none))
theorem limelightref03_Top.mono : ∀ a0 a1 k, LeO (limelightref03_Top.f k a0 a1) (limelightref03_Top.f (k + 1) a0 a1) := by
  intro a0 a1 k
  unfold limelightref03_Top.f
  repeat' first
      | (with_reducible exact limelightref03_Up.mono _ _ _)
      | (with_reducible exact LeO.refl _)
      | (with_reducible exact LeO.none _)
      | (with_reducible refine LeO.ite ?_ ?_)
      | (with_reducible refine LeO.bind ?_ (fun _ => ?_))
      | exact limelightref03_Up.mono _ _ _
      | exact LeO.none _
      | refine LeO.ite ?_ ?_
      | refine LeO.bind ?_ (fun _ => ?_)
set_option maxHeartbeats 8000000 in
set_option maxRecDepth 100000 in
theorem limelightref03_Top.calls (k : Nat) (A0 : Option Addr) (c0 : Nat) (l0 : List (S35)) (a1 : Int) (r : Int) (w : World) (hr0 : Kd.C k35 w A0 l0.length l0) (hc0 : l0.length ≤ c0) (h : limelightref03_Top.f k l0 a1 = some r) :
    Calls Try.prog 24 #[.slice A0 l0.length c0, .int .i64 a1] w fun e w' => e = .returned (.int .i64 r) ∧ Below w.heap.size w w' := by
  have HR0 := Aside0.mk hr0
  have HC0 := Aside0.mk hc0
  clear hr0 hc0
  have HB := Aside0.mk (Below.refl w.heap.size w)
  have H : ((limelightref03_Up.f k l0 a1).bind fun t203 => (if 0 ≤ (wrap64 ((t203.length : Int) - 1)) then (if (wrap64 ((t203.length : Int) - 1)) < (t203.length : Int) then (some (rd t203 (wrap64 ((t203.length : Int) - 1)))) else (none)) else (none))) = some r := h
  clear h
  replace H := Option.bind_eq_some_iff.mp H
  obtain ⟨t203, A30, H⟩ := H
  replace H : (if 0 ≤ (wrap64 ((t203.length : Int) - 1)) then (if (wrap64 ((t203.length : Int) - 1)) < (t203.length : Int) then (some (rd t203 (wrap64 ((t203.length : Int) - 1)))) else (none)) else (none)) = some r := H
  have A3 := Aside0.mk A30
  clear A30
  obtain ⟨ji4, hji4⟩ : ∃ j_ : Int, (wrap64 ((t203.length : Int) - 1)) = j_ := ⟨_, rfl⟩
  replace H : (if 0 ≤ (ji4) then (if (ji4) < (t203.length : Int) then (some (rd t203 (ji4))) else (none)) else (none)) = some r := by first | (rw [hji4] at H; exact H) | (simp only [hji4] at H ⊢; exact H)
  (try rw [hji4] at A3)
  have hji4w : (IntKind.i64.wrap ((t203.length : Int) - 1)) = ji4 := (i64_w _).trans hji4
  by_cases c5 : 0 ≤ (ji4)
  · rw [if_pos c5] at H
    have c5b0 : decide (0 ≤ (ji4)) = true := decide_eq_true c5
    clear c5
    by_cases c6 : (ji4) < (t203.length : Int)
    · rw [if_pos c6] at H
      have c6b0 : decide ((ji4) < (t203.length : Int)) = true := decide_eq_true c6
      clear c6
      obtain rfl := Option.some.inj H
      go_enter Try.func24, Try.ntmps24
      go_wp2_with (first | ((with_reducible refine gate_callee (f := 34) rfl ?_); refine goesL_ (some 8) rfl rfl Try.func34 (by kernel_rfl) rfl #[.slice A0 l0.length c0, .int .i64 a1] rfl (by (try simp only [List.map_toArray, List.map_cons, List.map_nil]); first | done | rfl | (simp only [List.length_drop, List.length_take]; rfl)) ?_; (with_reducible refine (limelightref03_Up.calls k _ _ l0 a1 t203 _ ?side1 ?side2 A3.out).mono ?_); (case side1 => repeat (first | exact HR0.out | (with_reducible refine Kd.C_alloc ?_ _) | (with_reducible refine Kd.C_drewN ?_ _) | (with_reducible refine Kd.C_drew ?_))); (case side2 => exact HC0.out); rintro e w7 ⟨v204, rfl, ho0, hb⟩; refine ⟨_, rfl, ?_⟩; have n0_ := Aside0.mk (Kd.R_lower ho0 (below_size (by repeat (first | (with_reducible first | exact HB.out | apply below_alloc | apply pw_below_drewN | apply below_drew1) | exact HB.out)))); have n1_ := Aside0.mk (below_step (by repeat (first | (with_reducible first | exact HB.out | apply below_alloc | apply pw_below_drewN | apply below_drew1) | exact HB.out)) hb); clear HB; have HO205 := n0_; have HB := n1_; clear n0_ n1_; (try clear hb); (try clear hb2); (try clear hk); (try clear hi); (try clear ho0); obtain ⟨Ao8, co8, eo8⟩ := Kd.R_slice HO205.out; subst eo8; have p206 : 0 ≤ ((ji4) : Int) := of_decide_eq_true (by first | (with_reducible assumption) | assumption); have q206 : (ji4) < (t203.length : Int) := of_decide_eq_true (by first | (with_reducible assumption) | assumption); obtain ⟨ad206, e206, hx206_0⟩ := Kd.at_int (Kd.R_reads' HO205.out).2.2 (ji4) p206 q206; cases e206; replace p206 := eq_true p206; replace q206 := eq_true q206))
      go_ret
      exact ⟨by first | rfl | (simp [errW_none, errW_some] <;> rfl) | (simp only [← hji4]; first | rfl | (simp [errW_none, errW_some] <;> rfl)) | (simp [*, errW_none, errW_some] <;> rfl), by repeat (first | (with_reducible first | exact HB.out | apply below_alloc | apply pw_below_drewN | apply below_drew1) | exact HB.out)⟩
    · rw [if_neg c6] at H
      exact absurd H (by simp)
  · rw [if_neg c5] at H
    exact absurd H (by simp)

/-! ### limelightref04_Retarget: function 22 -/
def limelightref04_Retarget.f : Nat → List (S35) → Int → Int → Option (Int)
  | 0, _, _, _ => none
  | k + 1, l0, a1, a2 => (limelightref03_Top.f k l0 a1).bind fun t207 => (if 0 ≤ t207 then (if t207 < (l0.length : Int) then (if ((rd_T35 l0 t207).f0) = 3 then ((limelightref04_Above.f k l0 t207 a2).bind fun t209 => (if t209 = true then (some a1) else ((limelightref04_Retarget.f k l0 ((rd_T35 l0 t207).f4) a2).bind fun t211 => (some t211)))) else (some a1)) else (none)) else (none))
theorem limelightref04_Retarget.mono_l : ∀ k, (∀ y0 y1 y2, LeO (limelightref04_Retarget.f k y0 y1 y2) (limelightref04_Retarget.f (k + 1) y0 y1 y2))
  | 0 => fun _ _ _ r h => by simp [limelightref04_Retarget.f] at h
  | k + 1 => by
    have ih0 := limelightref04_Retarget.mono_l k
    · intro y0 y1 y2
      unfold limelightref04_Retarget.f
      repeat' first
      | (with_reducible exact ih0 _ _ _)
      | (with_reducible exact limelightref03_Top.mono _ _ _)
      | (with_reducible exact limelightref04_Above.mono _ _ _ _)
      | (with_reducible exact LeO.refl _)
      | (with_reducible exact LeO.none _)
      | (with_reducible refine LeO.ite ?_ ?_)
      | (with_reducible refine LeO.bind ?_ (fun _ => ?_))
      | exact ih0 _ _ _
      | exact limelightref03_Top.mono _ _ _
      | exact limelightref04_Above.mono _ _ _ _
      | exact LeO.none _
      | refine LeO.ite ?_ ?_
      | refine LeO.bind ?_ (fun _ => ?_)
theorem limelightref04_Retarget.mono : ∀ a0 a1 a2 k, LeO (limelightref04_Retarget.f k a0 a1 a2) (limelightref04_Retarget.f (k + 1) a0 a1 a2) := by
  intro a0 a1 a2 k
  have ih0 := limelightref04_Retarget.mono_l k
  exact ih0 a0 a1 a2
set_option maxHeartbeats 8000000 in
set_option maxRecDepth 100000 in
theorem limelightref04_Retarget.calls (k : Nat) : ∀ (A0 : Option Addr) (c0 : Nat) (l0 : List (S35)) (a1 : Int) (a2 : Int) (r : Int) (w : World) (hr0 : Kd.C k35 w A0 l0.length l0) (hc0 : l0.length ≤ c0) (h : limelightref04_Retarget.f k l0 a1 a2 = some r),
    Calls Try.prog 22 #[.slice A0 l0.length c0, .int .i64 a1, .int .i64 a2] w fun e w' => e = .returned (.int .i64 r) ∧ Below w.heap.size w w' := by
  induction k using Nat.strongRecOn with
  | _ k ih =>
  intro A0 c0 l0 a1 a2 r w hr0 hc0 h
  cases k with
  | zero => exact absurd h (by simp [limelightref04_Retarget.f])
  | succ k =>
  simp only [limelightref04_Retarget.f] at h
  have HR0 := Aside0.mk hr0
  have HC0 := Aside0.mk hc0
  clear hr0 hc0
  have HB := Aside0.mk (Below.refl w.heap.size w)
  have H : ((limelightref03_Top.f k l0 a1).bind fun t207 => (if 0 ≤ t207 then (if t207 < (l0.length : Int) then (if ((rd_T35 l0 t207).f0) = 3 then ((limelightref04_Above.f k l0 t207 a2).bind fun t209 => (if t209 = true then (some a1) else ((limelightref04_Retarget.f k l0 ((rd_T35 l0 t207).f4) a2).bind fun t211 => (some t211)))) else (some a1)) else (none)) else (none))) = some r := h
  clear h
  replace H := Option.bind_eq_some_iff.mp H
  obtain ⟨t207, A40, H⟩ := H
  replace H : (if 0 ≤ t207 then (if t207 < (l0.length : Int) then (if ((rd_T35 l0 t207).f0) = 3 then ((limelightref04_Above.f k l0 t207 a2).bind fun t209 => (if t209 = true then (some a1) else ((limelightref04_Retarget.f k l0 ((rd_T35 l0 t207).f4) a2).bind fun t211 => (some t211)))) else (some a1)) else (none)) else (none)) = some r := H
  have A4 := Aside0.mk A40
  clear A40
  by_cases c5 : 0 ≤ t207
  · rw [if_pos c5] at H
    have c5b0 : decide (0 ≤ t207) = true := decide_eq_true c5
    clear c5
    by_cases c6 : t207 < (l0.length : Int)
    · rw [if_pos c6] at H
      have c6b0 : decide (t207 < (l0.length : Int)) = true := decide_eq_true c6
      clear c6
      by_cases c7 : ((rd_T35 l0 t207).f0) = 3
      · rw [if_pos c7] at H
        have c7b0 : (((rd_T35 l0 t207).f0) == 3) = true := beq_iff_eq.mpr c7
        have c7b1 : (((rd_T35 l0 t207).f0) != 3) = false := bne_eq_false_iff_eq.mpr c7
        clear c7
        replace H := Option.bind_eq_some_iff.mp H
        obtain ⟨t209, A80, H⟩ := H
        replace H : (if t209 = true then (some a1) else ((limelightref04_Retarget.f k l0 ((rd_T35 l0 t207).f4) a2).bind fun t211 => (some t211))) = some r := H
        have A8 := Aside0.mk A80
        clear A80
        by_cases c9 : t209 = true
        · subst c9
          have H1 : (some a1) = some r := by rw [if_pos rfl] at H; exact H
          clear H
          have H := H1
          clear H1
          obtain rfl := Option.some.inj H
          go_enter Try.func22, Try.ntmps22
          go_wp2_with (first | ((with_reducible refine gate_callee (f := 24) rfl ?_); refine goesL_ (some 10) rfl rfl Try.func24 (by kernel_rfl) rfl #[.slice A0 l0.length c0, .int .i64 a1] rfl (by (try simp only [List.map_toArray, List.map_cons, List.map_nil]); first | done | rfl | (simp only [List.length_drop, List.length_take]; rfl)) ?_; (with_reducible refine (limelightref03_Top.calls k _ _ l0 a1 t207 _ ?side1 ?side2 A4.out).mono ?_); (case side1 => repeat (first | exact HR0.out | (with_reducible refine Kd.C_alloc ?_ _) | (with_reducible refine Kd.C_drewN ?_ _) | (with_reducible refine Kd.C_drew ?_))); (case side2 => exact HC0.out); rintro e w10 ⟨rfl, hb⟩; refine ⟨_, rfl, ?_⟩; have n0_ := Aside0.mk (below_step (by repeat (first | (with_reducible first | exact HB.out | apply below_alloc | apply pw_below_drewN | apply below_drew1) | exact HB.out)) hb); clear HB; have HB := n0_; clear n0_; (try clear hb); (try clear hb2); (try clear hk); (try clear hi); have p208 : 0 ≤ (t207 : Int) := of_decide_eq_true (by first | (with_reducible assumption) | assumption); have q208 : t207 < (l0.length : Int) := of_decide_eq_true (by first | (with_reducible assumption) | assumption); obtain ⟨ad208, A208_3, c208_3, A208_6, c208_6, e208, hx208_0, hx208_1, hx208_2, hx208_3, hx208_4, hx208_5, hx208_6, hl208_3, hi208_3, hl208_6, hi208_6⟩ := at_T35 HR0.out t207 p208 q208; cases e208; replace hx208_0 := (HB.out.cell (World.block_lt_of_cell? w _ hx208_0)).trans hx208_0; replace hx208_1 := (HB.out.cell (World.block_lt_of_cell? w _ hx208_1)).trans hx208_1; replace hx208_2 := (HB.out.cell (World.block_lt_of_cell? w _ hx208_2)).trans hx208_2; replace hx208_3 := (HB.out.cell (World.block_lt_of_cell? w _ hx208_3)).trans hx208_3; replace hx208_4 := (HB.out.cell (World.block_lt_of_cell? w _ hx208_4)).trans hx208_4; replace hx208_5 := (HB.out.cell (World.block_lt_of_cell? w _ hx208_5)).trans hx208_5; replace hx208_6 := (HB.out.cell (World.block_lt_of_cell? w _ hx208_6)).trans hx208_6; have HR208_3 := Aside0.mk hi208_3; have HC208_3 := Aside0.mk hl208_3; clear hi208_3 hl208_3; have HR208_6 := Aside0.mk hi208_6; have HC208_6 := Aside0.mk hl208_6; clear hi208_6 hl208_6; replace p208 := eq_true p208; replace q208 := eq_true q208) | (go_at_call 20; (with_reducible refine (limelightref04_Above.calls k _ _ l0 t207 a2 true _ ?side1 ?side2 A8.out).mono ?_); (case side1 => repeat (first | exact (Kd.C_below HR0.out HB.out) | (with_reducible refine Kd.C_alloc ?_ _) | (with_reducible refine Kd.C_drewN ?_ _) | (with_reducible refine Kd.C_drew ?_))); (case side2 => exact HC0.out); rintro e w11 ⟨rfl, hb⟩; have n0_ := Aside0.mk (below_step (by repeat (first | (with_reducible first | exact HB.out | apply below_alloc | apply pw_below_drewN | apply below_drew1) | exact HB.out)) hb); clear HB; have HB := n0_; clear n0_; (try clear hb); (try clear hb2); (try clear hk); (try clear hi)))
          go_ret
          exact ⟨by first | rfl | (simp [errW_none, errW_some] <;> rfl) | (simp [*, errW_none, errW_some] <;> rfl), by repeat (first | (with_reducible first | exact HB.out | apply below_alloc | apply pw_below_drewN | apply below_drew1) | exact HB.out)⟩
        · replace c9 := Bool.eq_false_iff.mpr c9
          subst c9
          have H1 : ((limelightref04_Retarget.f k l0 ((rd_T35 l0 t207).f4) a2).bind fun t211 => (some t211)) = some r := by rw [if_neg (show ¬ (false = true) by decide)] at H; exact H
          clear H
          have H := H1
          clear H1
          replace H := Option.bind_eq_some_iff.mp H
          obtain ⟨t211, A120, H⟩ := H
          replace H : (some t211) = some r := H
          have A12 := Aside0.mk A120
          clear A120
          obtain rfl := Option.some.inj H
          go_enter Try.func22, Try.ntmps22
          go_wp2_with (first | ((with_reducible refine gate_callee (f := 24) rfl ?_); refine goesL_ (some 10) rfl rfl Try.func24 (by kernel_rfl) rfl #[.slice A0 l0.length c0, .int .i64 a1] rfl (by (try simp only [List.map_toArray, List.map_cons, List.map_nil]); first | done | rfl | (simp only [List.length_drop, List.length_take]; rfl)) ?_; (with_reducible refine (limelightref03_Top.calls k _ _ l0 a1 t207 _ ?side1 ?side2 A4.out).mono ?_); (case side1 => repeat (first | exact HR0.out | (with_reducible refine Kd.C_alloc ?_ _) | (with_reducible refine Kd.C_drewN ?_ _) | (with_reducible refine Kd.C_drew ?_))); (case side2 => exact HC0.out); rintro e w13 ⟨rfl, hb⟩; refine ⟨_, rfl, ?_⟩; have n0_ := Aside0.mk (below_step (by repeat (first | (with_reducible first | exact HB.out | apply below_alloc | apply pw_below_drewN | apply below_drew1) | exact HB.out)) hb); clear HB; have HB := n0_; clear n0_; (try clear hb); (try clear hb2); (try clear hk); (try clear hi); have p208 : 0 ≤ (t207 : Int) := of_decide_eq_true (by first | (with_reducible assumption) | assumption); have q208 : t207 < (l0.length : Int) := of_decide_eq_true (by first | (with_reducible assumption) | assumption); obtain ⟨ad208, A208_3, c208_3, A208_6, c208_6, e208, hx208_0, hx208_1, hx208_2, hx208_3, hx208_4, hx208_5, hx208_6, hl208_3, hi208_3, hl208_6, hi208_6⟩ := at_T35 HR0.out t207 p208 q208; cases e208; replace hx208_0 := (HB.out.cell (World.block_lt_of_cell? w _ hx208_0)).trans hx208_0; replace hx208_1 := (HB.out.cell (World.block_lt_of_cell? w _ hx208_1)).trans hx208_1; replace hx208_2 := (HB.out.cell (World.block_lt_of_cell? w _ hx208_2)).trans hx208_2; replace hx208_3 := (HB.out.cell (World.block_lt_of_cell? w _ hx208_3)).trans hx208_3; replace hx208_4 := (HB.out.cell (World.block_lt_of_cell? w _ hx208_4)).trans hx208_4; replace hx208_5 := (HB.out.cell (World.block_lt_of_cell? w _ hx208_5)).trans hx208_5; replace hx208_6 := (HB.out.cell (World.block_lt_of_cell? w _ hx208_6)).trans hx208_6; have HR208_3 := Aside0.mk hi208_3; have HC208_3 := Aside0.mk hl208_3; clear hi208_3 hl208_3; have HR208_6 := Aside0.mk hi208_6; have HC208_6 := Aside0.mk hl208_6; clear hi208_6 hl208_6; replace p208 := eq_true p208; replace q208 := eq_true q208) | (go_at_call 20; (with_reducible refine (limelightref04_Above.calls k _ _ l0 t207 a2 false _ ?side1 ?side2 A8.out).mono ?_); (case side1 => repeat (first | exact (Kd.C_below HR0.out HB.out) | (with_reducible refine Kd.C_alloc ?_ _) | (with_reducible refine Kd.C_drewN ?_ _) | (with_reducible refine Kd.C_drew ?_))); (case side2 => exact HC0.out); rintro e w14 ⟨rfl, hb⟩; have n0_ := Aside0.mk (below_step (by repeat (first | (with_reducible first | exact HB.out | apply below_alloc | apply pw_below_drewN | apply below_drew1) | exact HB.out)) hb); clear HB; have HB := n0_; clear n0_; (try clear hb); (try clear hb2); (try clear hk); (try clear hi); have p210 : 0 ≤ (t207 : Int) := of_decide_eq_true (by first | (with_reducible assumption) | assumption); have q210 : t207 < (l0.length : Int) := of_decide_eq_true (by first | (with_reducible assumption) | assumption); obtain ⟨ad210, A210_3, c210_3, A210_6, c210_6, e210, hx210_0, hx210_1, hx210_2, hx210_3, hx210_4, hx210_5, hx210_6, hl210_3, hi210_3, hl210_6, hi210_6⟩ := at_T35 HR0.out t207 p210 q210; obtain rfl : ad208 = ad210 := (by injection e210); replace hx210_0 := (HB.out.cell (World.block_lt_of_cell? w _ hx210_0)).trans hx210_0; replace hx210_1 := (HB.out.cell (World.block_lt_of_cell? w _ hx210_1)).trans hx210_1; replace hx210_2 := (HB.out.cell (World.block_lt_of_cell? w _ hx210_2)).trans hx210_2; replace hx210_3 := (HB.out.cell (World.block_lt_of_cell? w _ hx210_3)).trans hx210_3; replace hx210_4 := (HB.out.cell (World.block_lt_of_cell? w _ hx210_4)).trans hx210_4; replace hx210_5 := (HB.out.cell (World.block_lt_of_cell? w _ hx210_5)).trans hx210_5; replace hx210_6 := (HB.out.cell (World.block_lt_of_cell? w _ hx210_6)).trans hx210_6; have HR210_3 := Aside0.mk hi210_3; have HC210_3 := Aside0.mk hl210_3; clear hi210_3 hl210_3; have HR210_6 := Aside0.mk hi210_6; have HC210_6 := Aside0.mk hl210_6; clear hi210_6 hl210_6; replace p210 := eq_true p210; replace q210 := eq_true q210) | ((with_reducible refine gate_callee (f := 22) rfl ?_); refine goesL_ (some 31) rfl rfl Try.func22 (by kernel_rfl) rfl #[.slice (some ad208) l0.length c0, .int .i64 ((rd_T35 l0 t207).f4), .int .i64 a2] rfl (by (try simp only [List.map_toArray, List.map_cons, List.map_nil]); first | done | rfl | (simp only [List.length_drop, List.length_take]; rfl)) ?_; (with_reducible refine (ih k (by omega) _ _ l0 ((rd_T35 l0 t207).f4) a2 t211 _ ?side1 ?side2 A12.out).mono ?_); (case side1 => repeat (first | exact (Kd.C_below HR0.out HB.out) | (with_reducible refine Kd.C_alloc ?_ _) | (with_reducible refine Kd.C_drewN ?_ _) | (with_reducible refine Kd.C_drew ?_))); (case side2 => exact HC0.out); rintro e w15 ⟨rfl, hb⟩; refine ⟨_, rfl, ?_⟩; have n0_ := Aside0.mk (below_step (by repeat (first | (with_reducible first | exact HB.out | apply below_alloc | apply pw_below_drewN | apply below_drew1) | exact HB.out)) hb); clear HB; have HB := n0_; clear n0_; (try clear hb); (try clear hb2); (try clear hk); (try clear hi)))
          go_ret
          exact ⟨by first | rfl | (simp [errW_none, errW_some] <;> rfl) | (simp [*, errW_none, errW_some] <;> rfl), by repeat (first | (with_reducible first | exact HB.out | apply below_alloc | apply pw_below_drewN | apply below_drew1) | exact HB.out)⟩
      · rw [if_neg c7] at H
        have c7b0 : (((rd_T35 l0 t207).f0) == 3) = false := beq_eq_false_iff_ne.mpr c7
        have c7b1 : (((rd_T35 l0 t207).f0) != 3) = true := bne_iff_ne.mpr c7
        obtain rfl := Option.some.inj H
        go_enter Try.func22, Try.ntmps22
        go_wp2_with (first | ((with_reducible refine gate_callee (f := 24) rfl ?_); refine goesL_ (some 10) rfl rfl Try.func24 (by kernel_rfl) rfl #[.slice A0 l0.length c0, .int .i64 a1] rfl (by (try simp only [List.map_toArray, List.map_cons, List.map_nil]); first | done | rfl | (simp only [List.length_drop, List.length_take]; rfl)) ?_; (with_reducible refine (limelightref03_Top.calls k _ _ l0 a1 t207 _ ?side1 ?side2 A4.out).mono ?_); (case side1 => repeat (first | exact HR0.out | (with_reducible refine Kd.C_alloc ?_ _) | (with_reducible refine Kd.C_drewN ?_ _) | (with_reducible refine Kd.C_drew ?_))); (case side2 => exact HC0.out); rintro e w16 ⟨rfl, hb⟩; refine ⟨_, rfl, ?_⟩; have n0_ := Aside0.mk (below_step (by repeat (first | (with_reducible first | exact HB.out | apply below_alloc | apply pw_below_drewN | apply below_drew1) | exact HB.out)) hb); clear HB; have HB := n0_; clear n0_; (try clear hb); (try clear hb2); (try clear hk); (try clear hi); have p208 : 0 ≤ (t207 : Int) := of_decide_eq_true (by first | (with_reducible assumption) | assumption); have q208 : t207 < (l0.length : Int) := of_decide_eq_true (by first | (with_reducible assumption) | assumption); obtain ⟨ad208, A208_3, c208_3, A208_6, c208_6, e208, hx208_0, hx208_1, hx208_2, hx208_3, hx208_4, hx208_5, hx208_6, hl208_3, hi208_3, hl208_6, hi208_6⟩ := at_T35 HR0.out t207 p208 q208; cases e208; replace hx208_0 := (HB.out.cell (World.block_lt_of_cell? w _ hx208_0)).trans hx208_0; replace hx208_1 := (HB.out.cell (World.block_lt_of_cell? w _ hx208_1)).trans hx208_1; replace hx208_2 := (HB.out.cell (World.block_lt_of_cell? w _ hx208_2)).trans hx208_2; replace hx208_3 := (HB.out.cell (World.block_lt_of_cell? w _ hx208_3)).trans hx208_3; replace hx208_4 := (HB.out.cell (World.block_lt_of_cell? w _ hx208_4)).trans hx208_4; replace hx208_5 := (HB.out.cell (World.block_lt_of_cell? w _ hx208_5)).trans hx208_5; replace hx208_6 := (HB.out.cell (World.block_lt_of_cell? w _ hx208_6)).trans hx208_6; have HR208_3 := Aside0.mk hi208_3; have HC208_3 := Aside0.mk hl208_3; clear hi208_3 hl208_3; have HR208_6 := Aside0.mk hi208_6; have HC208_6 := Aside0.mk hl208_6; clear hi208_6 hl208_6; replace p208 := eq_true p208; replace q208 := eq_true q208))
        go_ret
        exact ⟨by first | rfl | (simp [errW_none, errW_some] <;> rfl) | (simp [*, errW_none, errW_some] <;> rfl), by repeat (first | (with_reducible first | exact HB.out | apply below_alloc | apply pw_below_drewN | apply below_drew1) | exact HB.out)⟩
    · rw [if_neg c6] at H
      exact absurd H (by simp)
  · rw [if_neg c5] at H
    exact absurd H (by simp)

/-! ### limelightref04_Host: function 23 -/
def limelightref04_Host.f (k : Nat) (l0 : List (S35)) (a1 : Int) : Option (Int) := (limelightref03_Top.f k l0 a1).bind fun t212 => (if 0 ≤ t212 then (if t212 < (l0.length : Int) then (some ((rd_T35 l0 t212).f4)) else (none)) else (none))
theorem limelightref04_Host.mono : ∀ a0 a1 k, LeO (limelightref04_Host.f k a0 a1) (limelightref04_Host.f (k + 1) a0 a1) := by
  intro a0 a1 k
  unfold limelightref04_Host.f
  repeat' first
      | (with_reducible exact limelightref03_Top.mono _ _ _)
      | (with_reducible exact LeO.refl _)
      | (with_reducible exact LeO.none _)
      | (with_reducible refine LeO.ite ?_ ?_)
      | (with_reducible refine LeO.bind ?_ (fun _ => ?_))
      | exact limelightref03_Top.mono _ _ _
      | exact LeO.none _
      | refine LeO.ite ?_ ?_
      | refine LeO.bind ?_ (fun _ => ?_)
set_option maxHeartbeats 8000000 in
set_option maxRecDepth 100000 in
theorem limelightref04_Host.calls (k : Nat) (A0 : Option Addr) (c0 : Nat) (l0 : List (S35)) (a1 : Int) (r : Int) (w : World) (hr0 : Kd.C k35 w A0 l0.length l0) (hc0 : l0.length ≤ c0) (h : limelightref04_Host.f k l0 a1 = some r) :
    Calls Try.prog 23 #[.slice A0 l0.length c0, .int .i64 a1] w fun e w' => e = .returned (.int .i64 r) ∧ Below w.heap.size w w' := by
  have HR0 := Aside0.mk hr0
  have HC0 := Aside0.mk hc0
  clear hr0 hc0
  have HB := Aside0.mk (Below.refl w.heap.size w)
  have H : ((limelightref03_Top.f k l0 a1).bind fun t212 => (if 0 ≤ t212 then (if t212 < (l0.length : Int) then (some ((rd_T35 l0 t212).f4)) else (none)) else (none))) = some r := h
  clear h
  replace H := Option.bind_eq_some_iff.mp H
  obtain ⟨t212, A30, H⟩ := H
  replace H : (if 0 ≤ t212 then (if t212 < (l0.length : Int) then (some ((rd_T35 l0 t212).f4)) else (none)) else (none)) = some r := H
  have A3 := Aside0.mk A30
  clear A30
  by_cases c4 : 0 ≤ t212
  · rw [if_pos c4] at H
    have c4b0 : decide (0 ≤ t212) = true := decide_eq_true c4
    clear c4
    by_cases c5 : t212 < (l0.length : Int)
    · rw [if_pos c5] at H
      have c5b0 : decide (t212 < (l0.length : Int)) = true := decide_eq_true c5
      clear c5
      obtain rfl := Option.some.inj H
      go_enter Try.func23, Try.ntmps23
      go_wp2_with (first | ((with_reducible refine gate_callee (f := 24) rfl ?_); refine goesL_ (some 8) rfl rfl Try.func24 (by kernel_rfl) rfl #[.slice A0 l0.length c0, .int .i64 a1] rfl (by (try simp only [List.map_toArray, List.map_cons, List.map_nil]); first | done | rfl | (simp only [List.length_drop, List.length_take]; rfl)) ?_; (with_reducible refine (limelightref03_Top.calls k _ _ l0 a1 t212 _ ?side1 ?side2 A3.out).mono ?_); (case side1 => repeat (first | exact HR0.out | (with_reducible refine Kd.C_alloc ?_ _) | (with_reducible refine Kd.C_drewN ?_ _) | (with_reducible refine Kd.C_drew ?_))); (case side2 => exact HC0.out); rintro e w6 ⟨rfl, hb⟩; refine ⟨_, rfl, ?_⟩; have n0_ := Aside0.mk (below_step (by repeat (first | (with_reducible first | exact HB.out | apply below_alloc | apply pw_below_drewN | apply below_drew1) | exact HB.out)) hb); clear HB; have HB := n0_; clear n0_; (try clear hb); (try clear hb2); (try clear hk); (try clear hi); have p213 : 0 ≤ (t212 : Int) := of_decide_eq_true (by first | (with_reducible assumption) | assumption); have q213 : t212 < (l0.length : Int) := of_decide_eq_true (by first | (with_reducible assumption) | assumption); obtain ⟨ad213, A213_3, c213_3, A213_6, c213_6, e213, hx213_0, hx213_1, hx213_2, hx213_3, hx213_4, hx213_5, hx213_6, hl213_3, hi213_3, hl213_6, hi213_6⟩ := at_T35 HR0.out t212 p213 q213; cases e213; replace hx213_0 := (HB.out.cell (World.block_lt_of_cell? w _ hx213_0)).trans hx213_0; replace hx213_1 := (HB.out.cell (World.block_lt_of_cell? w _ hx213_1)).trans hx213_1; replace hx213_2 := (HB.out.cell (World.block_lt_of_cell? w _ hx213_2)).trans hx213_2; replace hx213_3 := (HB.out.cell (World.block_lt_of_cell? w _ hx213_3)).trans hx213_3; replace hx213_4 := (HB.out.cell (World.block_lt_of_cell? w _ hx213_4)).trans hx213_4; replace hx213_5 := (HB.out.cell (World.block_lt_of_cell? w _ hx213_5)).trans hx213_5; replace hx213_6 := (HB.out.cell (World.block_lt_of_cell? w _ hx213_6)).trans hx213_6; have HR213_3 := Aside0.mk hi213_3; have HC213_3 := Aside0.mk hl213_3; clear hi213_3 hl213_3; have HR213_6 := Aside0.mk hi213_6; have HC213_6 := Aside0.mk hl213_6; clear hi213_6 hl213_6; replace p213 := eq_true p213; replace q213 := eq_true q213))
      go_ret
      exact ⟨by first | rfl | (simp [errW_none, errW_some] <;> rfl) | (simp [*, errW_none, errW_some] <;> rfl), by repeat (first | (with_reducible first | exact HB.out | apply below_alloc | apply pw_below_drewN | apply below_drew1) | exact HB.out)⟩
    · rw [if_neg c5] at H
      exact absurd H (by simp)
  · rw [if_neg c4] at H
    exact absurd H (by simp)

/-! ### limelightlaw04_ShadeTells: function 3 -/
def limelightlaw04_ShadeTells.f (k : Nat) (l0 : List (S35)) (a1 : Int) (a2 : Int) : Option (Bool) := (limelightref01_Small.f l0).bind fun t214 => (if t214 = true then ((limelightref03_Both.f l0 a1 a2).bind fun t216 => (if t216 = true then ((shade_Up.f l0 a1).bind fun t230 => ((limelightref04_Up.f k l0 a1).bind fun t233 => ((limelightref01_Ints.f t230 t233).bind fun t236 => (if t236 = true then ((shade_List.f k l0 a1).bind fun t237 => ((limelightref04_List.f k l0 a1).bind fun t240 => ((limelightref01_Ints.f t237 t240).bind fun t243 => (if t243 = true then ((shade_Above.f k l0 a1 a2).bind fun t244 => ((limelightref04_Above.f k l0 a1 a2).bind fun t245 => (if (t244 == t245) = true then ((shade_Connected.f k l0 a1).bind fun t246 => ((limelightref04_Connected.f k l0 a1).bind fun t247 => (if (t246 == t247) = true then ((shade_Retarget.f l0 a1 a2).bind fun t248 => ((limelightref04_Retarget.f k l0 a1 a2).bind fun t249 => (if t248 = t249 then ((shade_Host.f l0 a1).bind fun t250 => ((limelightref04_Host.f k l0 a1).bind fun t251 => (if t250 = t251 then ((limelightlaw04_live.f k).bind fun t252 => (some t252)) else (none)))) else (none)))) else (none)))) else (none)))) else (none))))) else (none))))) else ((shade_Above.f k l0 a1 a2).bind fun t217 => (if t217 = true then (none) else ((shade_Retarget.f l0 a1 a2).bind fun t218 => (if t218 = (-1) then ((limelightref03_Both.f l0 a1 a1).bind fun t219 => (if t219 = true then ((limelightlaw04_live.f k).bind fun t220 => (some t220)) else ((shade_Up.f l0 a1).bind fun t221 => (if (t221.length : Int) = 0 then ((shade_List.f k l0 a1).bind fun t224 => (if (t224.length : Int) = 0 then ((shade_Connected.f k l0 a1).bind fun t227 => (if t227 = true then (none) else ((shade_Host.f l0 a1).bind fun t228 => (if t228 = (-1) then ((limelightlaw04_live.f k).bind fun t229 => (some t229)) else (none))))) else (none))) else (none))))) else (none))))))) else ((limelightlaw04_live.f k).bind fun t215 => (some t215)))
theorem limelightlaw04_ShadeTells.mono : ∀ a0 a1 a2 k, LeO (limelightlaw04_ShadeTells.f k a0 a1 a2) (limelightlaw04_ShadeTells.f (k + 1) a0 a1 a2) := by
  intro a0 a1 a2 k
  unfold limelightlaw04_ShadeTells.f
  repeat' first
      | (with_reducible exact limelightlaw04_live.mono _)
      | (with_reducible exact limelightref04_Above.mono _ _ _ _)
      | (with_reducible exact limelightref04_Connected.mono _ _ _)
      | (with_reducible exact limelightref04_Host.mono _ _ _)
      | (with_reducible exact limelightref04_List.mono _ _ _)
      | (with_reducible exact limelightref04_Retarget.mono _ _ _ _)
      | (with_reducible exact limelightref04_Up.mono _ _ _)
      | (with_reducible exact shade_Above.mono _ _ _ _)
      | (with_reducible exact shade_Connected.mono _ _ _)
      | (with_reducible exact shade_List.mono _ _ _)
      | (with_reducible exact LeO.refl _)
      | (with_reducible exact LeO.none _)
      | (with_reducible refine LeO.ite ?_ ?_)
      | (with_reducible refine LeO.bind ?_ (fun _ => ?_))
      | exact limelightlaw04_live.mono _
      | exact limelightref04_Above.mono _ _ _ _
      | exact limelightref04_Connected.mono _ _ _
      | exact limelightref04_Host.mono _ _ _
      | exact limelightref04_List.mono _ _ _
      | exact limelightref04_Retarget.mono _ _ _ _
      | exact limelightref04_Up.mono _ _ _
      | exact shade_Above.mono _ _ _ _
      | exact shade_Connected.mono _ _ _
      | exact shade_List.mono _ _ _
      | exact LeO.none _
      | refine LeO.ite ?_ ?_
      | refine LeO.bind ?_ (fun _ => ?_)
set_option maxHeartbeats 8000000 in
set_option maxRecDepth 100000 in
theorem limelightlaw04_ShadeTells.calls (k : Nat) (A0 : Option Addr) (c0 : Nat) (l0 : List (S35)) (a1 : Int) (a2 : Int) (r : Bool) (w : World) (hr0 : Kd.C k35 w A0 l0.length l0) (hc0 : l0.length ≤ c0) (h : limelightlaw04_ShadeTells.f k l0 a1 a2 = some r) :
    Calls Try.prog 3 #[.slice A0 l0.length c0, .int .i64 a1, .int .i64 a2] w fun e w' => e = .returned (.bool r) ∧ Below w.heap.size w w' := by
  have HR0 := Aside0.mk hr0
  have HC0 := Aside0.mk hc0
  clear hr0 hc0
  have HB := Aside0.mk (Below.refl w.heap.size w)
  have H : ((limelightref01_Small.f l0).bind fun t214 => (if t214 = true then ((limelightref03_Both.f l0 a1 a2).bind fun t216 => (if t216 = true then ((shade_Up.f l0 a1).bind fun t230 => ((limelightref04_Up.f k l0 a1).bind fun t233 => ((limelightref01_Ints.f t230 t233).bind fun t236 => (if t236 = true then ((shade_List.f k l0 a1).bind fun t237 => ((limelightref04_List.f k l0 a1).bind fun t240 => ((limelightref01_Ints.f t237 t240).bind fun t243 => (if t243 = true then ((shade_Above.f k l0 a1 a2).bind fun t244 => ((limelightref04_Above.f k l0 a1 a2).bind fun t245 => (if (t244 == t245) = true then ((shade_Connected.f k l0 a1).bind fun t246 => ((limelightref04_Connected.f k l0 a1).bind fun t247 => (if (t246 == t247) = true then ((shade_Retarget.f l0 a1 a2).bind fun t248 => ((limelightref04_Retarget.f k l0 a1 a2).bind fun t249 => (if t248 = t249 then ((shade_Host.f l0 a1).bind fun t250 => ((limelightref04_Host.f k l0 a1).bind fun t251 => (if t250 = t251 then ((limelightlaw04_live.f k).bind fun t252 => (some t252)) else (none)))) else (none)))) else (none)))) else (none)))) else (none))))) else (none))))) else ((shade_Above.f k l0 a1 a2).bind fun t217 => (if t217 = true then (none) else ((shade_Retarget.f l0 a1 a2).bind fun t218 => (if t218 = (-1) then ((limelightref03_Both.f l0 a1 a1).bind fun t219 => (if t219 = true then ((limelightlaw04_live.f k).bind fun t220 => (some t220)) else ((shade_Up.f l0 a1).bind fun t221 => (if (t221.length : Int) = 0 then ((shade_List.f k l0 a1).bind fun t224 => (if (t224.length : Int) = 0 then ((shade_Connected.f k l0 a1).bind fun t227 => (if t227 = true then (none) else ((shade_Host.f l0 a1).bind fun t228 => (if t228 = (-1) then ((limelightlaw04_live.f k).bind fun t229 => (some t229)) else (none))))) else (none))) else (none))))) else (none))))))) else ((limelightlaw04_live.f k).bind fun t215 => (some t215)))) = some r := h
  clear h
  replace H := Option.bind_eq_some_iff.mp H
  obtain ⟨t214, A40, H⟩ := H
  replace H : (if t214 = true then ((limelightref03_Both.f l0 a1 a2).bind fun t216 => (if t216 = true then ((shade_Up.f l0 a1).bind fun t230 => ((limelightref04_Up.f k l0 a1).bind fun t233 => ((limelightref01_Ints.f t230 t233).bind fun t236 => (if t236 = true then ((shade_List.f k l0 a1).bind fun t237 => ((limelightref04_List.f k l0 a1).bind fun t240 => ((limelightref01_Ints.f t237 t240).bind fun t243 => (if t243 = true then ((shade_Above.f k l0 a1 a2).bind fun t244 => ((limelightref04_Above.f k l0 a1 a2).bind fun t245 => (if (t244 == t245) = true then ((shade_Connected.f k l0 a1).bind fun t246 => ((limelightref04_Connected.f k l0 a1).bind fun t247 => (if (t246 == t247) = true then ((shade_Retarget.f l0 a1 a2).bind fun t248 => ((limelightref04_Retarget.f k l0 a1 a2).bind fun t249 => (if t248 = t249 then ((shade_Host.f l0 a1).bind fun t250 => ((limelightref04_Host.f k l0 a1).bind fun t251 => (if t250 = t251 then ((limelightlaw04_live.f k).bind fun t252 => (some t252)) else (none)))) else (none)))) else (none)))) else (none)))) else (none))))) else (none))))) else ((shade_Above.f k l0 a1 a2).bind fun t217 => (if t217 = true then (none) else ((shade_Retarget.f l0 a1 a2).bind fun t218 => (if t218 = (-1) then ((limelightref03_Both.f l0 a1 a1).bind fun t219 => (if t219 = true then ((limelightlaw04_live.f k).bind fun t220 => (some t220)) else ((shade_Up.f l0 a1).bind fun t221 => (if (t221.length : Int) = 0 then ((shade_List.f k l0 a1).bind fun t224 => (if (t224.length : Int) = 0 then ((shade_Connected.f k l0 a1).bind fun t227 => (if t227 = true then (none) else ((shade_Host.f l0 a1).bind fun t228 => (if t228 = (-1) then ((limelightlaw04_live.f k).bind fun t229 => (some t229)) else (none))))) else (none))) else (none))))) else (none))))))) else ((limelightlaw04_live.f k).bind fun t215 => (some t215))) = some r := H
  have A4 := Aside0.mk A40
  clear A40
  by_cases c5 : t214 = true
  · subst c5
    have H1 : ((limelightref03_Both.f l0 a1 a2).bind fun t216 => (if t216 = true then ((shade_Up.f l0 a1).bind fun t230 => ((limelightref04_Up.f k l0 a1).bind fun t233 => ((limelightref01_Ints.f t230 t233).bind fun t236 => (if t236 = true then ((shade_List.f k l0 a1).bind fun t237 => ((limelightref04_List.f k l0 a1).bind fun t240 => ((limelightref01_Ints.f t237 t240).bind fun t243 => (if t243 = true then ((shade_Above.f k l0 a1 a2).bind fun t244 => ((limelightref04_Above.f k l0 a1 a2).bind fun t245 => (if (t244 == t245) = true then ((shade_Connected.f k l0 a1).bind fun t246 => ((limelightref04_Connected.f k l0 a1).bind fun t247 => (if (t246 == t247) = true then ((shade_Retarget.f l0 a1 a2).bind fun t248 => ((limelightref04_Retarget.f k l0 a1 a2).bind fun t249 => (if t248 = t249 then ((shade_Host.f l0 a1).bind fun t250 => ((limelightref04_Host.f k l0 a1).bind fun t251 => (if t250 = t251 then ((limelightlaw04_live.f k).bind fun t252 => (some t252)) else (none)))) else (none)))) else (none)))) else (none)))) else (none))))) else (none))))) else ((shade_Above.f k l0 a1 a2).bind fun t217 => (if t217 = true then (none) else ((shade_Retarget.f l0 a1 a2).bind fun t218 => (if t218 = (-1) then ((limelightref03_Both.f l0 a1 a1).bind fun t219 => (if t219 = true then ((limelightlaw04_live.f k).bind fun t220 => (some t220)) else ((shade_Up.f l0 a1).bind fun t221 => (if (t221.length : Int) = 0 then ((shade_List.f k l0 a1).bind fun t224 => (if (t224.length : Int) = 0 then ((shade_Connected.f k l0 a1).bind fun t227 => (if t227 = true then (none) else ((shade_Host.f l0 a1).bind fun t228 => (if t228 = (-1) then ((limelightlaw04_live.f k).bind fun t229 => (some t229)) else (none))))) else (none))) else (none))))) else (none))))))) = some r := by rw [if_pos rfl] at H; exact H
    clear H
    have H := H1
    clear H1
    replace H := Option.bind_eq_some_iff.mp H
    obtain ⟨t216, A60, H⟩ := H
    replace H : (if t216 = true then ((shade_Up.f l0 a1).bind fun t230 => ((limelightref04_Up.f k l0 a1).bind fun t233 => ((limelightref01_Ints.f t230 t233).bind fun t236 => (if t236 = true then ((shade_List.f k l0 a1).bind fun t237 => ((limelightref04_List.f k l0 a1).bind fun t240 => ((limelightref01_Ints.f t237 t240).bind fun t243 => (if t243 = true then ((shade_Above.f k l0 a1 a2).bind fun t244 => ((limelightref04_Above.f k l0 a1 a2).bind fun t245 => (if (t244 == t245) = true then ((shade_Connected.f k l0 a1).bind fun t246 => ((limelightref04_Connected.f k l0 a1).bind fun t247 => (if (t246 == t247) = true then ((shade_Retarget.f l0 a1 a2).bind fun t248 => ((limelightref04_Retarget.f k l0 a1 a2).bind fun t249 => (if t248 = t249 then ((shade_Host.f l0 a1).bind fun t250 => ((limelightref04_Host.f k l0 a1).bind fun t251 => (if t250 = t251 then ((limelightlaw04_live.f k).bind fun t252 => (some t252)) else (none)))) else (none)))) else (none)))) else (none)))) else (none))))) else (none))))) else ((shade_Above.f k l0 a1 a2).bind fun t217 => (if t217 = true then (none) else ((shade_Retarget.f l0 a1 a2).bind fun t218 => (if t218 = (-1) then ((limelightref03_Both.f l0 a1 a1).bind fun t219 => (if t219 = true then ((limelightlaw04_live.f k).bind fun t220 => (some t220)) else ((shade_Up.f l0 a1).bind fun t221 => (if (t221.length : Int) = 0 then ((shade_List.f k l0 a1).bind fun t224 => (if (t224.length : Int) = 0 then ((shade_Connected.f k l0 a1).bind fun t227 => (if t227 = true then (none) else ((shade_Host.f l0 a1).bind fun t228 => (if t228 = (-1) then ((limelightlaw04_live.f k).bind fun t229 => (some t229)) else (none))))) else (none))) else (none))))) else (none)))))) = some r := H
    have A6 := Aside0.mk A60
    clear A60
    by_cases c7 : t216 = true
    · subst c7
      have H1 : ((shade_Up.f l0 a1).bind fun t230 => ((limelightref04_Up.f k l0 a1).bind fun t233 => ((limelightref01_Ints.f t230 t233).bind fun t236 => (if t236 = true then ((shade_List.f k l0 a1).bind fun t237 => ((limelightref04_List.f k l0 a1).bind fun t240 => ((limelightref01_Ints.f t237 t240).bind fun t243 => (if t243 = true then ((shade_Above.f k l0 a1 a2).bind fun t244 => ((limelightref04_Above.f k l0 a1 a2).bind fun t245 => (if (t244 == t245) = true then ((shade_Connected.f k l0 a1).bind fun t246 => ((limelightref04_Connected.f k l0 a1).bind fun t247 => (if (t246 == t247) = true then ((shade_Retarget.f l0 a1 a2).bind fun t248 => ((limelightref04_Retarget.f k l0 a1 a2).bind fun t249 => (if t248 = t249 then ((shade_Host.f l0 a1).bind fun t250 => ((limelightref04_Host.f k l0 a1).bind fun t251 => (if t250 = t251 then ((limelightlaw04_live.f k).bind fun t252 => (some t252)) else (none)))) else (none)))) else (none)))) else (none)))) else (none))))) else (none))))) = some r := by rw [if_pos rfl] at H; exact H
      clear H
      have H := H1
      clear H1
      replace H := Option.bind_eq_some_iff.mp H
      obtain ⟨t230, A80, H⟩ := H
      replace H : ((limelightref04_Up.f k l0 a1).bind fun t233 => ((limelightref01_Ints.f t230 t233).bind fun t236 => (if t236 = true then ((shade_List.f k l0 a1).bind fun t237 => ((limelightref04_List.f k l0 a1).bind fun t240 => ((limelightref01_Ints.f t237 t240).bind fun t243 => (if t243 = true then ((shade_Above.f k l0 a1 a2).bind fun t244 => ((limelightref04_Above.f k l0 a1 a2).bind fun t245 => (if (t244 == t245) = true then ((shade_Connected.f k l0 a1).bind fun t246 => ((limelightref04_Connected.f k l0 a1).bind fun t247 => (if (t246 == t247) = true then ((shade_Retarget.f l0 a1 a2).bind fun t248 => ((limelightref04_Retarget.f k l0 a1 a2).bind fun t249 => (if t248 = t249 then ((shade_Host.f l0 a1).bind fun t250 => ((limelightref04_Host.f k l0 a1).bind fun t251 => (if t250 = t251 then ((limelightlaw04_live.f k).bind fun t252 => (some t252)) else (none)))) else (none)))) else (none)))) else (none)))) else (none))))) else (none)))) = some r := H
      have A8 := Aside0.mk A80
      clear A80
      replace H := Option.bind_eq_some_iff.mp H
      obtain ⟨t233, A90, H⟩ := H
      replace H : ((limelightref01_Ints.f t230 t233).bind fun t236 => (if t236 = true then ((shade_List.f k l0 a1).bind fun t237 => ((limelightref04_List.f k l0 a1).bind fun t240 => ((limelightref01_Ints.f t237 t240).bind fun t243 => (if t243 = true then ((shade_Above.f k l0 a1 a2).bind fun t244 => ((limelightref04_Above.f k l0 a1 a2).bind fun t245 => (if (t244 == t245) = true then ((shade_Connected.f k l0 a1).bind fun t246 => ((limelightref04_Connected.f k l0 a1).bind fun t247 => (if (t246 == t247) = true then ((shade_Retarget.f l0 a1 a2).bind fun t248 => ((limelightref04_Retarget.f k l0 a1 a2).bind fun t249 => (if t248 = t249 then ((shade_Host.f l0 a1).bind fun t250 => ((limelightref04_Host.f k l0 a1).bind fun t251 => (if t250 = t251 then ((limelightlaw04_live.f k).bind fun t252 => (some t252)) else (none)))) else (none)))) else (none)))) else (none)))) else (none))))) else (none))) = some r := H
      have A9 := Aside0.mk A90
      clear A90
      replace H := Option.bind_eq_some_iff.mp H
      obtain ⟨t236, A100, H⟩ := H
      replace H : (if t236 = true then ((shade_List.f k l0 a1).bind fun t237 => ((limelightref04_List.f k l0 a1).bind fun t240 => ((limelightref01_Ints.f t237 t240).bind fun t243 => (if t243 = true then ((shade_Above.f k l0 a1 a2).bind fun t244 => ((limelightref04_Above.f k l0 a1 a2).bind fun t245 => (if (t244 == t245) = true then ((shade_Connected.f k l0 a1).bind fun t246 => ((limelightref04_Connected.f k l0 a1).bind fun t247 => (if (t246 == t247) = true then ((shade_Retarget.f l0 a1 a2).bind fun t248 => ((limelightref04_Retarget.f k l0 a1 a2).bind fun t249 => (if t248 = t249 then ((shade_Host.f l0 a1).bind fun t250 => ((limelightref04_Host.f k l0 a1).bind fun t251 => (if t250 = t251 then ((limelightlaw04_live.f k).bind fun t252 => (some t252)) else (none)))) else (none)))) else (none)))) else (none)))) else (none))))) else (none)) = some r := H
      have A10 := Aside0.mk A100
      clear A100
      by_cases c11 : t236 = true
      · subst c11
        have H1 : ((shade_List.f k l0 a1).bind fun t237 => ((limelightref04_List.f k l0 a1).bind fun t240 => ((limelightref01_Ints.f t237 t240).bind fun t243 => (if t243 = true then ((shade_Above.f k l0 a1 a2).bind fun t244 => ((limelightref04_Above.f k l0 a1 a2).bind fun t245 => (if (t244 == t245) = true then ((shade_Connected.f k l0 a1).bind fun t246 => ((limelightref04_Connected.f k l0 a1).bind fun t247 => (if (t246 == t247) = true then ((shade_Retarget.f l0 a1 a2).bind fun t248 => ((limelightref04_Retarget.f k l0 a1 a2).bind fun t249 => (if t248 = t249 then ((shade_Host.f l0 a1).bind fun t250 => ((limelightref04_Host.f k l0 a1).bind fun t251 => (if t250 = t251 then ((limelightlaw04_live.f k).bind fun t252 => (some t252)) else (none)))) else (none)))) else (none)))) else (none)))) else (none))))) = some r := by rw [if_pos rfl] at H; exact H
        clear H
        have H := H1
        clear H1
        replace H := Option.bind_eq_some_iff.mp H
        obtain ⟨t237, A120, H⟩ := H
        replace H : ((limelightref04_List.f k l0 a1).bind fun t240 => ((limelightref01_Ints.f t237 t240).bind fun t243 => (if t243 = true then ((shade_Above.f k l0 a1 a2).bind fun t244 => ((limelightref04_Above.f k l0 a1 a2).bind fun t245 => (if (t244 == t245) = true then ((shade_Connected.f k l0 a1).bind fun t246 => ((limelightref04_Connected.f k l0 a1).bind fun t247 => (if (t246 == t247) = true then ((shade_Retarget.f l0 a1 a2).bind fun t248 => ((limelightref04_Retarget.f k l0 a1 a2).bind fun t249 => (if t248 = t249 then ((shade_Host.f l0 a1).bind fun t250 => ((limelightref04_Host.f k l0 a1).bind fun t251 => (if t250 = t251 then ((limelightlaw04_live.f k).bind fun t252 => (some t252)) else (none)))) else (none)))) else (none)))) else (none)))) else (none)))) = some r := H
        have A12 := Aside0.mk A120
        clear A120
        replace H := Option.bind_eq_some_iff.mp H
        obtain ⟨t240, A130, H⟩ := H
        replace H : ((limelightref01_Ints.f t237 t240).bind fun t243 => (if t243 = true then ((shade_Above.f k l0 a1 a2).bind fun t244 => ((limelightref04_Above.f k l0 a1 a2).bind fun t245 => (if (t244 == t245) = true then ((shade_Connected.f k l0 a1).bind fun t246 => ((limelightref04_Connected.f k l0 a1).bind fun t247 => (if (t246 == t247) = true then ((shade_Retarget.f l0 a1 a2).bind fun t248 => ((limelightref04_Retarget.f k l0 a1 a2).bind fun t249 => (if t248 = t249 then ((shade_Host.f l0 a1).bind fun t250 => ((limelightref04_Host.f k l0 a1).bind fun t251 => (if t250 = t251 then ((limelightlaw04_live.f k).bind fun t252 => (some t252)) else (none)))) else (none)))) else (none)))) else (none)))) else (none))) = some r := H
        have A13 := Aside0.mk A130
        clear A130
        replace H := Option.bind_eq_some_iff.mp H
        obtain ⟨t243, A140, H⟩ := H
        replace H : (if t243 = true then ((shade_Above.f k l0 a1 a2).bind fun t244 => ((limelightref04_Above.f k l0 a1 a2).bind fun t245 => (if (t244 == t245) = true then ((shade_Connected.f k l0 a1).bind fun t246 => ((limelightref04_Connected.f k l0 a1).bind fun t247 => (if (t246 == t247) = true then ((shade_Retarget.f l0 a1 a2).bind fun t248 => ((limelightref04_Retarget.f k l0 a1 a2).bind fun t249 => (if t248 = t249 then ((shade_Host.f l0 a1).bind fun t250 => ((limelightref04_Host.f k l0 a1).bind fun t251 => (if t250 = t251 then ((limelightlaw04_live.f k).bind fun t252 => (some t252)) else (none)))) else (none)))) else (none)))) else (none)))) else (none)) = some r := H
        have A14 := Aside0.mk A140
        clear A140
        by_cases c15 : t243 = true
        · subst c15
          have H1 : ((shade_Above.f k l0 a1 a2).bind fun t244 => ((limelightref04_Above.f k l0 a1 a2).bind fun t245 => (if (t244 == t245) = true then ((shade_Connected.f k l0 a1).bind fun t246 => ((limelightref04_Connected.f k l0 a1).bind fun t247 => (if (t246 == t247) = true then ((shade_Retarget.f l0 a1 a2).bind fun t248 => ((limelightref04_Retarget.f k l0 a1 a2).bind fun t249 => (if t248 = t249 then ((shade_Host.f l0 a1).bind fun t250 => ((limelightref04_Host.f k l0 a1).bind fun t251 => (if t250 = t251 then ((limelightlaw04_live.f k).bind fun t252 => (some t252)) else (none)))) else (none)))) else (none)))) else (none)))) = some r := by rw [if_pos rfl] at H; exact H
          clear H
          have H := H1
          clear H1
          replace H := Option.bind_eq_some_iff.mp H
          obtain ⟨t244, A160, H⟩ := H
          replace H : ((limelightref04_Above.f k l0 a1 a2).bind fun t245 => (if (t244 == t245) = true then ((shade_Connected.f k l0 a1).bind fun t246 => ((limelightref04_Connected.f k l0 a1).bind fun t247 => (if (t246 == t247) = true then ((shade_Retarget.f l0 a1 a2).bind fun t248 => ((limelightref04_Retarget.f k l0 a1 a2).bind fun t249 => (if t248 = t249 then ((shade_Host.f l0 a1).bind fun t250 => ((limelightref04_Host.f k l0 a1).bind fun t251 => (if t250 = t251 then ((limelightlaw04_live.f k).bind fun t252 => (some t252)) else (none)))) else (none)))) else (none)))) else (none))) = some r := H
          have A16 := Aside0.mk A160
          clear A160
          replace H := Option.bind_eq_some_iff.mp H
          obtain ⟨t245, A170, H⟩ := H
          replace H : (if (t244 == t245) = true then ((shade_Connected.f k l0 a1).bind fun t246 => ((limelightref04_Connected.f k l0 a1).bind fun t247 => (if (t246 == t247) = true then ((shade_Retarget.f l0 a1 a2).bind fun t248 => ((limelightref04_Retarget.f k l0 a1 a2).bind fun t249 => (if t248 = t249 then ((shade_Host.f l0 a1).bind fun t250 => ((limelightref04_Host.f k l0 a1).bind fun t251 => (if t250 = t251 then ((limelightlaw04_live.f k).bind fun t252 => (some t252)) else (none)))) else (none)))) else (none)))) else (none)) = some r := H
          have A17 := Aside0.mk A170
          clear A170
          by_cases c18 : (t244 == t245) = true
          · rw [if_pos c18] at H
            have c18b0 : (t244 == t245) = true := c18
            (try (have c18b1 : decide (t244 = t245) = true := by simpa using c18))
            (try (have c18b2 : (t244 == t245) = true := by simpa using c18))
            clear c18
            replace H := Option.bind_eq_some_iff.mp H
            obtain ⟨t246, A190, H⟩ := H
            replace H : ((limelightref04_Connected.f k l0 a1).bind fun t247 => (if (t246 == t247) = true then ((shade_Retarget.f l0 a1 a2).bind fun t248 => ((limelightref04_Retarget.f k l0 a1 a2).bind fun t249 => (if t248 = t249 then ((shade_Host.f l0 a1).bind fun t250 => ((limelightref04_Host.f k l0 a1).bind fun t251 => (if t250 = t251 then ((limelightlaw04_live.f k).bind fun t252 => (some t252)) else (none)))) else (none)))) else (none))) = some r := H
            have A19 := Aside0.mk A190
            clear A190
            replace H := Option.bind_eq_some_iff.mp H
            obtain ⟨t247, A200, H⟩ := H
            replace H : (if (t246 == t247) = true then ((shade_Retarget.f l0 a1 a2).bind fun t248 => ((limelightref04_Retarget.f k l0 a1 a2).bind fun t249 => (if t248 = t249 then ((shade_Host.f l0 a1).bind fun t250 => ((limelightref04_Host.f k l0 a1).bind fun t251 => (if t250 = t251 then ((limelightlaw04_live.f k).bind fun t252 => (some t252)) else (none)))) else (none)))) else (none)) = some r := H
            have A20 := Aside0.mk A200
            clear A200
            by_cases c21 : (t246 == t247) = true
            · rw [if_pos c21] at H
              have c21b0 : (t246 == t247) = true := c21
              (try (have c21b1 : decide (t246 = t247) = true := by simpa using c21))
              (try (have c21b2 : (t246 == t247) = true := by simpa using c21))
              clear c21
              replace H := Option.bind_eq_some_iff.mp H
              obtain ⟨t248, A220, H⟩ := H
              replace H : ((limelightref04_Retarget.f k l0 a1 a2).bind fun t249 => (if t248 = t249 then ((shade_Host.f l0 a1).bind fun t250 => ((limelightref04_Host.f k l0 a1).bind fun t251 => (if t250 = t251 then ((limelightlaw04_live.f k).bind fun t252 => (some t252)) else (none)))) else (none))) = some r := H
              have A22 := Aside0.mk A220
              clear A220
              replace H := Option.bind_eq_some_iff.mp H
              obtain ⟨t249, A230, H⟩ := H
              replace H : (if t248 = t249 then ((shade_Host.f l0 a1).bind fun t250 => ((limelightref04_Host.f k l0 a1).bind fun t251 => (if t250 = t251 then ((limelightlaw04_live.f k).bind fun t252 => (some t252)) else (none)))) else (none)) = some r := H
              have A23 := Aside0.mk A230
              clear A230
              by_cases c24 : t248 = t249
              · rw [if_pos c24] at H
                have c24b0 : (t248 == t249) = true := beq_iff_eq.mpr c24
                have c24b1 : (t248 != t249) = false := bne_eq_false_iff_eq.mpr c24
                clear c24
                replace H := Option.bind_eq_some_iff.mp H
                obtain ⟨t250, A250, H⟩ := H
                replace H : ((limelightref04_Host.f k l0 a1).bind fun t251 => (if t250 = t251 then ((limelightlaw04_live.f k).bind fun t252 => (some t252)) else (none))) = some r := H
                have A25 := Aside0.mk A250
                clear A250
                replace H := Option.bind_eq_some_iff.mp H
                obtain ⟨t251, A260, H⟩ := H
                replace H : (if t250 = t251 then ((limelightlaw04_live.f k).bind fun t252 => (some t252)) else (none)) = some r := H
                have A26 := Aside0.mk A260
                clear A260
                by_cases c27 : t250 = t251
                · rw [if_pos c27] at H
                  have c27b0 : (t250 == t251) = true := beq_iff_eq.mpr c27
                  have c27b1 : (t250 != t251) = false := bne_eq_false_iff_eq.mpr c27
                  clear c27
                  replace H := Option.bind_eq_some_iff.mp H
                  obtain ⟨t252, A280, H⟩ := H
                  replace H : (some t252) = some r := H
                  have A28 := Aside0.mk A280
                  clear A280
                  obtain rfl := Option.some.inj H
                  go_enter Try.func3, Try.ntmps3
                  go_wp2_with (first | ((with_reducible refine gate_callee (f := 8) rfl ?_); refine goesL_ (some 8) rfl rfl Try.func8 (by kernel_rfl) rfl #[.slice A0 l0.length c0] rfl (by (try simp only [List.map_toArray, List.map_cons, List.map_nil]); first | done | rfl | (simp only [List.length_drop, List.length_take]; rfl)) ?_; (with_reducible refine (limelightref01_Small.calls _ _ l0 true _ ?side1 ?side2 A4.out).mono ?_); (case side1 => repeat (first | exact HR0.out | (with_reducible refine Kd.C_alloc ?_ _) | (with_reducible refine Kd.C_drewN ?_ _) | (with_reducible refine Kd.C_drew ?_))); (case side2 => exact HC0.out); rintro e w29 ⟨rfl, hb⟩; refine ⟨_, rfl, ?_⟩; have n0_ := Aside0.mk (below_step (by repeat (first | (with_reducible first | exact HB.out | apply below_alloc | apply pw_below_drewN | apply below_drew1) | exact HB.out)) hb); clear HB; have HB := n0_; clear n0_; (try clear hb); (try clear hb2); (try clear hk); (try clear hi)) | ((with_reducible refine gate_callee (f := 10) rfl ?_); refine goesL_ (some 14) rfl rfl Try.func10 (by kernel_rfl) rfl #[.slice A0 l0.length c0, .int .i64 a1, .int .i64 a2] rfl (by (try simp only [List.map_toArray, List.map_cons, List.map_nil]); first | done | rfl | (simp only [List.length_drop, List.length_take]; rfl)) ?_; (with_reducible refine (limelightref03_Both.calls _ _ l0 a1 a2 true _ ?side1 ?side2 A6.out).mono ?_); (case side1 => repeat (first | exact (Kd.C_below HR0.out HB.out) | (with_reducible refine Kd.C_alloc ?_ _) | (with_reducible refine Kd.C_drewN ?_ _) | (with_reducible refine Kd.C_drew ?_))); (case side2 => exact HC0.out); rintro e w30 ⟨rfl, hb⟩; refine ⟨_, rfl, ?_⟩; have n0_ := Aside0.mk (below_step (by repeat (first | (with_reducible first | exact HB.out | apply below_alloc | apply pw_below_drewN | apply below_drew1) | exact HB.out)) hb); clear HB; have HB := n0_; clear n0_; (try clear hb); (try clear hb2); (try clear hk); (try clear hi)) | ((with_reducible refine gate_callee (f := 13) rfl ?_); refine goesL_ (some 65) rfl rfl Try.func13 (by kernel_rfl) rfl #[.slice A0 l0.length c0, .int .i64 a1] rfl (by (try simp only [List.map_toArray, List.map_cons, List.map_nil]); first | done | rfl | (simp only [List.length_drop, List.length_take]; rfl)) ?_; (with_reducible refine (shade_Up.calls _ _ l0 a1 t230 _ ?side1 ?side2 A8.out).mono ?_); (case side1 => repeat (first | exact (Kd.C_below HR0.out HB.out) | (with_reducible refine Kd.C_alloc ?_ _) | (with_reducible refine Kd.C_drewN ?_ _) | (with_reducible refine Kd.C_drew ?_))); (case side2 => exact HC0.out); rintro e w31 ⟨v231, rfl, ho0, hb⟩; refine ⟨_, rfl, ?_⟩; have n0_ := Aside0.mk (Kd.R_lower ho0 (below_size (by repeat (first | (with_reducible first | exact HB.out | apply below_alloc | apply pw_below_drewN | apply below_drew1) | exact HB.out)))); have n1_ := Aside0.mk (below_step (by repeat (first | (with_reducible first | exact HB.out | apply below_alloc | apply pw_below_drewN | apply below_drew1) | exact HB.out)) hb); clear HB; have HO232 := n0_; have HB := n1_; clear n0_ n1_; (try clear hb); (try clear hb2); (try clear hk); (try clear hi); (try clear ho0)) | ((with_reducible refine gate_callee (f := 18) rfl ?_); refine goesL_ (some 68) rfl rfl Try.func18 (by kernel_rfl) rfl #[.slice A0 l0.length c0, .int .i64 a1] rfl (by (try simp only [List.map_toArray, List.map_cons, List.map_nil]); first | done | rfl | (simp only [List.length_drop, List.length_take]; rfl)) ?_; (with_reducible refine (limelightref04_Up.calls k _ _ l0 a1 t233 _ ?side1 ?side2 A9.out).mono ?_); (case side1 => repeat (first | exact (Kd.C_below HR0.out HB.out) | (with_reducible refine Kd.C_alloc ?_ _) | (with_reducible refine Kd.C_drewN ?_ _) | (with_reducible refine Kd.C_drew ?_))); (case side2 => exact HC0.out); rintro e w32 ⟨v234, rfl, ho0, hb⟩; refine ⟨_, rfl, ?_⟩; have n0_ := Aside0.mk (Kd.R_elder' (by (with_reducible repeat (first | apply Kd.R_alloc | apply Kd.R_drewN | apply Kd.R_drew)); exact HO232.out) (Kd.R_base ho0) hb); have n1_ := Aside0.mk (Kd.R_lower (Kd.R_new' ho0 (Kd.R_lt (by (with_reducible repeat (first | apply Kd.R_alloc | apply Kd.R_drewN | apply Kd.R_drew)); exact HO232.out))) (below_size (by repeat (first | (with_reducible first | exact HB.out | apply below_alloc | apply pw_below_drewN | apply below_drew1) | exact HB.out)))); have n2_ := Aside0.mk (below_step (by repeat (first | (with_reducible first | exact HB.out | apply below_alloc | apply pw_below_drewN | apply below_drew1) | exact HB.out)) hb); clear HO232; clear HB; have HO232 := n0_; have HO235 := n1_; have HB := n2_; clear n0_ n1_ n2_; (try clear hb); (try clear hb2); (try clear hk); (try clear hi); (try clear ho0); obtain ⟨Ao33, co33, eo33⟩ := Kd.R_slice HO232.out; subst eo33; obtain ⟨Ao34, co34, eo34⟩ := Kd.R_slice HO235.out; subst eo34) | ((with_reducible refine gate_callee (f := 17) rfl ?_); refine goesL_ (some 69) rfl rfl Try.func17 (by kernel_rfl) rfl #[.slice Ao33 t230.length co33, .slice Ao34 t233.length co34] rfl (by (try simp only [List.map_toArray, List.map_cons, List.map_nil]); first | done | rfl | (simp only [List.length_drop, List.length_take]; rfl)) ?_; (with_reducible refine (limelightref01_Ints.calls _ _ t230 _ _ t233 true _ ?side1 ?side2 ?side3 ?side4 A10.out).mono ?_); (case side1 => repeat (first | exact (Kd.R_reads' HO232.out).2.2 | (with_reducible refine Kd.C_alloc ?_ _) | (with_reducible refine Kd.C_drewN ?_ _) | (with_reducible refine Kd.C_drew ?_))); (case side2 => exact (Kd.R_reads' HO232.out).2.1); (case side3 => repeat (first | exact (Kd.R_reads' HO235.out).2.2 | (with_reducible refine Kd.C_alloc ?_ _) | (with_reducible refine Kd.C_drewN ?_ _) | (with_reducible refine Kd.C_drew ?_))); (case side4 => exact (Kd.R_reads' HO235.out).2.1); rintro e w35 ⟨rfl, hb⟩; refine ⟨_, rfl, ?_⟩; have n0_ := Aside0.mk (Kd.R_below (by (with_reducible repeat (first | apply Kd.R_alloc | apply Kd.R_drewN | apply Kd.R_drew)); exact HO232.out) hb); have n1_ := Aside0.mk (Kd.R_below (by (with_reducible repeat (first | apply Kd.R_alloc | apply Kd.R_drewN | apply Kd.R_drew)); exact HO235.out) hb); have n2_ := Aside0.mk (below_step (by repeat (first | (with_reducible first | exact HB.out | apply below_alloc | apply pw_below_drewN | apply below_drew1) | exact HB.out)) hb); clear HO232; clear HO235; clear HB; have HO232 := n0_; have HO235 := n1_; have HB := n2_; clear n0_ n1_ n2_; (try clear hb); (try clear hb2); (try clear hk); (try clear hi)) | (go_at_call 14; (with_reducible refine (shade_List.calls k _ _ l0 a1 t237 _ ?side1 ?side2 A12.out).mono ?_); (case side1 => repeat (first | exact (Kd.C_below HR0.out HB.out) | (with_reducible refine Kd.C_alloc ?_ _) | (with_reducible refine Kd.C_drewN ?_ _) | (with_reducible refine Kd.C_drew ?_))); (case side2 => exact HC0.out); rintro e w36 ⟨v238, rfl, ho0, hb⟩; have n0_ := Aside0.mk (Kd.R_elder' (by (with_reducible repeat (first | apply Kd.R_alloc | apply Kd.R_drewN | apply Kd.R_drew)); exact HO232.out) (Kd.R_base ho0) hb); have n1_ := Aside0.mk (Kd.R_elder' (by (with_reducible repeat (first | apply Kd.R_alloc | apply Kd.R_drewN | apply Kd.R_drew)); exact HO235.out) (Kd.R_base ho0) hb); have n2_ := Aside0.mk (Kd.R_lower (Kd.R_new' (Kd.R_new' ho0 (Kd.R_lt (by (with_reducible repeat (first | apply Kd.R_alloc | apply Kd.R_drewN | apply Kd.R_drew)); exact HO232.out))) (Kd.R_lt (by (with_reducible repeat (first | apply Kd.R_alloc | apply Kd.R_drewN | apply Kd.R_drew)); exact HO235.out))) (below_size (by repeat (first | (with_reducible first | exact HB.out | apply below_alloc | apply pw_below_drewN | apply below_drew1) | exact HB.out)))); have n3_ := Aside0.mk (below_step (by repeat (first | (with_reducible first | exact HB.out | apply below_alloc | apply pw_below_drewN | apply below_drew1) | exact HB.out)) hb); clear HO232; clear HO235; clear HB; have HO232 := n0_; have HO235 := n1_; have HO239 := n2_; have HB := n3_; clear n0_ n1_ n2_ n3_; (try clear hb); (try clear hb2); (try clear hk); (try clear hi); (try clear ho0)) | (go_at_call 19; (with_reducible refine (limelightref04_List.calls k _ _ l0 a1 t240 _ ?side1 ?side2 A13.out).mono ?_); (case side1 => repeat (first | exact (Kd.C_below HR0.out HB.out) | (with_reducible refine Kd.C_alloc ?_ _) | (with_reducible refine Kd.C_drewN ?_ _) | (with_reducible refine Kd.C_drew ?_))); (case side2 => exact HC0.out); rintro e w37 ⟨v241, rfl, ho0, hb⟩; have n0_ := Aside0.mk (Kd.R_elder' (by (with_reducible repeat (first | apply Kd.R_alloc | apply Kd.R_drewN | apply Kd.R_drew)); exact HO232.out) (Kd.R_base ho0) hb); have n1_ := Aside0.mk (Kd.R_elder' (by (with_reducible repeat (first | apply Kd.R_alloc | apply Kd.R_drewN | apply Kd.R_drew)); exact HO235.out) (Kd.R_base ho0) hb); have n2_ := Aside0.mk (Kd.R_elder' (by (with_reducible repeat (first | apply Kd.R_alloc | apply Kd.R_drewN | apply Kd.R_drew)); exact HO239.out) (Kd.R_base ho0) hb); have n3_ := Aside0.mk (Kd.R_lower (Kd.R_new' (Kd.R_new' (Kd.R_new' ho0 (Kd.R_lt (by (with_reducible repeat (first | apply Kd.R_alloc | apply Kd.R_drewN | apply Kd.R_drew)); exact HO232.out))) (Kd.R_lt (by (with_reducible repeat (first | apply Kd.R_alloc | apply Kd.R_drewN | apply Kd.R_drew)); exact HO235.out))) (Kd.R_lt (by (with_reducible repeat (first | apply Kd.R_alloc | apply Kd.R_drewN | apply Kd.R_drew)); exact HO239.out))) (below_size (by repeat (first | (with_reducible first | exact HB.out | apply below_alloc | apply pw_below_drewN | apply below_drew1) | exact HB.out)))); have n4_ := Aside0.mk (below_step (by repeat (first | (with_reducible first | exact HB.out | apply below_alloc | apply pw_below_drewN | apply below_drew1) | exact HB.out)) hb); clear HO232; clear HO235; clear HO239; clear HB; have HO232 := n0_; have HO235 := n1_; have HO239 := n2_; have HO242 := n3_; have HB := n4_; clear n0_ n1_ n2_ n3_ n4_; (try clear hb); (try clear hb2); (try clear hk); (try clear hi); (try clear ho0); obtain ⟨Ao38, co38, eo38⟩ := Kd.R_slice HO239.out; subst eo38; obtain ⟨Ao39, co39, eo39⟩ := Kd.R_slice HO242.out; subst eo39) | (go_at_call 17; (with_reducible refine (limelightref01_Ints.calls _ _ t237 _ _ t240 true _ ?side1 ?side2 ?side3 ?side4 A14.out).mono ?_); (case side1 => repeat (first | exact (Kd.R_reads' HO239.out).2.2 | (with_reducible refine Kd.C_alloc ?_ _) | (with_reducible refine Kd.C_drewN ?_ _) | (with_reducible refine Kd.C_drew ?_))); (case side2 => exact (Kd.R_reads' HO239.out).2.1); (case side3 => repeat (first | exact (Kd.R_reads' HO242.out).2.2 | (with_reducible refine Kd.C_alloc ?_ _) | (with_reducible refine Kd.C_drewN ?_ _) | (with_reducible refine Kd.C_drew ?_))); (case side4 => exact (Kd.R_reads' HO242.out).2.1); rintro e w40 ⟨rfl, hb⟩; have n0_ := Aside0.mk (Kd.R_below (by (with_reducible repeat (first | apply Kd.R_alloc | apply Kd.R_drewN | apply Kd.R_drew)); exact HO232.out) hb); have n1_ := Aside0.mk (Kd.R_below (by (with_reducible repeat (first | apply Kd.R_alloc | apply Kd.R_drewN | apply Kd.R_drew)); exact HO235.out) hb); have n2_ := Aside0.mk (Kd.R_below (by (with_reducible repeat (first | apply Kd.R_alloc | apply Kd.R_drewN | apply Kd.R_drew)); exact HO239.out) hb); have n3_ := Aside0.mk (Kd.R_below (by (with_reducible repeat (first | apply Kd.R_alloc | apply Kd.R_drewN | apply Kd.R_drew)); exact HO242.out) hb); have n4_ := Aside0.mk (below_step (by repeat (first | (with_reducible first | exact HB.out | apply below_alloc | apply pw_below_drewN | apply below_drew1) | exact HB.out)) hb); clear HO232; clear HO235; clear HO239; clear HO242; clear HB; have HO232 := n0_; have HO235 := n1_; have HO239 := n2_; have HO242 := n3_; have HB := n4_; clear n0_ n1_ n2_ n3_ n4_; (try clear hb); (try clear hb2); (try clear hk); (try clear hi)) | (go_at_call 11; (with_reducible refine (shade_Above.calls k _ _ l0 a1 a2 t244 _ ?side1 ?side2 A16.out).mono ?_); (case side1 => repeat (first | exact (Kd.C_below HR0.out HB.out) | (with_reducible refine Kd.C_alloc ?_ _) | (with_reducible refine Kd.C_drewN ?_ _) | (with_reducible refine Kd.C_drew ?_))); (case side2 => exact HC0.out); rintro e w41 ⟨rfl, hb⟩; have n0_ := Aside0.mk (Kd.R_below (by (with_reducible repeat (first | apply Kd.R_alloc | apply Kd.R_drewN | apply Kd.R_drew)); exact HO232.out) hb); have n1_ := Aside0.mk (Kd.R_below (by (with_reducible repeat (first | apply Kd.R_alloc | apply Kd.R_drewN | apply Kd.R_drew)); exact HO235.out) hb); have n2_ := Aside0.mk (Kd.R_below (by (with_reducible repeat (first | apply Kd.R_alloc | apply Kd.R_drewN | apply Kd.R_drew)); exact HO239.out) hb); have n3_ := Aside0.mk (Kd.R_below (by (with_reducible repeat (first | apply Kd.R_alloc | apply Kd.R_drewN | apply Kd.R_drew)); exact HO242.out) hb); have n4_ := Aside0.mk (below_step (by repeat (first | (with_reducible first | exact HB.out | apply below_alloc | apply pw_below_drewN | apply below_drew1) | exact HB.out)) hb); clear HO232; clear HO235; clear HO239; clear HO242; clear HB; have HO232 := n0_; have HO235 := n1_; have HO239 := n2_; have HO242 := n3_; have HB := n4_; clear n0_ n1_ n2_ n3_ n4_; (try clear hb); (try clear hb2); (try clear hk); (try clear hi)) | (go_at_call 20; (with_reducible refine (limelightref04_Above.calls k _ _ l0 a1 a2 t245 _ ?side1 ?side2 A17.out).mono ?_); (case side1 => repeat (first | exact (Kd.C_below HR0.out HB.out) | (with_reducible refine Kd.C_alloc ?_ _) | (with_reducible refine Kd.C_drewN ?_ _) | (with_reducible refine Kd.C_drew ?_))); (case side2 => exact HC0.out); rintro e w42 ⟨rfl, hb⟩; have n0_ := Aside0.mk (Kd.R_below (by (with_reducible repeat (first | apply Kd.R_alloc | apply Kd.R_drewN | apply Kd.R_drew)); exact HO232.out) hb); have n1_ := Aside0.mk (Kd.R_below (by (with_reducible repeat (first | apply Kd.R_alloc | apply Kd.R_drewN | apply Kd.R_drew)); exact HO235.out) hb); have n2_ := Aside0.mk (Kd.R_below (by (with_reducible repeat (first | apply Kd.R_alloc | apply Kd.R_drewN | apply Kd.R_drew)); exact HO239.out) hb); have n3_ := Aside0.mk (Kd.R_below (by (with_reducible repeat (first | apply Kd.R_alloc | apply Kd.R_drewN | apply Kd.R_drew)); exact HO242.out) hb); have n4_ := Aside0.mk (below_step (by repeat (first | (with_reducible first | exact HB.out | apply below_alloc | apply pw_below_drewN | apply below_drew1) | exact HB.out)) hb); clear HO232; clear HO235; clear HO239; clear HO242; clear HB; have HO232 := n0_; have HO235 := n1_; have HO239 := n2_; have HO242 := n3_; have HB := n4_; clear n0_ n1_ n2_ n3_ n4_; (try clear hb); (try clear hb2); (try clear hk); (try clear hi)) | (go_at_call 15; (with_reducible refine (shade_Connected.calls k _ _ l0 a1 t246 _ ?side1 ?side2 A19.out).mono ?_); (case side1 => repeat (first | exact (Kd.C_below HR0.out HB.out) | (with_reducible refine Kd.C_alloc ?_ _) | (with_reducible refine Kd.C_drewN ?_ _) | (with_reducible refine Kd.C_drew ?_))); (case side2 => exact HC0.out); rintro e w43 ⟨rfl, hb⟩; have n0_ := Aside0.mk (Kd.R_below (by (with_reducible repeat (first | apply Kd.R_alloc | apply Kd.R_drewN | apply Kd.R_drew)); exact HO232.out) hb); have n1_ := Aside0.mk (Kd.R_below (by (with_reducible repeat (first | apply Kd.R_alloc | apply Kd.R_drewN | apply Kd.R_drew)); exact HO235.out) hb); have n2_ := Aside0.mk (Kd.R_below (by (with_reducible repeat (first | apply Kd.R_alloc | apply Kd.R_drewN | apply Kd.R_drew)); exact HO239.out) hb); have n3_ := Aside0.mk (Kd.R_below (by (with_reducible repeat (first | apply Kd.R_alloc | apply Kd.R_drewN | apply Kd.R_drew)); exact HO242.out) hb); have n4_ := Aside0.mk (below_step (by repeat (first | (with_reducible first | exact HB.out | apply below_alloc | apply pw_below_drewN | apply below_drew1) | exact HB.out)) hb); clear HO232; clear HO235; clear HO239; clear HO242; clear HB; have HO232 := n0_; have HO235 := n1_; have HO239 := n2_; have HO242 := n3_; have HB := n4_; clear n0_ n1_ n2_ n3_ n4_; (try clear hb); (try clear hb2); (try clear hk); (try clear hi)) | (go_at_call 21; (with_reducible refine (limelightref04_Connected.calls k _ _ l0 a1 t247 _ ?side1 ?side2 A20.out).mono ?_); (case side1 => repeat (first | exact (Kd.C_below HR0.out HB.out) | (with_reducible refine Kd.C_alloc ?_ _) | (with_reducible refine Kd.C_drewN ?_ _) | (with_reducible refine Kd.C_drew ?_))); (case side2 => exact HC0.out); rintro e w44 ⟨rfl, hb⟩; have n0_ := Aside0.mk (Kd.R_below (by (with_reducible repeat (first | apply Kd.R_alloc | apply Kd.R_drewN | apply Kd.R_drew)); exact HO232.out) hb); have n1_ := Aside0.mk (Kd.R_below (by (with_reducible repeat (first | apply Kd.R_alloc | apply Kd.R_drewN | apply Kd.R_drew)); exact HO235.out) hb); have n2_ := Aside0.mk (Kd.R_below (by (with_reducible repeat (first | apply Kd.R_alloc | apply Kd.R_drewN | apply Kd.R_drew)); exact HO239.out) hb); have n3_ := Aside0.mk (Kd.R_below (by (with_reducible repeat (first | apply Kd.R_alloc | apply Kd.R_drewN | apply Kd.R_drew)); exact HO242.out) hb); have n4_ := Aside0.mk (below_step (by repeat (first | (with_reducible first | exact HB.out | apply below_alloc | apply pw_below_drewN | apply below_drew1) | exact HB.out)) hb); clear HO232; clear HO235; clear HO239; clear HO242; clear HB; have HO232 := n0_; have HO235 := n1_; have HO239 := n2_; have HO242 := n3_; have HB := n4_; clear n0_ n1_ n2_ n3_ n4_; (try clear hb); (try clear hb2); (try clear hk); (try clear hi)) | (go_at_call 12; (with_reducible refine (shade_Retarget.calls _ _ l0 a1 a2 t248 _ ?side1 ?side2 A22.out).mono ?_); (case side1 => repeat (first | exact (Kd.C_below HR0.out HB.out) | (with_reducible refine Kd.C_alloc ?_ _) | (with_reducible refine Kd.C_drewN ?_ _) | (with_reducible refine Kd.C_drew ?_))); (case side2 => exact HC0.out); rintro e w45 ⟨rfl, hb⟩; have n0_ := Aside0.mk (Kd.R_below (by (with_reducible repeat (first | apply Kd.R_alloc | apply Kd.R_drewN | apply Kd.R_drew)); exact HO232.out) hb); have n1_ := Aside0.mk (Kd.R_below (by (with_reducible repeat (first | apply Kd.R_alloc | apply Kd.R_drewN | apply Kd.R_drew)); exact HO235.out) hb); have n2_ := Aside0.mk (Kd.R_below (by (with_reducible repeat (first | apply Kd.R_alloc | apply Kd.R_drewN | apply Kd.R_drew)); exact HO239.out) hb); have n3_ := Aside0.mk (Kd.R_below (by (with_reducible repeat (first | apply Kd.R_alloc | apply Kd.R_drewN | apply Kd.R_drew)); exact HO242.out) hb); have n4_ := Aside0.mk (below_step (by repeat (first | (with_reducible first | exact HB.out | apply below_alloc | apply pw_below_drewN | apply below_drew1) | exact HB.out)) hb); clear HO232; clear HO235; clear HO239; clear HO242; clear HB; have HO232 := n0_; have HO235 := n1_; have HO239 := n2_; have HO242 := n3_; have HB := n4_; clear n0_ n1_ n2_ n3_ n4_; (try clear hb); (try clear hb2); (try clear hk); (try clear hi)) | (go_at_call 22; (with_reducible refine (limelightref04_Retarget.calls k _ _ l0 a1 a2 t249 _ ?side1 ?side2 A23.out).mono ?_); (case side1 => repeat (first | exact (Kd.C_below HR0.out HB.out) | (with_reducible refine Kd.C_alloc ?_ _) | (with_reducible refine Kd.C_drewN ?_ _) | (with_reducible refine Kd.C_drew ?_))); (case side2 => exact HC0.out); rintro e w46 ⟨rfl, hb⟩; have n0_ := Aside0.mk (Kd.R_below (by (with_reducible repeat (first | apply Kd.R_alloc | apply Kd.R_drewN | apply Kd.R_drew)); exact HO232.out) hb); have n1_ := Aside0.mk (Kd.R_below (by (with_reducible repeat (first | apply Kd.R_alloc | apply Kd.R_drewN | apply Kd.R_drew)); exact HO235.out) hb); have n2_ := Aside0.mk (Kd.R_below (by (with_reducible repeat (first | apply Kd.R_alloc | apply Kd.R_drewN | apply Kd.R_drew)); exact HO239.out) hb); have n3_ := Aside0.mk (Kd.R_below (by (with_reducible repeat (first | apply Kd.R_alloc | apply Kd.R_drewN | apply Kd.R_drew)); exact HO242.out) hb); have n4_ := Aside0.mk (below_step (by repeat (first | (with_reducible first | exact HB.out | apply below_alloc | apply pw_below_drewN | apply below_drew1) | exact HB.out)) hb); clear HO232; clear HO235; clear HO239; clear HO242; clear HB; have HO232 := n0_; have HO235 := n1_; have HO239 := n2_; have HO242 := n3_; have HB := n4_; clear n0_ n1_ n2_ n3_ n4_; (try clear hb); (try clear hb2); (try clear hk); (try clear hi)) | (go_at_call 16; (with_reducible refine (shade_Host.calls _ _ l0 a1 t250 _ ?side1 ?side2 A25.out).mono ?_); (case side1 => repeat (first | exact (Kd.C_below HR0.out HB.out) | (with_reducible refine Kd.C_alloc ?_ _) | (with_reducible refine Kd.C_drewN ?_ _) | (with_reducible refine Kd.C_drew ?_))); (case side2 => exact HC0.out); rintro e w47 ⟨rfl, hb⟩; have n0_ := Aside0.mk (Kd.R_below (by (with_reducible repeat (first | apply Kd.R_alloc | apply Kd.R_drewN | apply Kd.R_drew)); exact HO232.out) hb); have n1_ := Aside0.mk (Kd.R_below (by (with_reducible repeat (first | apply Kd.R_alloc | apply Kd.R_drewN | apply Kd.R_drew)); exact HO235.out) hb); have n2_ := Aside0.mk (Kd.R_below (by (with_reducible repeat (first | apply Kd.R_alloc | apply Kd.R_drewN | apply Kd.R_drew)); exact HO239.out) hb); have n3_ := Aside0.mk (Kd.R_below (by (with_reducible repeat (first | apply Kd.R_alloc | apply Kd.R_drewN | apply Kd.R_drew)); exact HO242.out) hb); have n4_ := Aside0.mk (below_step (by repeat (first | (with_reducible first | exact HB.out | apply below_alloc | apply pw_below_drewN | apply below_drew1) | exact HB.out)) hb); clear HO232; clear HO235; clear HO239; clear HO242; clear HB; have HO232 := n0_; have HO235 := n1_; have HO239 := n2_; have HO242 := n3_; have HB := n4_; clear n0_ n1_ n2_ n3_ n4_; (try clear hb); (try clear hb2); (try clear hk); (try clear hi)) | (go_at_call 23; (with_reducible refine (limelightref04_Host.calls k _ _ l0 a1 t251 _ ?side1 ?side2 A26.out).mono ?_); (case side1 => repeat (first | exact (Kd.C_below HR0.out HB.out) | (with_reducible refine Kd.C_alloc ?_ _) | (with_reducible refine Kd.C_drewN ?_ _) | (with_reducible refine Kd.C_drew ?_))); (case side2 => exact HC0.out); rintro e w48 ⟨rfl, hb⟩; have n0_ := Aside0.mk (Kd.R_below (by (with_reducible repeat (first | apply Kd.R_alloc | apply Kd.R_drewN | apply Kd.R_drew)); exact HO232.out) hb); have n1_ := Aside0.mk (Kd.R_below (by (with_reducible repeat (first | apply Kd.R_alloc | apply Kd.R_drewN | apply Kd.R_drew)); exact HO235.out) hb); have n2_ := Aside0.mk (Kd.R_below (by (with_reducible repeat (first | apply Kd.R_alloc | apply Kd.R_drewN | apply Kd.R_drew)); exact HO239.out) hb); have n3_ := Aside0.mk (Kd.R_below (by (with_reducible repeat (first | apply Kd.R_alloc | apply Kd.R_drewN | apply Kd.R_drew)); exact HO242.out) hb); have n4_ := Aside0.mk (below_step (by repeat (first | (with_reducible first | exact HB.out | apply below_alloc | apply pw_below_drewN | apply below_drew1) | exact HB.out)) hb); clear HO232; clear HO235; clear HO239; clear HO242; clear HB; have HO232 := n0_; have HO235 := n1_; have HO239 := n2_; have HO242 := n3_; have HB := n4_; clear n0_ n1_ n2_ n3_ n4_; (try clear hb); (try clear hb2); (try clear hk); (try clear hi)) | (go_at_call 9; (with_reducible refine (limelightlaw04_live.calls k  t252 _ A28.out).mono ?_); rintro e w49 ⟨rfl, hb⟩; have n0_ := Aside0.mk (Kd.R_below (by (with_reducible repeat (first | apply Kd.R_alloc | apply Kd.R_drewN | apply Kd.R_drew)); exact HO232.out) hb); have n1_ := Aside0.mk (Kd.R_below (by (with_reducible repeat (first | apply Kd.R_alloc | apply Kd.R_drewN | apply Kd.R_drew)); exact HO235.out) hb); have n2_ := Aside0.mk (Kd.R_below (by (with_reducible repeat (first | apply Kd.R_alloc | apply Kd.R_drewN | apply Kd.R_drew)); exact HO239.out) hb); have n3_ := Aside0.mk (Kd.R_below (by (with_reducible repeat (first | apply Kd.R_alloc | apply Kd.R_drewN | apply Kd.R_drew)); exact HO242.out) hb); have n4_ := Aside0.mk (below_step (by repeat (first | (with_reducible first | exact HB.out | apply below_alloc | apply pw_below_drewN | apply below_drew1) | exact HB.out)) hb); clear HO232; clear HO235; clear HO239; clear HO242; clear HB; have HO232 := n0_; have HO235 := n1_; have HO239 := n2_; have HO242 := n3_; have HB := n4_; clear n0_ n1_ n2_ n3_ n4_; (try clear hb); (try clear hb2); (try clear hk); (try clear hi)))
                  go_ret
                  exact ⟨by first | rfl | (simp [errW_none, errW_some] <;> rfl) | (simp [*, errW_none, errW_some] <;> rfl), by repeat (first | (with_reducible first | exact HB.out | apply below_alloc | apply pw_below_drewN | apply below_drew1) | exact HB.out)⟩
                · rw [if_neg c27] at H
                  exact absurd H (by simp)
              · rw [if_neg c24] at H
                exact absurd H (by simp)
            · rw [if_neg c21] at H
              exact absurd H (by simp)
          · rw [if_neg c18] at H
            exact absurd H (by simp)
        · replace c15 := Bool.eq_false_iff.mpr c15
          subst c15
          have H1 : (none) = some r := by rw [if_neg (show ¬ (false = true) by decide)] at H; exact H
          clear H
          have H := H1
          clear H1
          exact absurd H (by simp)
      · replace c11 := Bool.eq_false_iff.mpr c11
        subst c11
        have H1 : (none) = some r := by rw [if_neg (show ¬ (false = true) by decide)] at H; exact H
        clear H
        have H := H1
        clear H1
        exact absurd H (by simp)
    · replace c7 := Bool.eq_false_iff.mpr c7
      subst c7
      have H1 : ((shade_Above.f k l0 a1 a2).bind fun t217 => (if t217 = true then (none) else ((shade_Retarget.f l0 a1 a2).bind fun t218 => (if t218 = (-1) then ((limelightref03_Both.f l0 a1 a1).bind fun t219 => (if t219 = true then ((limelightlaw04_live.f k).bind fun t220 => (some t220)) else ((shade_Up.f l0 a1).bind fun t221 => (if (t221.length : Int) = 0 then ((shade_List.f k l0 a1).bind fun t224 => (if (t224.length : Int) = 0 then ((shade_Connected.f k l0 a1).bind fun t227 => (if t227 = true then (none) else ((shade_Host.f l0 a1).bind fun t228 => (if t228 = (-1) then ((limelightlaw04_live.f k).bind fun t229 => (some t229)) else (none))))) else (none))) else (none))))) else (none))))) = some r := by rw [if_neg (show ¬ (false = true) by decide)] at H; exact H
      clear H
      have H := H1
      clear H1
      replace H := Option.bind_eq_some_iff.mp H
      obtain ⟨t217, A500, H⟩ := H
      replace H : (if t217 = true then (none) else ((shade_Retarget.f l0 a1 a2).bind fun t218 => (if t218 = (-1) then ((limelightref03_Both.f l0 a1 a1).bind fun t219 => (if t219 = true then ((limelightlaw04_live.f k).bind fun t220 => (some t220)) else ((shade_Up.f l0 a1).bind fun t221 => (if (t221.length : Int) = 0 then ((shade_List.f k l0 a1).bind fun t224 => (if (t224.length : Int) = 0 then ((shade_Connected.f k l0 a1).bind fun t227 => (if t227 = true then (none) else ((shade_Host.f l0 a1).bind fun t228 => (if t228 = (-1) then ((limelightlaw04_live.f k).bind fun t229 => (some t229)) else (none))))) else (none))) else (none))))) else (none)))) = some r := H
      have A50 := Aside0.mk A500
      clear A500
      by_cases c51 : t217 = true
      · subst c51
        have H1 : (none) = some r := by rw [if_pos rfl] at H; exact H
        clear H
        have H := H1
        clear H1
        exact absurd H (by simp)
      · replace c51 := Bool.eq_false_iff.mpr c51
        subst c51
        have H1 : ((shade_Retarget.f l0 a1 a2).bind fun t218 => (if t218 = (-1) then ((limelightref03_Both.f l0 a1 a1).bind fun t219 => (if t219 = true then ((limelightlaw04_live.f k).bind fun t220 => (some t220)) else ((shade_Up.f l0 a1).bind fun t221 => (if (t221.length : Int) = 0 then ((shade_List.f k l0 a1).bind fun t224 => (if (t224.length : Int) = 0 then ((shade_Connected.f k l0 a1).bind fun t227 => (if t227 = true then (none) else ((shade_Host.f l0 a1).bind fun t228 => (if t228 = (-1) then ((limelightlaw04_live.f k).bind fun t229 => (some t229)) else (none))))) else (none))) else (none))))) else (none))) = some r := by rw [if_neg (show ¬ (false = true) by decide)] at H; exact H
        clear H
        have H := H1
        clear H1
        replace H := Option.bind_eq_some_iff.mp H
        obtain ⟨t218, A520, H⟩ := H
        replace H : (if t218 = (-1) then ((limelightref03_Both.f l0 a1 a1).bind fun t219 => (if t219 = true then ((limelightlaw04_live.f k).bind fun t220 => (some t220)) else ((shade_Up.f l0 a1).bind fun t221 => (if (t221.length : Int) = 0 then ((shade_List.f k l0 a1).bind fun t224 => (if (t224.length : Int) = 0 then ((shade_Connected.f k l0 a1).bind fun t227 => (if t227 = true then (none) else ((shade_Host.f l0 a1).bind fun t228 => (if t228 = (-1) then ((limelightlaw04_live.f k).bind fun t229 => (some t229)) else (none))))) else (none))) else (none))))) else (none)) = some r := H
        have A52 := Aside0.mk A520
        clear A520
        by_cases c53 : t218 = (-1)
        · rw [if_pos c53] at H
          have c53b0 : (t218 == (-1)) = true := beq_iff_eq.mpr c53
          have c53b1 : (t218 != (-1)) = false := bne_eq_false_iff_eq.mpr c53
          clear c53
          replace H := Option.bind_eq_some_iff.mp H
          obtain ⟨t219, A540, H⟩ := H
          replace H : (if t219 = true then ((limelightlaw04_live.f k).bind fun t220 => (some t220)) else ((shade_Up.f l0 a1).bind fun t221 => (if (t221.length : Int) = 0 then ((shade_List.f k l0 a1).bind fun t224 => (if (t224.length : Int) = 0 then ((shade_Connected.f k l0 a1).bind fun t227 => (if t227 = true then (none) else ((shade_Host.f l0 a1).bind fun t228 => (if t228 = (-1) then ((limelightlaw04_live.f k).bind fun t229 => (some t229)) else (none))))) else (none))) else (none)))) = some r := H
          have A54 := Aside0.mk A540
          clear A540
          by_cases c55 : t219 = true
          · subst c55
            have H1 : ((limelightlaw04_live.f k).bind fun t220 => (some t220)) = some r := by rw [if_pos rfl] at H; exact H
            clear H
            have H := H1
            clear H1
            replace H := Option.bind_eq_some_iff.mp H
            obtain ⟨t220, A560, H⟩ := H
            replace H : (some t220) = some r := H
            have A56 := Aside0.mk A560
            clear A560
            obtain rfl := Option.some.inj H
            go_enter Try.func3, Try.ntmps3
            go_wp2_with (first | ((with_reducible refine gate_callee (f := 8) rfl ?_); refine goesL_ (some 8) rfl rfl Try.func8 (by kernel_rfl) rfl #[.slice A0 l0.length c0] rfl (by (try simp only [List.map_toArray, List.map_cons, List.map_nil]); first | done | rfl | (simp only [List.length_drop, List.length_take]; rfl)) ?_; (with_reducible refine (limelightref01_Small.calls _ _ l0 true _ ?side1 ?side2 A4.out).mono ?_); (case side1 => repeat (first | exact HR0.out | (with_reducible refine Kd.C_alloc ?_ _) | (with_reducible refine Kd.C_drewN ?_ _) | (with_reducible refine Kd.C_drew ?_))); (case side2 => exact HC0.out); rintro e w57 ⟨rfl, hb⟩; refine ⟨_, rfl, ?_⟩; have n0_ := Aside0.mk (below_step (by repeat (first | (with_reducible first | exact HB.out | apply below_alloc | apply pw_below_drewN | apply below_drew1) | exact HB.out)) hb); clear HB; have HB := n0_; clear n0_; (try clear hb); (try clear hb2); (try clear hk); (try clear hi)) | ((with_reducible refine gate_callee (f := 10) rfl ?_); refine goesL_ (some 14) rfl rfl Try.func10 (by kernel_rfl) rfl #[.slice A0 l0.length c0, .int .i64 a1, .int .i64 a2] rfl (by (try simp only [List.map_toArray, List.map_cons, List.map_nil]); first | done | rfl | (simp only [List.length_drop, List.length_take]; rfl)) ?_; (with_reducible refine (limelightref03_Both.calls _ _ l0 a1 a2 false _ ?side1 ?side2 A6.out).mono ?_); (case side1 => repeat (first | exact (Kd.C_below HR0.out HB.out) | (with_reducible refine Kd.C_alloc ?_ _) | (with_reducible refine Kd.C_drewN ?_ _) | (with_reducible refine Kd.C_drew ?_))); (case side2 => exact HC0.out); rintro e w58 ⟨rfl, hb⟩; refine ⟨_, rfl, ?_⟩; have n0_ := Aside0.mk (below_step (by repeat (first | (with_reducible first | exact HB.out | apply below_alloc | apply pw_below_drewN | apply below_drew1) | exact HB.out)) hb); clear HB; have HB := n0_; clear n0_; (try clear hb); (try clear hb2); (try clear hk); (try clear hi)) | ((with_reducible refine gate_callee (f := 11) rfl ?_); refine goesL_ (some 19) rfl rfl Try.func11 (by kernel_rfl) rfl #[.slice A0 l0.length c0, .int .i64 a1, .int .i64 a2] rfl (by (try simp only [List.map_toArray, List.map_cons, List.map_nil]); first | done | rfl | (simp only [List.length_drop, List.length_take]; rfl)) ?_; (with_reducible refine (shade_Above.calls k _ _ l0 a1 a2 false _ ?side1 ?side2 A50.out).mono ?_); (case side1 => repeat (first | exact (Kd.C_below HR0.out HB.out) | (with_reducible refine Kd.C_alloc ?_ _) | (with_reducible refine Kd.C_drewN ?_ _) | (with_reducible refine Kd.C_drew ?_))); (case side2 => exact HC0.out); rintro e w59 ⟨rfl, hb⟩; refine ⟨_, rfl, ?_⟩; have n0_ := Aside0.mk (below_step (by repeat (first | (with_reducible first | exact HB.out | apply below_alloc | apply pw_below_drewN | apply below_drew1) | exact HB.out)) hb); clear HB; have HB := n0_; clear n0_; (try clear hb); (try clear hb2); (try clear hk); (try clear hi)) | (go_at_call 12; (with_reducible refine (shade_Retarget.calls _ _ l0 a1 a2 t218 _ ?side1 ?side2 A52.out).mono ?_); (case side1 => repeat (first | exact (Kd.C_below HR0.out HB.out) | (with_reducible refine Kd.C_alloc ?_ _) | (with_reducible refine Kd.C_drewN ?_ _) | (with_reducible refine Kd.C_drew ?_))); (case side2 => exact HC0.out); rintro e w60 ⟨rfl, hb⟩; have n0_ := Aside0.mk (below_step (by repeat (first | (with_reducible first | exact HB.out | apply below_alloc | apply pw_below_drewN | apply below_drew1) | exact HB.out)) hb); clear HB; have HB := n0_; clear n0_; (try clear hb); (try clear hb2); (try clear hk); (try clear hi)) | (go_at_call 10; (with_reducible refine (limelightref03_Both.calls _ _ l0 a1 a1 true _ ?side1 ?side2 A54.out).mono ?_); (case side1 => repeat (first | exact (Kd.C_below HR0.out HB.out) | (with_reducible refine Kd.C_alloc ?_ _) | (with_reducible refine Kd.C_drewN ?_ _) | (with_reducible refine Kd.C_drew ?_))); (case side2 => exact HC0.out); rintro e w61 ⟨rfl, hb⟩; have n0_ := Aside0.mk (below_step (by repeat (first | (with_reducible first | exact HB.out | apply below_alloc | apply pw_below_drewN | apply below_drew1) | exact HB.out)) hb); clear HB; have HB := n0_; clear n0_; (try clear hb); (try clear hb2); (try clear hk); (try clear hi)) | (go_at_call 9; (with_reducible refine (limelightlaw04_live.calls k  t220 _ A56.out).mono ?_); rintro e w62 ⟨rfl, hb⟩; have n0_ := Aside0.mk (below_step (by repeat (first | (with_reducible first | exact HB.out | apply below_alloc | apply pw_below_drewN | apply below_drew1) | exact HB.out)) hb); clear HB; have HB := n0_; clear n0_; (try clear hb); (try clear hb2); (try clear hk); (try clear hi)))
            go_ret
            exact ⟨by first | rfl | (simp [errW_none, errW_some] <;> rfl) | (simp [*, errW_none, errW_some] <;> rfl), by repeat (first | (with_reducible first | exact HB.out | apply below_alloc | apply pw_below_drewN | apply below_drew1) | exact HB.out)⟩
          · replace c55 := Bool.eq_false_iff.mpr c55
            subst c55
            have H1 : ((shade_Up.f l0 a1).bind fun t221 => (if (t221.length : Int) = 0 then ((shade_List.f k l0 a1).bind fun t224 => (if (t224.length : Int) = 0 then ((shade_Connected.f k l0 a1).bind fun t227 => (if t227 = true then (none) else ((shade_Host.f l0 a1).bind fun t228 => (if t228 = (-1) then ((limelightlaw04_live.f k).bind fun t229 => (some t229)) else (none))))) else (none))) else (none))) = some r := by rw [if_neg (show ¬ (false = true) by decide)] at H; exact H
            clear H
            have H := H1
            clear H1
            replace H := Option.bind_eq_some_iff.mp H
            obtain ⟨t221, A630, H⟩ := H
            replace H : (if (t221.length : Int) = 0 then ((shade_List.f k l0 a1).bind fun t224 => (if (t224.length : Int) = 0 then ((shade_Connected.f k l0 a1).bind fun t227 => (if t227 = true then (none) else ((shade_Host.f l0 a1).bind fun t228 => (if t228 = (-1) then ((limelightlaw04_live.f k).bind fun t229 => (some t229)) else (none))))) else (none))) else (none)) = some r := H
            have A63 := Aside0.mk A630
            clear A630
            by_cases c64 : (t221.length : Int) = 0
            · rw [if_pos c64] at H
              have c64b0 : ((t221.length : Int) == 0) = true := beq_iff_eq.mpr c64
              have c64b1 : ((t221.length : Int) != 0) = false := bne_eq_false_iff_eq.mpr c64
              clear c64
              replace H := Option.bind_eq_some_iff.mp H
              obtain ⟨t224, A650, H⟩ := H
              replace H : (if (t224.length : Int) = 0 then ((shade_Connected.f k l0 a1).bind fun t227 => (if t227 = true then (none) else ((shade_Host.f l0 a1).bind fun t228 => (if t228 = (-1) then ((limelightlaw04_live.f k).bind fun t229 => (some t229)) else (none))))) else (none)) = some r := H
              have A65 := Aside0.mk A650
              clear A650
              by_cases c66 : (t224.length : Int) = 0
              · rw [if_pos c66] at H
                have c66b0 : ((t224.length : Int) == 0) = true := beq_iff_eq.mpr c66
                have c66b1 : ((t224.length : Int) != 0) = false := bne_eq_false_iff_eq.mpr c66
                clear c66
                replace H := Option.bind_eq_some_iff.mp H
                obtain ⟨t227, A670, H⟩ := H
                replace H : (if t227 = true then (none) else ((shade_Host.f l0 a1).bind fun t228 => (if t228 = (-1) then ((limelightlaw04_live.f k).bind fun t229 => (some t229)) else (none)))) = some r := H
                have A67 := Aside0.mk A670
                clear A670
                by_cases c68 : t227 = true
                · subst c68
                  have H1 : (none) = some r := by rw [if_pos rfl] at H; exact H
                  clear H
                  have H := H1
                  clear H1
                  exact absurd H (by simp)
                · replace c68 := Bool.eq_false_iff.mpr c68
                  subst c68
                  have H1 : ((shade_Host.f l0 a1).bind fun t228 => (if t228 = (-1) then ((limelightlaw04_live.f k).bind fun t229 => (some t229)) else (none))) = some r := by rw [if_neg (show ¬ (false = true) by decide)] at H; exact H
                  clear H
                  have H := H1
                  clear H1
                  replace H := Option.bind_eq_some_iff.mp H
                  obtain ⟨t228, A690, H⟩ := H
                  replace H : (if t228 = (-1) then ((limelightlaw04_live.f k).bind fun t229 => (some t229)) else (none)) = some r := H
                  have A69 := Aside0.mk A690
                  clear A690
                  by_cases c70 : t228 = (-1)
                  · rw [if_pos c70] at H
                    have c70b0 : (t228 == (-1)) = true := beq_iff_eq.mpr c70
                    have c70b1 : (t228 != (-1)) = false := bne_eq_false_iff_eq.mpr c70
                    clear c70
                    replace H := Option.bind_eq_some_iff.mp H
                    obtain ⟨t229, A710, H⟩ := H
                    replace H : (some t229) = some r := H
                    have A71 := Aside0.mk A710
                    clear A710
                    obtain rfl := Option.some.inj H
                    go_enter Try.func3, Try.ntmps3
                    go_wp2_with (first | ((with_reducible refine gate_callee (f := 8) rfl ?_); refine goesL_ (some 8) rfl rfl Try.func8 (by kernel_rfl) rfl #[.slice A0 l0.length c0] rfl (by (try simp only [List.map_toArray, List.map_cons, List.map_nil]); first | done | rfl | (simp only [List.length_drop, List.length_take]; rfl)) ?_; (with_reducible refine (limelightref01_Small.calls _ _ l0 true _ ?side1 ?side2 A4.out).mono ?_); (case side1 => repeat (first | exact HR0.out | (with_reducible refine Kd.C_alloc ?_ _) | (with_reducible refine Kd.C_drewN ?_ _) | (with_reducible refine Kd.C_drew ?_))); (case side2 => exact HC0.out); rintro e w72 ⟨rfl, hb⟩; refine ⟨_, rfl, ?_⟩; have n0_ := Aside0.mk (below_step (by repeat (first | (with_reducible first | exact HB.out | apply below_alloc | apply pw_below_drewN | apply below_drew1) | exact HB.out)) hb); clear HB; have HB := n0_; clear n0_; (try clear hb); (try clear hb2); (try clear hk); (try clear hi)) | ((with_reducible refine gate_callee (f := 10) rfl ?_); refine goesL_ (some 14) rfl rfl Try.func10 (by kernel_rfl) rfl #[.slice A0 l0.length c0, .int .i64 a1, .int .i64 a2] rfl (by (try simp only [List.map_toArray, List.map_cons, List.map_nil]); first | done | rfl | (simp only [List.length_drop, List.length_take]; rfl)) ?_; (with_reducible refine (limelightref03_Both.calls _ _ l0 a1 a2 false _ ?side1 ?side2 A6.out).mono ?_); (case side1 => repeat (first | exact (Kd.C_below HR0.out HB.out) | (with_reducible refine Kd.C_alloc ?_ _) | (with_reducible refine Kd.C_drewN ?_ _) | (with_reducible refine Kd.C_drew ?_))); (case side2 => exact HC0.out); rintro e w73 ⟨rfl, hb⟩; refine ⟨_, rfl, ?_⟩; have n0_ := Aside0.mk (below_step (by repeat (first | (with_reducible first | exact HB.out | apply below_alloc | apply pw_below_drewN | apply below_drew1) | exact HB.out)) hb); clear HB; have HB := n0_; clear n0_; (try clear hb); (try clear hb2); (try clear hk); (try clear hi)) | ((with_reducible refine gate_callee (f := 11) rfl ?_); refine goesL_ (some 19) rfl rfl Try.func11 (by kernel_rfl) rfl #[.slice A0 l0.length c0, .int .i64 a1, .int .i64 a2] rfl (by (try simp only [List.map_toArray, List.map_cons, List.map_nil]); first | done | rfl | (simp only [List.length_drop, List.length_take]; rfl)) ?_; (with_reducible refine (shade_Above.calls k _ _ l0 a1 a2 false _ ?side1 ?side2 A50.out).mono ?_); (case side1 => repeat (first | exact (Kd.C_below HR0.out HB.out) | (with_reducible refine Kd.C_alloc ?_ _) | (with_reducible refine Kd.C_drewN ?_ _) | (with_reducible refine Kd.C_drew ?_))); (case side2 => exact HC0.out); rintro e w74 ⟨rfl, hb⟩; refine ⟨_, rfl, ?_⟩; have n0_ := Aside0.mk (below_step (by repeat (first | (with_reducible first | exact HB.out | apply below_alloc | apply pw_below_drewN | apply below_drew1) | exact HB.out)) hb); clear HB; have HB := n0_; clear n0_; (try clear hb); (try clear hb2); (try clear hk); (try clear hi)) | (go_at_call 12; (with_reducible refine (shade_Retarget.calls _ _ l0 a1 a2 t218 _ ?side1 ?side2 A52.out).mono ?_); (case side1 => repeat (first | exact (Kd.C_below HR0.out HB.out) | (with_reducible refine Kd.C_alloc ?_ _) | (with_reducible refine Kd.C_drewN ?_ _) | (with_reducible refine Kd.C_drew ?_))); (case side2 => exact HC0.out); rintro e w75 ⟨rfl, hb⟩; have n0_ := Aside0.mk (below_step (by repeat (first | (with_reducible first | exact HB.out | apply below_alloc | apply pw_below_drewN | apply below_drew1) | exact HB.out)) hb); clear HB; have HB := n0_; clear n0_; (try clear hb); (try clear hb2); (try clear hk); (try clear hi)) | (go_at_call 10; (with_reducible refine (limelightref03_Both.calls _ _ l0 a1 a1 false _ ?side1 ?side2 A54.out).mono ?_); (case side1 => repeat (first | exact (Kd.C_below HR0.out HB.out) | (with_reducible refine Kd.C_alloc ?_ _) | (with_reducible refine Kd.C_drewN ?_ _) | (with_reducible refine Kd.C_drew ?_))); (case side2 => exact HC0.out); rintro e w76 ⟨rfl, hb⟩; have n0_ := Aside0.mk (below_step (by repeat (first | (with_reducible first | exact HB.out | apply below_alloc | apply pw_below_drewN | apply below_drew1) | exact HB.out)) hb); clear HB; have HB := n0_; clear n0_; (try clear hb); (try clear hb2); (try clear hk); (try clear hi)) | (go_at_call 13; (with_reducible refine (shade_Up.calls _ _ l0 a1 t221 _ ?side1 ?side2 A63.out).mono ?_); (case side1 => repeat (first | exact (Kd.C_below HR0.out HB.out) | (with_reducible refine Kd.C_alloc ?_ _) | (with_reducible refine Kd.C_drewN ?_ _) | (with_reducible refine Kd.C_drew ?_))); (case side2 => exact HC0.out); rintro e w77 ⟨v222, rfl, ho0, hb⟩; have n0_ := Aside0.mk (Kd.R_lower ho0 (below_size (by repeat (first | (with_reducible first | exact HB.out | apply below_alloc | apply pw_below_drewN | apply below_drew1) | exact HB.out)))); have n1_ := Aside0.mk (below_step (by repeat (first | (with_reducible first | exact HB.out | apply below_alloc | apply pw_below_drewN | apply below_drew1) | exact HB.out)) hb); clear HB; have HO223 := n0_; have HB := n1_; clear n0_ n1_; (try clear hb); (try clear hb2); (try clear hk); (try clear hi); (try clear ho0); obtain ⟨Ao78, co78, eo78⟩ := Kd.R_slice HO223.out; subst eo78) | (go_at_call 14; (with_reducible refine (shade_List.calls k _ _ l0 a1 t224 _ ?side1 ?side2 A65.out).mono ?_); (case side1 => repeat (first | exact (Kd.C_below HR0.out HB.out) | (with_reducible refine Kd.C_alloc ?_ _) | (with_reducible refine Kd.C_drewN ?_ _) | (with_reducible refine Kd.C_drew ?_))); (case side2 => exact HC0.out); rintro e w79 ⟨v225, rfl, ho0, hb⟩; have n0_ := Aside0.mk (Kd.R_elder' (by (with_reducible repeat (first | apply Kd.R_alloc | apply Kd.R_drewN | apply Kd.R_drew)); exact HO223.out) (Kd.R_base ho0) hb); have n1_ := Aside0.mk (Kd.R_lower (Kd.R_new' ho0 (Kd.R_lt (by (with_reducible repeat (first | apply Kd.R_alloc | apply Kd.R_drewN | apply Kd.R_drew)); exact HO223.out))) (below_size (by repeat (first | (with_reducible first | exact HB.out | apply below_alloc | apply pw_below_drewN | apply below_drew1) | exact HB.out)))); have n2_ := Aside0.mk (below_step (by repeat (first | (with_reducible first | exact HB.out | apply below_alloc | apply pw_below_drewN | apply below_drew1) | exact HB.out)) hb); clear HO223; clear HB; have HO223 := n0_; have HO226 := n1_; have HB := n2_; clear n0_ n1_ n2_; (try clear hb); (try clear hb2); (try clear hk); (try clear hi); (try clear ho0); obtain ⟨Ao80, co80, eo80⟩ := Kd.R_slice HO226.out; subst eo80) | (go_at_call 15; (with_reducible refine (shade_Connected.calls k _ _ l0 a1 false _ ?side1 ?side2 A67.out).mono ?_); (case side1 => repeat (first | exact (Kd.C_below HR0.out HB.out) | (with_reducible refine Kd.C_alloc ?_ _) | (with_reducible refine Kd.C_drewN ?_ _) | (with_reducible refine Kd.C_drew ?_))); (case side2 => exact HC0.out); rintro e w81 ⟨rfl, hb⟩; have n0_ := Aside0.mk (Kd.R_below (by (with_reducible repeat (first | apply Kd.R_alloc | apply Kd.R_drewN | apply Kd.R_drew)); exact HO223.out) hb); have n1_ := Aside0.mk (Kd.R_below (by (with_reducible repeat (first | apply Kd.R_alloc | apply Kd.R_drewN | apply Kd.R_drew)); exact HO226.out) hb); have n2_ := Aside0.mk (below_step (by repeat (first | (with_reducible first | exact HB.out | apply below_alloc | apply pw_below_drewN | apply below_drew1) | exact HB.out)) hb); clear HO223; clear HO226; clear HB; have HO223 := n0_; have HO226 := n1_; have HB := n2_; clear n0_ n1_ n2_; (try clear hb); (try clear hb2); (try clear hk); (try clear hi)) | (go_at_call 16; (with_reducible refine (shade_Host.calls _ _ l0 a1 t228 _ ?side1 ?side2 A69.out).mono ?_); (case side1 => repeat (first | exact (Kd.C_below HR0.out HB.out) | (with_reducible refine Kd.C_alloc ?_ _) | (with_reducible refine Kd.C_drewN ?_ _) | (with_reducible refine Kd.C_drew ?_))); (case side2 => exact HC0.out); rintro e w82 ⟨rfl, hb⟩; have n0_ := Aside0.mk (Kd.R_below (by (with_reducible repeat (first | apply Kd.R_alloc | apply Kd.R_drewN | apply Kd.R_drew)); exact HO223.out) hb); have n1_ := Aside0.mk (Kd.R_below (by (with_reducible repeat (first | apply Kd.R_alloc | apply Kd.R_drewN | apply Kd.R_drew)); exact HO226.out) hb); have n2_ := Aside0.mk (below_step (by repeat (first | (with_reducible first | exact HB.out | apply below_alloc | apply pw_below_drewN | apply below_drew1) | exact HB.out)) hb); clear HO223; clear HO226; clear HB; have HO223 := n0_; have HO226 := n1_; have HB := n2_; clear n0_ n1_ n2_; (try clear hb); (try clear hb2); (try clear hk); (try clear hi)) | (go_at_call 9; (with_reducible refine (limelightlaw04_live.calls k  t229 _ A71.out).mono ?_); rintro e w83 ⟨rfl, hb⟩; have n0_ := Aside0.mk (Kd.R_below (by (with_reducible repeat (first | apply Kd.R_alloc | apply Kd.R_drewN | apply Kd.R_drew)); exact HO223.out) hb); have n1_ := Aside0.mk (Kd.R_below (by (with_reducible repeat (first | apply Kd.R_alloc | apply Kd.R_drewN | apply Kd.R_drew)); exact HO226.out) hb); have n2_ := Aside0.mk (below_step (by repeat (first | (with_reducible first | exact HB.out | apply below_alloc | apply pw_below_drewN | apply below_drew1) | exact HB.out)) hb); clear HO223; clear HO226; clear HB; have HO223 := n0_; have HO226 := n1_; have HB := n2_; clear n0_ n1_ n2_; (try clear hb); (try clear hb2); (try clear hk); (try clear hi)))
                    go_ret
                    exact ⟨by first | rfl | (simp [errW_none, errW_some] <;> rfl) | (simp [*, errW_none, errW_some] <;> rfl), by repeat (first | (with_reducible first | exact HB.out | apply below_alloc | apply pw_below_drewN | apply below_drew1) | exact HB.out)⟩
                  · rw [if_neg c70] at H
                    exact absurd H (by simp)
              · rw [if_neg c66] at H
                exact absurd H (by simp)
            · rw [if_neg c64] at H
              exact absurd H (by simp)
        · rw [if_neg c53] at H
          exact absurd H (by simp)
  · replace c5 := Bool.eq_false_iff.mpr c5
    subst c5
    have H1 : ((limelightlaw04_live.f k).bind fun t215 => (some t215)) = some r := by rw [if_neg (show ¬ (false = true) by decide)] at H; exact H
    clear H
    have H := H1
    clear H1
    replace H := Option.bind_eq_some_iff.mp H
    obtain ⟨t215, A840, H⟩ := H
    replace H : (some t215) = some r := H
    have A84 := Aside0.mk A840
    clear A840
    obtain rfl := Option.some.inj H
    go_enter Try.func3, Try.ntmps3
    go_wp2_with (first | ((with_reducible refine gate_callee (f := 8) rfl ?_); refine goesL_ (some 8) rfl rfl Try.func8 (by kernel_rfl) rfl #[.slice A0 l0.length c0] rfl (by (try simp only [List.map_toArray, List.map_cons, List.map_nil]); first | done | rfl | (simp only [List.length_drop, List.length_take]; rfl)) ?_; (with_reducible refine (limelightref01_Small.calls _ _ l0 false _ ?side1 ?side2 A4.out).mono ?_); (case side1 => repeat (first | exact HR0.out | (with_reducible refine Kd.C_alloc ?_ _) | (with_reducible refine Kd.C_drewN ?_ _) | (with_reducible refine Kd.C_drew ?_))); (case side2 => exact HC0.out); rintro e w85 ⟨rfl, hb⟩; refine ⟨_, rfl, ?_⟩; have n0_ := Aside0.mk (below_step (by repeat (first | (with_reducible first | exact HB.out | apply below_alloc | apply pw_below_drewN | apply below_drew1) | exact HB.out)) hb); clear HB; have HB := n0_; clear n0_; (try clear hb); (try clear hb2); (try clear hk); (try clear hi)) | ((with_reducible refine gate_callee (f := 9) rfl ?_); refine goesL_ (some 10) rfl rfl Try.func9 (by kernel_rfl) rfl #[] rfl (by (try simp only [List.map_toArray, List.map_cons, List.map_nil]); first | done | rfl | (simp only [List.length_drop, List.length_take]; rfl)) ?_; (with_reducible refine (limelightlaw04_live.calls k  t215 _ A84.out).mono ?_); rintro e w86 ⟨rfl, hb⟩; refine ⟨_, rfl, ?_⟩; have n0_ := Aside0.mk (below_step (by repeat (first | (with_reducible first | exact HB.out | apply below_alloc | apply pw_below_drewN | apply below_drew1) | exact HB.out)) hb); clear HB; have HB := n0_; clear n0_; (try clear hb); (try clear hb2); (try clear hk); (try clear hi)))
    go_ret
    exact ⟨by first | rfl | (simp [errW_none, errW_some] <;> rfl) | (simp [*, errW_none, errW_some] <;> rfl), by repeat (first | (with_reducible first | exact HB.out | apply below_alloc | apply pw_below_drewN | apply below_drew1) | exact HB.out)⟩

end Go.Proofs.Ythjpokmangbibaa.P
