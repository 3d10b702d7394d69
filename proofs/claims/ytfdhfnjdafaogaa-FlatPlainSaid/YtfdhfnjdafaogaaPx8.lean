-- printed by wip/tools/pp.sh (a patched copy of the print's program), for this claim.
import Derived.Test.YtfdhfnjdafaogaaPx0
import Derived.Test.YtfdhfnjdafaogaaPx1
import Derived.Test.YtfdhfnjdafaogaaME
import Derived.Test.YtfdhfnjdafaogaaMU
namespace Go.Proofs.Ytfdhfnjdafaogaa.P
open Go.RowKit Go.Proofs.YtfdhfnjdafaogaaW.PrintWords Go.Proofs.YtfdhfnjdafaogaaW.PrintLast Go.Proofs.YtfdhfnjdafaogaaW.PrintMore
attribute [local go_sem] max2_int min2_int max_two min_two max_three min_three max_four min_four   -- for this text's walks alone
set_option linter.unusedVariables false
set_option linter.unusedSimpArgs false

/-! ### limelightlaw06_FlatPlain: function 7 -/
mutual
def limelightlaw06_FlatPlain.j0 : Nat → List (S36) → Bool → Option (Bool)
  | 0, _, _ => none
  | k + 1, x0, x12 => if x12 = true then ((limelightlaw06_live.f).bind fun t315 => (some t315)) else (limelightlaw06_FlatPlain.l0 k x0 0)
def limelightlaw06_FlatPlain.l0 : Nat → List (S36) → Int → Option (Bool)
  | 0, _, _ => none
  | k + 1, x0, x3 => if x3 < (x0.length : Int) then (if 0 ≤ x3 then (if ((rd_T36 x0 x3).f0) = 3 then ((limelightlaw06_live.f).bind fun t317 => (some t317)) else (limelightlaw06_FlatPlain.l0 k x0 (wrap64 (x3 + 1)))) else (none)) else (limelightlaw06_FlatPlain.l1 k x0 0)
def limelightlaw06_FlatPlain.l1 : Nat → List (S36) → Int → Option (Bool)
  | 0, _, _ => none
  | k + 1, x0, x4 => if x4 < (x0.length : Int) then ((flat_Parent.f x0 x4).bind fun t318 => (if 0 ≤ x4 then (if t318 = ((rd_T36 x0 x4).f2) then ((flat_Kids.f x0 x4).bind fun t320 => ((limelightref01_Ints.f t320 ((rd_T36 x0 x4).f3)).bind fun t324 => (if t324 = true then ((flat_Up.f x0 x4).bind fun t325 => ((limelightref03_Up.f k x0 x4).bind fun t328 => ((limelightref01_Ints.f t325 t328).bind fun t331 => (if t331 = true then (limelightlaw06_FlatPlain.l1 k x0 (wrap64 (x4 + 1))) else (none))))) else (none)))) else (none)) else (none))) else ((flat_List.f x0).bind fun t332 => ((limelightref03_List.f k x0 0).bind fun t335 => ((limelightref01_Ints.f t332 t335).bind fun t338 => (if t338 = true then ((limelightlaw06_live.f).bind fun t339 => (some t339)) else (none)))))
end
def limelightlaw06_FlatPlain.f (k : Nat) (l0 : List (S36)) : Option (Bool) := (limelightref01_Few.f l0).bind fun t313 => (if t313 = true then ((limelightref01_May.f l0).bind fun t314 => (limelightlaw06_FlatPlain.j0 k l0 (!t314))) else (limelightlaw06_FlatPlain.j0 k l0 true))
theorem limelightlaw06_FlatPlain.mono_l : ∀ k, (∀ y0 y1, LeO (limelightlaw06_FlatPlain.j0 k y0 y1) (limelightlaw06_FlatPlain.j0 (k + 1) y0 y1)) ∧ (∀ y0 y1, LeO (limelightlaw06_FlatPlain.l0 k y0 y1) (limelightlaw06_FlatPlain.l0 (k + 1) y0 y1)) ∧ (∀ y0 y1, LeO (limelightlaw06_FlatPlain.l1 k y0 y1) (limelightlaw06_FlatPlain.l1 (k + 1) y0 y1))
  | 0 => ⟨fun _ _ r h => by simp [limelightlaw06_FlatPlain.j0] at h, fun _ _ r h => by simp [limelightlaw06_FlatPlain.l0] at h, fun _ _ r h => by simp [limelightlaw06_FlatPlain.l1] at h⟩
  | k + 1 => by
    obtain ⟨ih0, ih1, ih2⟩ := limelightlaw06_FlatPlain.mono_l k
    refine ⟨?_, ?_, ?_⟩
    · intro y0 y1
      unfold limelightlaw06_FlatPlain.j0
      repeat' first
      | (with_reducible exact ih0 _ _)
      | (with_reducible exact ih1 _ _)
      | (with_reducible exact ih2 _ _)
      | (with_reducible exact limelightref03_List.mono _ _ _)
      | (with_reducible exact limelightref03_Up.mono _ _ _)
      | (with_reducible exact LeO.refl _)
      | (with_reducible exact LeO.none _)
      | (with_reducible refine LeO.ite ?_ ?_)
      | (with_reducible refine LeO.bind ?_ (fun _ => ?_))
      | exact ih0 _ _
      | exact ih1 _ _
      | exact ih2 _ _
      | exact limelightref03_List.mono _ _ _
      | exact limelightref03_Up.mono _ _ _
      | exact LeO.none _
      | refine LeO.ite ?_ ?_
      | refine LeO.bind ?_ (fun _ => ?_)
    · intro y0 y1
      unfold limelightlaw06_FlatPlain.l0
      repeat' first
      | (with_reducible exact ih0 _ _)
      | (with_reducible exact ih1 _ _)
      | (with_reducible exact ih2 _ _)
      | (with_reducible exact limelightref03_List.mono _ _ _)
      | (with_reducible exact limelightref03_Up.mono _ _ _)
      | (with_reducible exact LeO.refl _)
      | (with_reducible exact LeO.none _)
      | (with_reducible refine LeO.ite ?_ ?_)
      | (with_reducible refine LeO.bind ?_ (fun _ => ?_))
      | exact ih0 _ _
      | exact ih1 _ _
      | exact ih2 _ _
      | exact limelightref03_List.mono _ _ _
      | exact limelightref03_Up.mono _ _ _
      | exact LeO.none _
      | refine LeO.ite ?_ ?_
      | refine LeO.bind ?_ (fun _ => ?_)
    · intro y0 y1
      unfold limelightlaw06_FlatPlain.l1
      repeat' first
      | (with_reducible exact ih0 _ _)
      | (with_reducible exact ih1 _ _)
      | (with_reducible exact ih2 _ _)
      | (with_reducible exact limelightref03_List.mono _ _ _)
      | (with_reducible exact limelightref03_Up.mono _ _ _)
      | (with_reducible exact LeO.refl _)
      | (with_reducible exact LeO.none _)
      | (with_reducible refine LeO.ite ?_ ?_)
      | (with_reducible refine LeO.bind ?_ (fun _ => ?_))
      | exact ih0 _ _
      | exact ih1 _ _
      | exact ih2 _ _
      | exact limelightref03_List.mono _ _ _
      | exact limelightref03_Up.mono _ _ _
      | exact LeO.none _
      | refine LeO.ite ?_ ?_
      | refine LeO.bind ?_ (fun _ => ?_)
theorem limelightlaw06_FlatPlain.mono : ∀ a0 k, LeO (limelightlaw06_FlatPlain.f k a0) (limelightlaw06_FlatPlain.f (k + 1) a0) := by
  intro a0 k
  obtain ⟨ih0, ih1, ih2⟩ := limelightlaw06_FlatPlain.mono_l k
  unfold limelightlaw06_FlatPlain.f
  repeat' first
      | (with_reducible exact ih0 _ _)
      | (with_reducible exact ih1 _ _)
      | (with_reducible exact ih2 _ _)
      | (with_reducible exact limelightref03_List.mono _ _ _)
      | (with_reducible exact limelightref03_Up.mono _ _ _)
      | (with_reducible exact LeO.refl _)
      | (with_reducible exact LeO.none _)
      | (with_reducible refine LeO.ite ?_ ?_)
      | (with_reducible refine LeO.bind ?_ (fun _ => ?_))
      | exact ih0 _ _
      | exact ih1 _ _
      | exact ih2 _ _
      | exact limelightref03_List.mono _ _ _
      | exact limelightref03_Up.mono _ _ _
      | exact LeO.none _
      | refine LeO.ite ?_ ?_
      | refine LeO.bind ?_ (fun _ => ?_)
def limelightlaw06_FlatPlain.T11 : Bool × List (List Nat × List Nat) := (true, [([], []), ([], []), ([0, 1], [0, 1]), ([], []), ([], []), ([3, 4], [3, 4]), ([5], [5]), ([6], [6]), ([2, 7], [2, 7]), ([8, 2], [8]), ([9], [9]), ([9], [9]), ([10, 11, 9, 9], [9, 10, 11]), ([9], [9]), ([9], [9]), ([13, 14, 9], [9, 13, 14]), ([15, 9], [9, 15]), ([16, 9], [9, 16]), ([12, 17, 12, 9], [9, 12, 17]), ([18, 9], [9, 18]), ([9, 19], [9, 19]), ([20, 18], [20]), ([21], [21]), ([21], [21]), ([22, 23, 21, 21], [21, 22, 23]), ([21], [21]), ([21], [21]), ([25, 26, 24, 21], [21, 25, 26]), ([24, 27, 27, 21], [21, 24, 27]), ([28, 21], [21, 28]), ([21, 29], [21, 29])])
def limelightlaw06_FlatPlain.B11 : List Nat := [0, 0, 3, 0, 0, 24, 56, 120, 255, 511, 1023, 1023, 4095, 1023, 1023, 25599, 58367, 123903, 262143, 524287, 1048575, 2097151, 4194303, 4194303, 16777215, 4194303, 4194303, 134217727, 268435455, 536870911, 1073741823]
theorem limelightlaw06_FlatPlain.tab11 : rtab .any (opsOf Try.f7 11) = limelightlaw06_FlatPlain.T11 := by kernel_rfl
theorem limelightlaw06_FlatPlain.bits11 : waitsOk limelightlaw06_FlatPlain.T11.2 limelightlaw06_FlatPlain.B11 = true := by kernel_rfl
set_option maxHeartbeats 8000000 in
set_option maxRecDepth 100000 in
theorem limelightlaw06_FlatPlain.calls (k : Nat) (A0 : Option Addr) (c0 : Nat) (l0 : List (S36)) (r : Bool) (w : World) (hr0 : Kd.C k36 w A0 l0.length l0) (hc0 : l0.length ≤ c0) (h : limelightlaw06_FlatPlain.f k l0 = some r) :
    Calls Try.prog 7 #[.slice A0 l0.length c0] w fun e w' => e = .returned (.bool r) ∧ Below w.heap.size w w' := by
  have HR0 := Aside0.mk hr0
  have HC0 := Aside0.mk hc0
  clear hr0 hc0
  have HB := Aside0.mk (Below.refl w.heap.size w)
  have H : ((limelightref01_Few.f l0).bind fun t313 => (if t313 = true then ((limelightref01_May.f l0).bind fun t314 => (limelightlaw06_FlatPlain.j0 k l0 (!t314))) else (limelightlaw06_FlatPlain.j0 k l0 true))) = some r := h
  clear h
  have HC2 := Aside0.mk H
  clear H
  go_enter Try.func7, Try.ntmps7
  go_upto_region 1 with (fail)
  go_cut [12] (fun v12 wc => ∃ (kq : Nat) (x12_1 : Bool), v12 = .bool x12_1 ∧ Aside0 (limelightlaw06_FlatPlain.j0 kq l0 x12_1 = some r) ∧ Aside0 (kq ≤ k) ∧ Aside0 (Below w.heap.size w wc))
  case first =>
    have H := HC2.out
    clear HC2
    replace H := Option.bind_eq_some_iff.mp H
    obtain ⟨t313, A30, H⟩ := H
    replace H : (if t313 = true then ((limelightref01_May.f l0).bind fun t314 => (limelightlaw06_FlatPlain.j0 k l0 (!t314))) else (limelightlaw06_FlatPlain.j0 k l0 true)) = some r := H
    have A3 := Aside0.mk A30
    clear A30
    by_cases c4 : t313 = true
    · subst c4
      have H1 : ((limelightref01_May.f l0).bind fun t314 => (limelightlaw06_FlatPlain.j0 k l0 (!t314))) = some r := by rw [if_pos rfl] at H; exact H
      clear H
      have H := H1
      clear H1
      replace H := Option.bind_eq_some_iff.mp H
      obtain ⟨t314, A50, H⟩ := H
      replace H : (limelightlaw06_FlatPlain.j0 k l0 (!t314)) = some r := H
      have A5 := Aside0.mk A50
      clear A50
      have H' := Aside0.mk H
      clear H
      go_wp2_with (first | ((with_reducible refine gate_callee (f := 9) rfl ?_); refine goesL_ (some 6) rfl rfl Try.func9 (by kernel_rfl) rfl #[.slice A0 l0.length c0] rfl (by (try simp only [List.map_toArray, List.map_cons, List.map_nil]); first | done | rfl | (simp only [List.length_drop, List.length_take]; rfl)) ?_; (with_reducible refine (limelightref01_Few.calls _ _ l0 true _ ?side1 ?side2 A3.out).mono ?_); (case side1 => repeat (first | exact (Kd.C_below HR0.out HB.out) | (with_reducible refine Kd.C_alloc ?_ _) | (with_reducible refine Kd.C_drewN ?_ _) | (with_reducible refine Kd.C_drew ?_))); (case side2 => exact HC0.out); rintro e w6 ⟨rfl, hb⟩; refine ⟨_, rfl, ?_⟩; have n0_ := Aside0.mk (below_step (by repeat (first | (with_reducible first | exact HB.out | apply below_alloc | apply pw_below_drewN | apply below_drew1) | exact HB.out)) hb); clear HB; have HB := n0_; clear n0_; (try clear hb); (try clear hb2); (try clear hk); (try clear hi)) | (go_at_call 23; (with_reducible refine (limelightref01_May.calls _ _ l0 t314 _ ?side1 ?side2 A5.out).mono ?_); (case side1 => repeat (first | exact (Kd.C_below HR0.out HB.out) | (with_reducible refine Kd.C_alloc ?_ _) | (with_reducible refine Kd.C_drewN ?_ _) | (with_reducible refine Kd.C_drew ?_))); (case side2 => exact HC0.out); rintro e w7 ⟨rfl, hb⟩; have n0_ := Aside0.mk (below_step (by repeat (first | (with_reducible first | exact HB.out | apply below_alloc | apply pw_below_drewN | apply below_drew1) | exact HB.out)) hb); clear HB; have HB := n0_; clear n0_; (try clear hb); (try clear hb2); (try clear hk); (try clear hi)))
      go_meet
      case rel => exact ⟨_, (!t314), (by first | rfl | (simp; done) | (simp [*]; done)), H', ⟨by first | omega | exact Nat.le_refl _⟩, ⟨by repeat (first | (with_reducible first | exact HB.out | apply below_alloc | apply pw_below_drewN | apply below_drew1) | exact HB.out)⟩⟩
    · replace c4 := Bool.eq_false_iff.mpr c4
      subst c4
      have H1 : (limelightlaw06_FlatPlain.j0 k l0 true) = some r := by rw [if_neg (show ¬ (false = true) by decide)] at H; exact H
      clear H
      have H := H1
      clear H1
      have H' := Aside0.mk H
      clear H
      go_wp2_with (first | ((with_reducible refine gate_callee (f := 9) rfl ?_); refine goesL_ (some 6) rfl rfl Try.func9 (by kernel_rfl) rfl #[.slice A0 l0.length c0] rfl (by (try simp only [List.map_toArray, List.map_cons, List.map_nil]); first | done | rfl | (simp only [List.length_drop, List.length_take]; rfl)) ?_; (with_reducible refine (limelightref01_Few.calls _ _ l0 false _ ?side1 ?side2 A3.out).mono ?_); (case side1 => repeat (first | exact (Kd.C_below HR0.out HB.out) | (with_reducible refine Kd.C_alloc ?_ _) | (with_reducible refine Kd.C_drewN ?_ _) | (with_reducible refine Kd.C_drew ?_))); (case side2 => exact HC0.out); rintro e w8 ⟨rfl, hb⟩; refine ⟨_, rfl, ?_⟩; have n0_ := Aside0.mk (below_step (by repeat (first | (with_reducible first | exact HB.out | apply below_alloc | apply pw_below_drewN | apply below_drew1) | exact HB.out)) hb); clear HB; have HB := n0_; clear n0_; (try clear hb); (try clear hb2); (try clear hk); (try clear hi)))
      go_meet
      case rel => exact ⟨_, (true), (by first | rfl | (simp; done) | (simp [*]; done)), H', ⟨by first | omega | exact Nat.le_refl _⟩, ⟨by repeat (first | (with_reducible first | exact HB.out | apply below_alloc | apply pw_below_drewN | apply below_drew1) | exact HB.out)⟩⟩
  case rest =>
    clear HC2
    try clear p2
    try clear c4
    try clear c7
    obtain ⟨kq, x12_1, rfl, HA, HJ1, HB⟩ := hcut
    cases kq with
    | zero => exact absurd HA.out (by simp [limelightlaw06_FlatPlain.j0])
    | succ kj1 =>
      have H := HA.out
      clear HA
      simp only [limelightlaw06_FlatPlain.j0] at H
      by_cases c9 : x12_1 = true
      · subst c9
        have H1 : ((limelightlaw06_live.f).bind fun t315 => (some t315)) = some r := by rw [if_pos rfl] at H; exact H
        clear H
        have H := H1
        clear H1
        replace H := Option.bind_eq_some_iff.mp H
        obtain ⟨t315, A100, H⟩ := H
        replace H : (some t315) = some r := H
        have A10 := Aside0.mk A100
        clear A100
        obtain rfl := Option.some.inj H
        go_wp2_with (first | ((with_reducible refine gate_callee (f := 10) rfl ?_); refine goesL_ (some 13) rfl rfl Try.func10 (by kernel_rfl) rfl #[] rfl (by (try simp only [List.map_toArray, List.map_cons, List.map_nil]); first | done | rfl | (simp only [List.length_drop, List.length_take]; rfl)) ?_; (with_reducible refine (limelightlaw06_live.calls  t315 _ A10.out).mono ?_); rintro e w11 ⟨rfl, hb⟩; refine ⟨_, rfl, ?_⟩; have n0_ := Aside0.mk (below_step (by repeat (first | (with_reducible first | exact HB.out | apply below_alloc | apply pw_below_drewN | apply below_drew1) | exact HB.out)) hb); clear HB; have HB := n0_; clear n0_; (try clear hb); (try clear hb2); (try clear hk); (try clear hi)))
        go_ret
        exact ⟨by first | rfl | (simp [errW_none, errW_some] <;> rfl) | (simp [*, errW_none, errW_some] <;> rfl), by repeat (first | (with_reducible first | exact HB.out | apply below_alloc | apply pw_below_drewN | apply below_drew1) | exact HB.out)⟩
      · replace c9 := Bool.eq_false_iff.mpr c9
        subst c9
        have H1 : (limelightlaw06_FlatPlain.l0 kj1 l0 0) = some r := by rw [if_neg (show ¬ (false = true) by decide)] at H; exact H
        clear H
        have H := H1
        clear H1
        have H' := Aside0.mk H
        clear H
        go_wp2
        go_loopg [3] kj1 (fun kq v3 w' => ∃ (x3_2 : Int), v3 = .int .i64 x3_2 ∧ Aside0 (limelightlaw06_FlatPlain.l0 kq l0 x3_2 = some r) ∧ Aside0 (kq ≤ kj1) ∧ Aside0 (Below w.heap.size w w'))
        case atStart => exact ⟨(0), (by first | rfl | (simp; done) | (simp [*]; done)), H', ⟨Nat.le_refl _⟩, ⟨by repeat (first | (with_reducible first | exact HB.out | apply below_alloc | apply pw_below_drewN | apply below_drew1) | exact HB.out)⟩⟩
        case round =>
          clear H'
          try clear c1
          try clear p2
          try clear c4
          try clear c7
          try clear c9
          try clear c10
          try clear p2
          obtain ⟨x3_2, rfl, HA, HK2, HB⟩ := hrel
          cases gk with
          | zero => exact absurd HA.out (by simp [limelightlaw06_FlatPlain.l0])
          | succ k2 =>
            have H := HA.out
            clear HA
            simp only [limelightlaw06_FlatPlain.l0] at H
            by_cases c12 : x3_2 < (l0.length : Int)
            · rw [if_pos c12] at H
              have c12b0 : decide (x3_2 < (l0.length : Int)) = true := decide_eq_true c12
              clear c12
              by_cases c13 : 0 ≤ x3_2
              · rw [if_pos c13] at H
                have c13b0 : decide (0 ≤ x3_2) = true := decide_eq_true c13
                clear c13
                by_cases c14 : ((rd_T36 l0 x3_2).f0) = 3
                · rw [if_pos c14] at H
                  have c14b0 : (((rd_T36 l0 x3_2).f0) == 3) = true := beq_iff_eq.mpr c14
                  have c14b1 : (((rd_T36 l0 x3_2).f0) != 3) = false := bne_eq_false_iff_eq.mpr c14
                  clear c14
                  replace H := Option.bind_eq_some_iff.mp H
                  obtain ⟨t317, A150, H⟩ := H
                  replace H : (some t317) = some r := H
                  have A15 := Aside0.mk A150
                  clear A150
                  obtain rfl := Option.some.inj H
                  have p316 : 0 ≤ (x3_2 : Int) := of_decide_eq_true (by first | (with_reducible assumption) | assumption)
                  have q316 : x3_2 < (l0.length : Int) := of_decide_eq_true (by first | (with_reducible assumption) | assumption)
                  obtain ⟨ad316, A316_3, c316_3, A316_6, c316_6, e316, hx316_0, hx316_1, hx316_2, hx316_3, hx316_4, hx316_5, hx316_6, hl316_3, hi316_3, hl316_6, hi316_6⟩ := at_T36 HR0.out x3_2 p316 q316
                  cases e316
                  replace hx316_0 := (HB.out.cell (World.block_lt_of_cell? w _ hx316_0)).trans hx316_0
                  replace hx316_1 := (HB.out.cell (World.block_lt_of_cell? w _ hx316_1)).trans hx316_1
                  replace hx316_2 := (HB.out.cell (World.block_lt_of_cell? w _ hx316_2)).trans hx316_2
                  replace hx316_3 := (HB.out.cell (World.block_lt_of_cell? w _ hx316_3)).trans hx316_3
                  replace hx316_4 := (HB.out.cell (World.block_lt_of_cell? w _ hx316_4)).trans hx316_4
                  replace hx316_5 := (HB.out.cell (World.block_lt_of_cell? w _ hx316_5)).trans hx316_5
                  replace hx316_6 := (HB.out.cell (World.block_lt_of_cell? w _ hx316_6)).trans hx316_6
                  have HR316_3 := Aside0.mk hi316_3
                  have HC316_3 := Aside0.mk hl316_3
                  clear hi316_3 hl316_3
                  have HR316_6 := Aside0.mk hi316_6
                  have HC316_6 := Aside0.mk hl316_6
                  clear hi316_6 hl316_6
                  replace p316 := eq_true p316
                  replace q316 := eq_true q316
                  go_wp2_with (first | ((with_reducible refine gate_callee (f := 10) rfl ?_); refine goesL_ (some 26) rfl rfl Try.func10 (by kernel_rfl) rfl #[] rfl (by (try simp only [List.map_toArray, List.map_cons, List.map_nil]); first | done | rfl | (simp only [List.length_drop, List.length_take]; rfl)) ?_; (with_reducible refine (limelightlaw06_live.calls  t317 _ A15.out).mono ?_); rintro e w16 ⟨rfl, hb⟩; refine ⟨_, rfl, ?_⟩; have n0_ := Aside0.mk (below_step (by repeat (first | (with_reducible first | exact HB.out | apply below_alloc | apply pw_below_drewN | apply below_drew1) | exact HB.out)) hb); clear HB; have HB := n0_; clear n0_; (try clear hb); (try clear hb2); (try clear hk); (try clear hi)))
                  go_ret
                  exact ⟨by first | rfl | (simp [errW_none, errW_some] <;> rfl) | (simp [*, errW_none, errW_some] <;> rfl), by repeat (first | (with_reducible first | exact HB.out | apply below_alloc | apply pw_below_drewN | apply below_drew1) | exact HB.out)⟩
                · rw [if_neg c14] at H
                  have c14b0 : (((rd_T36 l0 x3_2).f0) == 3) = false := beq_eq_false_iff_ne.mpr c14
                  have c14b1 : (((rd_T36 l0 x3_2).f0) != 3) = true := bne_iff_ne.mpr c14
                  have H' := Aside0.mk H
                  clear H
                  have p316 : 0 ≤ (x3_2 : Int) := of_decide_eq_true (by first | (with_reducible assumption) | assumption)
                  have q316 : x3_2 < (l0.length : Int) := of_decide_eq_true (by first | (with_reducible assumption) | assumption)
                  obtain ⟨ad316, A316_3, c316_3, A316_6, c316_6, e316, hx316_0, hx316_1, hx316_2, hx316_3, hx316_4, hx316_5, hx316_6, hl316_3, hi316_3, hl316_6, hi316_6⟩ := at_T36 HR0.out x3_2 p316 q316
                  cases e316
                  replace hx316_0 := (HB.out.cell (World.block_lt_of_cell? w _ hx316_0)).trans hx316_0
                  replace hx316_1 := (HB.out.cell (World.block_lt_of_cell? w _ hx316_1)).trans hx316_1
                  replace hx316_2 := (HB.out.cell (World.block_lt_of_cell? w _ hx316_2)).trans hx316_2
                  replace hx316_3 := (HB.out.cell (World.block_lt_of_cell? w _ hx316_3)).trans hx316_3
                  replace hx316_4 := (HB.out.cell (World.block_lt_of_cell? w _ hx316_4)).trans hx316_4
                  replace hx316_5 := (HB.out.cell (World.block_lt_of_cell? w _ hx316_5)).trans hx316_5
                  replace hx316_6 := (HB.out.cell (World.block_lt_of_cell? w _ hx316_6)).trans hx316_6
                  have HR316_3 := Aside0.mk hi316_3
                  have HC316_3 := Aside0.mk hl316_3
                  clear hi316_3 hl316_3
                  have HR316_6 := Aside0.mk hi316_6
                  have HC316_6 := Aside0.mk hl316_6
                  clear hi316_6 hl316_6
                  replace p316 := eq_true p316
                  replace q316 := eq_true q316
                  go_wp2
                  go_roundg k2
                  case measure => have := HJ1.out; have := HK2.out; omega
                  case rel => exact ⟨(wrap64 (x3_2 + 1)), (by first | rfl | (simp; done) | (simp [*]; done)), H', ⟨by have := HJ1.out; have := HK2.out; omega⟩, ⟨by repeat (first | (with_reducible first | exact HB.out | apply below_alloc | apply pw_below_drewN | apply below_drew1) | exact HB.out)⟩⟩
              · rw [if_neg c13] at H
                exact absurd H (by simp)
            · rw [if_neg c12] at H
              have c12b0 : decide (x3_2 < (l0.length : Int)) = false := decide_eq_false c12
              clear c12
              have H' := Aside0.mk H
              clear H
              go_wp2
              go_loopg [4] k2 (fun kq v4 w' => ∃ (x4_3 : Int), v4 = .int .i64 x4_3 ∧ Aside0 (limelightlaw06_FlatPlain.l1 kq l0 x4_3 = some r) ∧ Aside0 (kq ≤ k2) ∧ Aside0 (Below w.heap.size w w'))
              case atStart => exact ⟨(0), (by first | rfl | (simp; done) | (simp [*]; done)), H', ⟨Nat.le_refl _⟩, ⟨by repeat (first | (with_reducible first | exact HB.out | apply below_alloc | apply pw_below_drewN | apply below_drew1) | exact HB.out)⟩⟩
              case round =>
                clear H'
                try clear c1
                try clear p2
                try clear c3
                try clear p3
                try clear q3
                try clear hx3
                try clear c4
                try clear p6
                try clear c7
                try clear c9
                try clear c10
                try clear c12
                try clear c12b0
                try clear c13
                try clear c13b0
                try clear c14
                try clear c14b0
                try clear c14b1
                try clear hx316_0
                try clear hx316_1
                try clear hx316_2
                try clear hx316_3
                try clear hx316_4
                try clear hx316_5
                try clear hx316_6
                try clear p2
                try clear p316
                try clear q316
                obtain ⟨x4_3, rfl, HA, HK3, HB⟩ := hrel
                cases gk with
                | zero => exact absurd HA.out (by simp [limelightlaw06_FlatPlain.l1])
                | succ k3 =>
                  have H := HA.out
                  clear HA
                  simp only [limelightlaw06_FlatPlain.l1] at H
                  by_cases c17 : x4_3 < (l0.length : Int)
                  · rw [if_pos c17] at H
                    have c17b0 : decide (x4_3 < (l0.length : Int)) = true := decide_eq_true c17
                    clear c17
                    replace H := Option.bind_eq_some_iff.mp H
                    obtain ⟨t318, A180, H⟩ := H
                    replace H : (if 0 ≤ x4_3 then (if t318 = ((rd_T36 l0 x4_3).f2) then ((flat_Kids.f l0 x4_3).bind fun t320 => ((limelightref01_Ints.f t320 ((rd_T36 l0 x4_3).f3)).bind fun t324 => (if t324 = true then ((flat_Up.f l0 x4_3).bind fun t325 => ((limelightref03_Up.f k3 l0 x4_3).bind fun t328 => ((limelightref01_Ints.f t325 t328).bind fun t331 => (if t331 = true then (limelightlaw06_FlatPlain.l1 k3 l0 (wrap64 (x4_3 + 1))) else (none))))) else (none)))) else (none)) else (none)) = some r := H
                    have A18 := Aside0.mk A180
                    clear A180
                    by_cases c19 : 0 ≤ x4_3
                    · rw [if_pos c19] at H
                      have c19b0 : decide (0 ≤ x4_3) = true := decide_eq_true c19
                      clear c19
                      by_cases c20 : t318 = ((rd_T36 l0 x4_3).f2)
                      · rw [if_pos c20] at H
                        have c20b0 : (t318 == ((rd_T36 l0 x4_3).f2)) = true := beq_iff_eq.mpr c20
                        have c20b1 : (t318 != ((rd_T36 l0 x4_3).f2)) = false := bne_eq_false_iff_eq.mpr c20
                        clear c20
                        replace H := Option.bind_eq_some_iff.mp H
                        obtain ⟨t320, A210, H⟩ := H
                        replace H : ((limelightref01_Ints.f t320 ((rd_T36 l0 x4_3).f3)).bind fun t324 => (if t324 = true then ((flat_Up.f l0 x4_3).bind fun t325 => ((limelightref03_Up.f k3 l0 x4_3).bind fun t328 => ((limelightref01_Ints.f t325 t328).bind fun t331 => (if t331 = true then (limelightlaw06_FlatPlain.l1 k3 l0 (wrap64 (x4_3 + 1))) else (none))))) else (none))) = some r := H
                        have A21 := Aside0.mk A210
                        clear A210
                        replace H := Option.bind_eq_some_iff.mp H
                        obtain ⟨t324, A220, H⟩ := H
                        replace H : (if t324 = true then ((flat_Up.f l0 x4_3).bind fun t325 => ((limelightref03_Up.f k3 l0 x4_3).bind fun t328 => ((limelightref01_Ints.f t325 t328).bind fun t331 => (if t331 = true then (limelightlaw06_FlatPlain.l1 k3 l0 (wrap64 (x4_3 + 1))) else (none))))) else (none)) = some r := H
                        have A22 := Aside0.mk A220
                        clear A220
                        by_cases c23 : t324 = true
                        · subst c23
                          have H1 : ((flat_Up.f l0 x4_3).bind fun t325 => ((limelightref03_Up.f k3 l0 x4_3).bind fun t328 => ((limelightref01_Ints.f t325 t328).bind fun t331 => (if t331 = true then (limelightlaw06_FlatPlain.l1 k3 l0 (wrap64 (x4_3 + 1))) else (none))))) = some r := by rw [if_pos rfl] at H; exact H
                          clear H
                          have H := H1
                          clear H1
                          replace H := Option.bind_eq_some_iff.mp H
                          obtain ⟨t325, A240, H⟩ := H
                          replace H : ((limelightref03_Up.f k3 l0 x4_3).bind fun t328 => ((limelightref01_Ints.f t325 t328).bind fun t331 => (if t331 = true then (limelightlaw06_FlatPlain.l1 k3 l0 (wrap64 (x4_3 + 1))) else (none)))) = some r := H
                          have A24 := Aside0.mk A240
                          clear A240
                          replace H := Option.bind_eq_some_iff.mp H
                          obtain ⟨t328, A250, H⟩ := H
                          replace H : ((limelightref01_Ints.f t325 t328).bind fun t331 => (if t331 = true then (limelightlaw06_FlatPlain.l1 k3 l0 (wrap64 (x4_3 + 1))) else (none))) = some r := H
                          have A25 := Aside0.mk A250
                          clear A250
                          replace H := Option.bind_eq_some_iff.mp H
                          obtain ⟨t331, A260, H⟩ := H
                          replace H : (if t331 = true then (limelightlaw06_FlatPlain.l1 k3 l0 (wrap64 (x4_3 + 1))) else (none)) = some r := H
                          have A26 := Aside0.mk A260
                          clear A260
                          by_cases c27 : t331 = true
                          · subst c27
                            have H1 : (limelightlaw06_FlatPlain.l1 k3 l0 (wrap64 (x4_3 + 1))) = some r := by rw [if_pos rfl] at H; exact H
                            clear H
                            have H := H1
                            clear H1
                            have H' := Aside0.mk H
                            clear H
                            try go_wp2
                            have n0_ := Aside0.mk (below_drew1 HB.out)
                            clear HB
                            have HB := n0_
                            clear n0_
                            have p319 : 0 ≤ (x4_3 : Int) := of_decide_eq_true (by first | (with_reducible assumption) | assumption)
                            have q319 : x4_3 < (l0.length : Int) := of_decide_eq_true (by first | (with_reducible assumption) | assumption)
                            obtain ⟨ad319, A319_3, c319_3, A319_6, c319_6, e319, hx319_0, hx319_1, hx319_2, hx319_3, hx319_4, hx319_5, hx319_6, hl319_3, hi319_3, hl319_6, hi319_6⟩ := at_T36 HR0.out x4_3 p319 q319
                            have hw319_6 := hx319_6
                            have hw319_5 := hx319_5
                            have hw319_4 := hx319_4
                            have hw319_3 := hx319_3
                            have hw319_2 := hx319_2
                            have hw319_1 := hx319_1
                            have hw319_0 := hx319_0
                            cases e319
                            replace hx319_0 := (HB.out.cell (World.block_lt_of_cell? w _ hx319_0)).trans hx319_0
                            replace hx319_1 := (HB.out.cell (World.block_lt_of_cell? w _ hx319_1)).trans hx319_1
                            replace hx319_2 := (HB.out.cell (World.block_lt_of_cell? w _ hx319_2)).trans hx319_2
                            replace hx319_3 := (HB.out.cell (World.block_lt_of_cell? w _ hx319_3)).trans hx319_3
                            replace hx319_4 := (HB.out.cell (World.block_lt_of_cell? w _ hx319_4)).trans hx319_4
                            replace hx319_5 := (HB.out.cell (World.block_lt_of_cell? w _ hx319_5)).trans hx319_5
                            replace hx319_6 := (HB.out.cell (World.block_lt_of_cell? w _ hx319_6)).trans hx319_6
                            have HR319_3 := Aside0.mk hi319_3
                            have HC319_3 := Aside0.mk hl319_3
                            clear hi319_3 hl319_3
                            have HR319_6 := Aside0.mk hi319_6
                            have HC319_6 := Aside0.mk hl319_6
                            clear hi319_6 hl319_6
                            replace p319 := eq_true p319
                            replace q319 := eq_true q319
                            have p323 : 0 ≤ (x4_3 : Int) := of_decide_eq_true (by first | (with_reducible assumption) | assumption)
                            have q323 : x4_3 < (l0.length : Int) := of_decide_eq_true (by first | (with_reducible assumption) | assumption)
                            obtain ⟨ad323, A323_3, c323_3, A323_6, c323_6, e323, hx323_0, hx323_1, hx323_2, hx323_3, hx323_4, hx323_5, hx323_6, hl323_3, hi323_3, hl323_6, hi323_6⟩ := at_T36 HR0.out x4_3 p323 q323
                            have hw323_6 := hx323_6
                            have hw323_5 := hx323_5
                            have hw323_4 := hx323_4
                            have hw323_3 := hx323_3
                            have hw323_2 := hx323_2
                            have hw323_1 := hx323_1
                            have hw323_0 := hx323_0
                            obtain rfl : ad319 = ad323 := (by injection e323)
                            obtain ⟨rfl, rfl⟩ : A319_3 = A323_3 ∧ c319_3 = c323_3 := (by have hs323_3_ := hw319_3.symm.trans hw323_3; injection hs323_3_ with hs_; injection hs_ with ha_ hb_ hc_; exact ⟨ha_, hc_⟩)
                            replace hx323_0 := (HB.out.cell (World.block_lt_of_cell? w _ hx323_0)).trans hx323_0
                            replace hx323_1 := (HB.out.cell (World.block_lt_of_cell? w _ hx323_1)).trans hx323_1
                            replace hx323_2 := (HB.out.cell (World.block_lt_of_cell? w _ hx323_2)).trans hx323_2
                            replace hx323_3 := (HB.out.cell (World.block_lt_of_cell? w _ hx323_3)).trans hx323_3
                            replace hx323_4 := (HB.out.cell (World.block_lt_of_cell? w _ hx323_4)).trans hx323_4
                            replace hx323_5 := (HB.out.cell (World.block_lt_of_cell? w _ hx323_5)).trans hx323_5
                            replace hx323_6 := (HB.out.cell (World.block_lt_of_cell? w _ hx323_6)).trans hx323_6
                            have HR323_3 := Aside0.mk hi323_3
                            have HC323_3 := Aside0.mk hl323_3
                            clear hi323_3 hl323_3
                            have HR323_6 := Aside0.mk hi323_6
                            have HC323_6 := Aside0.mk hl323_6
                            clear hi323_6 hl323_6
                            replace p323 := eq_true p323
                            replace q323 := eq_true q323
                            refine start_ (n := 31) (S := fun w' => w'.cell? (ad319.add ((x4_3).toNat * 7)) = some (.int .i64 ((rd_T36 l0 x4_3).f0)) ∧ w'.cell? ⟨(ad319.add ((x4_3).toNat * 7)).block, (ad319.add ((x4_3).toNat * 7)).off + 1, none⟩ = some (.int .i64 ((rd_T36 l0 x4_3).f1)) ∧ w'.cell? ⟨(ad319.add ((x4_3).toNat * 7)).block, (ad319.add ((x4_3).toNat * 7)).off + 2, none⟩ = some (.int .i64 ((rd_T36 l0 x4_3).f2)) ∧ w'.cell? ⟨(ad319.add ((x4_3).toNat * 7)).block, (ad319.add ((x4_3).toNat * 7)).off + 3, none⟩ = some (.slice A319_3 ((rd_T36 l0 x4_3).f3).length c319_3) ∧ w'.cell? ⟨(ad319.add ((x4_3).toNat * 7)).block, (ad319.add ((x4_3).toNat * 7)).off + 4, none⟩ = some (.int .i64 ((rd_T36 l0 x4_3).f4)) ∧ w'.cell? ⟨(ad319.add ((x4_3).toNat * 7)).block, (ad319.add ((x4_3).toNat * 7)).off + 5, none⟩ = some (.int .i64 ((rd_T36 l0 x4_3).f5)) ∧ w'.cell? ⟨(ad319.add ((x4_3).toNat * 7)).block, (ad319.add ((x4_3).toNat * 7)).off + 6, none⟩ = some (.slice A319_6 ((rd_T36 l0 x4_3).f6).length c319_6) ∧ w'.cell? (ad319.add ((x4_3).toNat * 7)) = some (.int .i64 ((rd_T36 l0 x4_3).f0)) ∧ w'.cell? ⟨(ad319.add ((x4_3).toNat * 7)).block, (ad319.add ((x4_3).toNat * 7)).off + 1, none⟩ = some (.int .i64 ((rd_T36 l0 x4_3).f1)) ∧ w'.cell? ⟨(ad319.add ((x4_3).toNat * 7)).block, (ad319.add ((x4_3).toNat * 7)).off + 2, none⟩ = some (.int .i64 ((rd_T36 l0 x4_3).f2)) ∧ w'.cell? ⟨(ad319.add ((x4_3).toNat * 7)).block, (ad319.add ((x4_3).toNat * 7)).off + 3, none⟩ = some (.slice A319_3 ((rd_T36 l0 x4_3).f3).length c319_3) ∧ w'.cell? ⟨(ad319.add ((x4_3).toNat * 7)).block, (ad319.add ((x4_3).toNat * 7)).off + 4, none⟩ = some (.int .i64 ((rd_T36 l0 x4_3).f4)) ∧ w'.cell? ⟨(ad319.add ((x4_3).toNat * 7)).block, (ad319.add ((x4_3).toNat * 7)).off + 5, none⟩ = some (.int .i64 ((rd_T36 l0 x4_3).f5)) ∧ w'.cell? ⟨(ad319.add ((x4_3).toNat * 7)).block, (ad319.add ((x4_3).toNat * 7)).off + 6, none⟩ = some (.slice A323_6 ((rd_T36 l0 x4_3).f6).length c323_6)) (ds := []) #[false, false, false, false, false, false, false, false, false, false, false, false, false, false, false, false, false, false, false, false, false, false, false, false, false, false, false, false, false, false, false] (by kernel_rfl) rfl rfl ⟨((HB.out.cell (World.block_lt_of_cell? w _ hw319_0)).trans hw319_0), ((HB.out.cell (World.block_lt_of_cell? w _ hw319_1)).trans hw319_1), ((HB.out.cell (World.block_lt_of_cell? w _ hw319_2)).trans hw319_2), ((HB.out.cell (World.block_lt_of_cell? w _ hw319_3)).trans hw319_3), ((HB.out.cell (World.block_lt_of_cell? w _ hw319_4)).trans hw319_4), ((HB.out.cell (World.block_lt_of_cell? w _ hw319_5)).trans hw319_5), ((HB.out.cell (World.block_lt_of_cell? w _ hw319_6)).trans hw319_6), ((HB.out.cell (World.block_lt_of_cell? w _ hw323_0)).trans hw323_0), ((HB.out.cell (World.block_lt_of_cell? w _ hw323_1)).trans hw323_1), ((HB.out.cell (World.block_lt_of_cell? w _ hw323_2)).trans hw323_2), ((HB.out.cell (World.block_lt_of_cell? w _ hw323_3)).trans hw323_3), ((HB.out.cell (World.block_lt_of_cell? w _ hw323_4)).trans hw323_4), ((HB.out.cell (World.block_lt_of_cell? w _ hw323_5)).trans hw323_5), ((HB.out.cell (World.block_lt_of_cell? w _ hw323_6)).trans hw323_6)⟩ (fun hHeld => ?_); refine with_tabW limelightlaw06_FlatPlain.tab11 limelightlaw06_FlatPlain.bits11 (fun HT_ HW_ => ?_)
                            generalize wr.drew = w28 at HB HR319_3 HR319_6 HR323_3 HR323_6 hx319_0 hx319_1 hx319_2 hx319_3 hx319_4 hx319_5 hx319_6 hx323_0 hx323_1 hx323_2 hx323_3 hx323_4 hx323_5 hx323_6 hHeld ⊢
                            refine pure_ (i := 0) (N := some 33) (v := ?_) (a' := ?_) #[true, false, false, false, false, false, false, false, false, false, false, false, false, false, false, false, false, false, false, false, false, false, false, false, false, false, false, false, false, false, false] rfl rfl (any_of HT_.out (by kernel_rfl)) (fun _ _ _ h => h) (Or.inl ⟨by rfl, ?_⟩) ?_ ?_
                            rotate_left
                            · intro w'
                              go_simp
                              with_reducible rfl
                            rotate_left
                            · simp only [Act.put, List.setIfInBounds_toArray, List.set_cons_zero, List.set_cons_succ, i64_w, i32_w]
                              rfl
                            refine pure_ (i := 1) (N := some 34) (v := ?_) (a' := ?_) #[true, true, false, false, false, false, false, false, false, false, false, false, false, false, false, false, false, false, false, false, false, false, false, false, false, false, false, false, false, false, false] rfl rfl (any_of HT_.out (by kernel_rfl)) (fun _ _ _ h => h) (Or.inl ⟨by rfl, ?_⟩) ?_ ?_
                            rotate_left
                            · intro w'
                              go_simp
                              with_reducible rfl
                            rotate_left
                            · simp only [Act.put, List.setIfInBounds_toArray, List.set_cons_zero, List.set_cons_succ, i64_w, i32_w]
                              rfl
                            refine pure_ (i := 3) (N := some 36) (v := ?_) (a' := ?_) #[true, true, false, true, false, false, false, false, false, false, false, false, false, false, false, false, false, false, false, false, false, false, false, false, false, false, false, false, false, false, false] rfl rfl (any_of HT_.out (by kernel_rfl)) (fun _ _ _ h => h) (Or.inl ⟨by rfl, ?_⟩) ?_ ?_
                            rotate_left
                            · intro w'
                              go_simp
                              with_reducible rfl
                            rotate_left
                            · simp only [Act.put, List.setIfInBounds_toArray, List.set_cons_zero, List.set_cons_succ, i64_w, i32_w]
                              rfl
                            refine pure_ (i := 4) (N := some 37) (v := ?_) (a' := ?_) #[true, true, false, true, true, false, false, false, false, false, false, false, false, false, false, false, false, false, false, false, false, false, false, false, false, false, false, false, false, false, false] rfl rfl (any_of HT_.out (by kernel_rfl)) (fun _ _ _ h => h) (Or.inl ⟨by rfl, ?_⟩) ?_ ?_
                            rotate_left
                            · intro w'
                              go_simp
                              with_reducible rfl
                            rotate_left
                            · simp only [Act.put, List.setIfInBounds_toArray, List.set_cons_zero, List.set_cons_succ, i64_w, i32_w]
                              rfl
                            refine pure_ (i := 5) (N := some 38) (v := ?_) (a' := ?_) #[true, true, false, true, true, true, false, false, false, false, false, false, false, false, false, false, false, false, false, false, false, false, false, false, false, false, false, false, false, false, false] rfl rfl (any_of HT_.out (by kernel_rfl)) (fun _ _ _ h => h) (Or.inl ⟨by rfl, ?_⟩) ?_ ?_
                            rotate_left
                            · intro w'
                              go_simp
                              with_reducible rfl
                            rotate_left
                            · simp only [Act.put, List.setIfInBounds_toArray, List.set_cons_zero, List.set_cons_succ, i64_w, i32_w]
                              rfl
                            refine pure_ (i := 6) (N := some 39) (v := ?_) (a' := ?_) #[true, true, false, true, true, true, true, false, false, false, false, false, false, false, false, false, false, false, false, false, false, false, false, false, false, false, false, false, false, false, false] rfl rfl (any_of HT_.out (by kernel_rfl)) (fun _ _ _ h => h) (Or.inl ⟨by rfl, ?_⟩) ?_ ?_
                            rotate_left
                            · intro w'
                              go_simp
                              with_reducible rfl
                            rotate_left
                            · simp only [Act.put, List.setIfInBounds_toArray, List.set_cons_zero, List.set_cons_succ, i64_w, i32_w]
                              rfl
                            refine take_ (i := 7) (N := some 40) (v := ?_) (a' := ?_) #[true, true, false, true, true, true, true, true, false, false, false, false, false, false, false, false, false, false, false, false, false, false, false, false, false, false, false, false, false, false, false] rfl rfl (take_ofW HT_.out HW_.out (by kernel_rfl)) (fun _ _ _ h => h) (Or.inl ⟨by rfl, ?_⟩) hHeld ?_ ?_
                            rotate_left
                            · rintro w' ⟨s0, s1, s2, s3, s4, s5, s6, s7, s8, s9, s10, s11, s12, s13⟩
                              go_simp
                              with_reducible rfl
                            rotate_left
                            · simp only [Act.put, List.setIfInBounds_toArray, List.set_cons_zero, List.set_cons_succ, i64_w, i32_w]
                              rfl
                            refine one_ (i := 2) (N := some 35) #[true, true, true, true, true, true, true, true, false, false, false, false, false, false, false, false, false, false, false, false, false, false, false, false, false, false, false, false, false, false, false] rfl rfl (one_of HT_.out (by kernel_rfl)) (by decide) (fun K hK => ?_)
                            refine goes_ Try.func14 (by kernel_rfl) rfl #[.slice (some ad319) l0.length c0, .int .i64 x4_3] (by rfl) rfl rfl (by (try simp only [List.map_toArray, List.map_cons, List.map_nil]); first | done | rfl | (simp only [List.length_drop, List.length_take]; rfl)) ?_
                            with_reducible refine (flat_Parent.calls _ _ l0 x4_3 t318 _ ?side1 ?side2 A18.out).mono ?_
                            (case side1 => repeat (first | exact (Kd.C_below HR0.out HB.out) | (with_reducible refine Kd.C_alloc ?_ _) | (with_reducible refine Kd.C_drewN ?_ _) | (with_reducible refine Kd.C_drew ?_)))
                            (case side2 => exact HC0.out)
                            rintro e w29 ⟨rfl, hb⟩
                            refine ⟨_, rfl, ?_⟩
                            have n0_ := Aside0.mk (below_step (by repeat (first | (with_reducible first | exact HB.out | apply below_alloc | apply pw_below_drewN | apply below_drew1) | exact HB.out)) hb)
                            clear HB
                            have HB := n0_
                            clear n0_
                            (try clear hb)
                            (try clear hb2)
                            (try clear hk)
                            (try clear hi)
                            refine hK.out _ _ ⟨((HB.out.cell (World.block_lt_of_cell? w _ hw319_0)).trans hw319_0), ((HB.out.cell (World.block_lt_of_cell? w _ hw319_1)).trans hw319_1), ((HB.out.cell (World.block_lt_of_cell? w _ hw319_2)).trans hw319_2), ((HB.out.cell (World.block_lt_of_cell? w _ hw319_3)).trans hw319_3), ((HB.out.cell (World.block_lt_of_cell? w _ hw319_4)).trans hw319_4), ((HB.out.cell (World.block_lt_of_cell? w _ hw319_5)).trans hw319_5), ((HB.out.cell (World.block_lt_of_cell? w _ hw319_6)).trans hw319_6), ((HB.out.cell (World.block_lt_of_cell? w _ hw323_0)).trans hw323_0), ((HB.out.cell (World.block_lt_of_cell? w _ hw323_1)).trans hw323_1), ((HB.out.cell (World.block_lt_of_cell? w _ hw323_2)).trans hw323_2), ((HB.out.cell (World.block_lt_of_cell? w _ hw323_3)).trans hw323_3), ((HB.out.cell (World.block_lt_of_cell? w _ hw323_4)).trans hw323_4), ((HB.out.cell (World.block_lt_of_cell? w _ hw323_5)).trans hw323_5), ((HB.out.cell (World.block_lt_of_cell? w _ hw323_6)).trans hw323_6)⟩ (fun hHeld => ?_)
                            clear hK K
                            refine norm_ (a' := ?_) ?_ ?_
                            rotate_left
                            · show Act.put _ (some 35) _ = _
                              simp only [Act.put, List.setIfInBounds_toArray, List.set_cons_zero, List.set_cons_succ, i64_w, i32_w]
                              rfl
                            refine pure_ (i := 8) (N := some 41) (v := ?_) (a' := ?_) #[true, true, true, true, true, true, true, true, true, false, false, false, false, false, false, false, false, false, false, false, false, false, false, false, false, false, false, false, false, false, false] rfl rfl (any_of HT_.out (by kernel_rfl)) (fun _ _ _ h => h) (Or.inl ⟨by rfl, ?_⟩) ?_ ?_
                            rotate_left
                            · intro w'
                              go_simp
                              with_reducible rfl
                            rotate_left
                            · simp only [Act.put, List.setIfInBounds_toArray, List.set_cons_zero, List.set_cons_succ, i64_w, i32_w]
                              rfl
                            refine pure_ (i := 9) (N := some 42) (v := ?_) (a' := ?_) #[true, true, true, true, true, true, true, true, true, true, false, false, false, false, false, false, false, false, false, false, false, false, false, false, false, false, false, false, false, false, false] rfl rfl (any_of HT_.out (by kernel_rfl)) (fun _ _ _ h => h) (Or.inl ⟨by rfl, ?_⟩) ?_ ?_
                            rotate_left
                            · intro w'
                              go_simp
                              with_reducible rfl
                            rotate_left
                            · simp only [Act.put, List.setIfInBounds_toArray, List.set_cons_zero, List.set_cons_succ, i64_w, i32_w]
                              rfl
                            refine pure_ (i := 10) (N := some 43) (v := ?_) (a' := ?_) #[true, true, true, true, true, true, true, true, true, true, true, false, false, false, false, false, false, false, false, false, false, false, false, false, false, false, false, false, false, false, false] rfl rfl (any_of HT_.out (by kernel_rfl)) (fun _ _ _ h => h) (Or.inl ⟨by rfl, ?_⟩) ?_ ?_
                            rotate_left
                            · intro w'
                              go_simp
                              with_reducible rfl
                            rotate_left
                            · simp only [Act.put, List.setIfInBounds_toArray, List.set_cons_zero, List.set_cons_succ, i64_w, i32_w]
                              rfl
                            refine pure_ (i := 11) (N := some 44) (v := ?_) (a' := ?_) #[true, true, true, true, true, true, true, true, true, true, true, true, false, false, false, false, false, false, false, false, false, false, false, false, false, false, false, false, false, false, false] rfl rfl (any_of HT_.out (by kernel_rfl)) (fun _ _ _ h => h) (Or.inl ⟨by rfl, ?_⟩) ?_ ?_
                            rotate_left
                            · intro w'
                              go_simp
                              with_reducible rfl
                            rotate_left
                            · simp only [Act.put, List.setIfInBounds_toArray, List.set_cons_zero, List.set_cons_succ, i64_w, i32_w]
                              rfl
                            refine pure_ (i := 13) (N := some 46) (v := ?_) (a' := ?_) #[true, true, true, true, true, true, true, true, true, true, true, true, false, true, false, false, false, false, false, false, false, false, false, false, false, false, false, false, false, false, false] rfl rfl (any_of HT_.out (by kernel_rfl)) (fun _ _ _ h => h) (Or.inl ⟨by rfl, ?_⟩) ?_ ?_
                            rotate_left
                            · intro w'
                              go_simp
                              with_reducible rfl
                            rotate_left
                            · simp only [Act.put, List.setIfInBounds_toArray, List.set_cons_zero, List.set_cons_succ, i64_w, i32_w]
                              rfl
                            refine pure_ (i := 14) (N := some 47) (v := ?_) (a' := ?_) #[true, true, true, true, true, true, true, true, true, true, true, true, false, true, true, false, false, false, false, false, false, false, false, false, false, false, false, false, false, false, false] rfl rfl (any_of HT_.out (by kernel_rfl)) (fun _ _ _ h => h) (Or.inl ⟨by rfl, ?_⟩) ?_ ?_
                            rotate_left
                            · intro w'
                              go_simp
                              with_reducible rfl
                            rotate_left
                            · simp only [Act.put, List.setIfInBounds_toArray, List.set_cons_zero, List.set_cons_succ, i64_w, i32_w]
                              rfl
                            refine pure_ (i := 15) (N := some 48) (v := ?_) (a' := ?_) #[true, true, true, true, true, true, true, true, true, true, true, true, false, true, true, true, false, false, false, false, false, false, false, false, false, false, false, false, false, false, false] rfl rfl (any_of HT_.out (by kernel_rfl)) (fun _ _ _ h => h) (Or.inl ⟨by rfl, ?_⟩) ?_ ?_
                            rotate_left
                            · intro w'
                              go_simp
                              with_reducible rfl
                            rotate_left
                            · simp only [Act.put, List.setIfInBounds_toArray, List.set_cons_zero, List.set_cons_succ, i64_w, i32_w]
                              rfl
                            refine pure_ (i := 16) (N := some 49) (v := ?_) (a' := ?_) #[true, true, true, true, true, true, true, true, true, true, true, true, false, true, true, true, true, false, false, false, false, false, false, false, false, false, false, false, false, false, false] rfl rfl (any_of HT_.out (by kernel_rfl)) (fun _ _ _ h => h) (Or.inl ⟨by rfl, ?_⟩) ?_ ?_
                            rotate_left
                            · intro w'
                              go_simp
                              with_reducible rfl
                            rotate_left
                            · simp only [Act.put, List.setIfInBounds_toArray, List.set_cons_zero, List.set_cons_succ, i64_w, i32_w]
                              rfl
                            refine take_ (i := 17) (N := some 50) (v := ?_) (a' := ?_) #[true, true, true, true, true, true, true, true, true, true, true, true, false, true, true, true, true, true, false, false, false, false, false, false, false, false, false, false, false, false, false] rfl rfl (take_ofW HT_.out HW_.out (by kernel_rfl)) (fun _ _ _ h => h) (Or.inl ⟨by rfl, ?_⟩) hHeld ?_ ?_
                            rotate_left
                            · rintro w' ⟨s0, s1, s2, s3, s4, s5, s6, s7, s8, s9, s10, s11, s12, s13⟩
                              go_simp
                              with_reducible rfl
                            rotate_left
                            · simp only [Act.put, List.setIfInBounds_toArray, List.set_cons_zero, List.set_cons_succ, i64_w, i32_w]
                              rfl
                            refine one_ (i := 12) (N := some 45) #[true, true, true, true, true, true, true, true, true, true, true, true, true, true, true, true, true, true, false, false, false, false, false, false, false, false, false, false, false, false, false] rfl rfl (one_of HT_.out (by kernel_rfl)) (by decide) (fun K hK => ?_)
                            refine goes_ Try.func13 (by kernel_rfl) rfl #[.slice (some ad319) l0.length c0, .int .i64 x4_3] (by rfl) rfl rfl (by (try simp only [List.map_toArray, List.map_cons, List.map_nil]); first | done | rfl | (simp only [List.length_drop, List.length_take]; rfl)) ?_
                            with_reducible refine (flat_Kids.calls _ _ l0 x4_3 t320 _ ?side1 ?side2 A21.out).mono ?_
                            (case side1 => repeat (first | exact (Kd.C_below HR0.out HB.out) | (with_reducible refine Kd.C_alloc ?_ _) | (with_reducible refine Kd.C_drewN ?_ _) | (with_reducible refine Kd.C_drew ?_)))
                            (case side2 => exact HC0.out)
                            rintro e w30 ⟨v321, rfl, ho0, hb⟩
                            refine ⟨_, rfl, ?_⟩
                            have n0_ := Aside0.mk (Kd.R_lower ho0 (below_size (by repeat (first | (with_reducible first | exact HB.out | apply below_alloc | apply pw_below_drewN | apply below_drew1) | exact HB.out))))
                            have n1_ := Aside0.mk (below_step (by repeat (first | (with_reducible first | exact HB.out | apply below_alloc | apply pw_below_drewN | apply below_drew1) | exact HB.out)) hb)
                            clear HB
                            have HO322 := n0_
                            have HB := n1_
                            clear n0_ n1_
                            (try clear hb)
                            (try clear hb2)
                            (try clear hk)
                            (try clear hi)
                            (try clear ho0)
                            obtain ⟨Ao31, co31, eo31⟩ := Kd.R_slice HO322.out
                            (first | subst eo31 | (injection eo31 with f1_ f2_ f3_; have f4_ := f1_.symm; have f5_ := f3_.symm; clear f1_ f2_ f3_; subst f4_; subst f5_))
                            refine hK.out _ _ ⟨((HB.out.cell (World.block_lt_of_cell? w _ hw319_0)).trans hw319_0), ((HB.out.cell (World.block_lt_of_cell? w _ hw319_1)).trans hw319_1), ((HB.out.cell (World.block_lt_of_cell? w _ hw319_2)).trans hw319_2), ((HB.out.cell (World.block_lt_of_cell? w _ hw319_3)).trans hw319_3), ((HB.out.cell (World.block_lt_of_cell? w _ hw319_4)).trans hw319_4), ((HB.out.cell (World.block_lt_of_cell? w _ hw319_5)).trans hw319_5), ((HB.out.cell (World.block_lt_of_cell? w _ hw319_6)).trans hw319_6), ((HB.out.cell (World.block_lt_of_cell? w _ hw323_0)).trans hw323_0), ((HB.out.cell (World.block_lt_of_cell? w _ hw323_1)).trans hw323_1), ((HB.out.cell (World.block_lt_of_cell? w _ hw323_2)).trans hw323_2), ((HB.out.cell (World.block_lt_of_cell? w _ hw323_3)).trans hw323_3), ((HB.out.cell (World.block_lt_of_cell? w _ hw323_4)).trans hw323_4), ((HB.out.cell (World.block_lt_of_cell? w _ hw323_5)).trans hw323_5), ((HB.out.cell (World.block_lt_of_cell? w _ hw323_6)).trans hw323_6)⟩ (fun hHeld => ?_)
                            clear hK K
                            refine norm_ (a' := ?_) ?_ ?_
                            rotate_left
                            · show Act.put _ (some 45) _ = _
                              simp only [Act.put, List.setIfInBounds_toArray, List.set_cons_zero, List.set_cons_succ, i64_w, i32_w]
                              rfl
                            refine one_ (i := 18) (N := some 51) #[true, true, true, true, true, true, true, true, true, true, true, true, true, true, true, true, true, true, true, false, false, false, false, false, false, false, false, false, false, false, false] rfl rfl (one_of HT_.out (by kernel_rfl)) (by decide) (fun K hK => ?_)
                            refine goes_ Try.func17 (by kernel_rfl) rfl #[.slice Ao31 t320.length co31, .slice A319_3 ((rd_T36 l0 x4_3).f3).length c319_3] (by rfl) rfl rfl (by (try simp only [List.map_toArray, List.map_cons, List.map_nil]); first | done | rfl | (simp only [List.length_drop, List.length_take]; rfl)) ?_
                            with_reducible refine (limelightref01_Ints.calls _ _ t320 _ _ ((rd_T36 l0 x4_3).f3) true _ ?side1 ?side2 ?side3 ?side4 A22.out).mono ?_
                            (case side1 => repeat (first | exact (Kd.R_reads' HO322.out).2.2 | (with_reducible refine Kd.C_alloc ?_ _) | (with_reducible refine Kd.C_drewN ?_ _) | (with_reducible refine Kd.C_drew ?_)))
                            (case side2 => exact (Kd.R_reads' HO322.out).2.1)
                            (case side3 => repeat (first | exact (Kd.C_below HR323_3.out HB.out) | (with_reducible refine Kd.C_alloc ?_ _) | (with_reducible refine Kd.C_drewN ?_ _) | (with_reducible refine Kd.C_drew ?_)))
                            (case side4 => exact HC323_3.out)
                            rintro e w32 ⟨rfl, hb⟩
                            refine ⟨_, rfl, ?_⟩
                            have n0_ := Aside0.mk (Kd.R_below (by (with_reducible repeat (first | apply Kd.R_alloc | apply Kd.R_drewN | apply Kd.R_drew)); exact HO322.out) hb)
                            have n1_ := Aside0.mk (below_step (by repeat (first | (with_reducible first | exact HB.out | apply below_alloc | apply pw_below_drewN | apply below_drew1) | exact HB.out)) hb)
                            clear HO322
                            clear HB
                            have HO322 := n0_
                            have HB := n1_
                            clear n0_ n1_
                            (try clear hb)
                            (try clear hb2)
                            (try clear hk)
                            (try clear hi)
                            refine hK.out _ _ ⟨((HB.out.cell (World.block_lt_of_cell? w _ hw319_0)).trans hw319_0), ((HB.out.cell (World.block_lt_of_cell? w _ hw319_1)).trans hw319_1), ((HB.out.cell (World.block_lt_of_cell? w _ hw319_2)).trans hw319_2), ((HB.out.cell (World.block_lt_of_cell? w _ hw319_3)).trans hw319_3), ((HB.out.cell (World.block_lt_of_cell? w _ hw319_4)).trans hw319_4), ((HB.out.cell (World.block_lt_of_cell? w _ hw319_5)).trans hw319_5), ((HB.out.cell (World.block_lt_of_cell? w _ hw319_6)).trans hw319_6), ((HB.out.cell (World.block_lt_of_cell? w _ hw323_0)).trans hw323_0), ((HB.out.cell (World.block_lt_of_cell? w _ hw323_1)).trans hw323_1), ((HB.out.cell (World.block_lt_of_cell? w _ hw323_2)).trans hw323_2), ((HB.out.cell (World.block_lt_of_cell? w _ hw323_3)).trans hw323_3), ((HB.out.cell (World.block_lt_of_cell? w _ hw323_4)).trans hw323_4), ((HB.out.cell (World.block_lt_of_cell? w _ hw323_5)).trans hw323_5), ((HB.out.cell (World.block_lt_of_cell? w _ hw323_6)).trans hw323_6)⟩ (fun hHeld => ?_)
                            clear hK K
                            refine norm_ (a' := ?_) ?_ ?_
                            rotate_left
                            · show Act.put _ (some 51) _ = _
                              simp only [Act.put, List.setIfInBounds_toArray, List.set_cons_zero, List.set_cons_succ, i64_w, i32_w]
                              rfl
                            refine pure_ (i := 19) (N := some 52) (v := ?_) (a' := ?_) #[true, true, true, true, true, true, true, true, true, true, true, true, true, true, true, true, true, true, true, true, false, false, false, false, false, false, false, false, false, false, false] rfl rfl (any_of HT_.out (by kernel_rfl)) (fun _ _ _ h => h) (Or.inl ⟨by rfl, ?_⟩) ?_ ?_
                            rotate_left
                            · intro w'
                              go_simp
                              with_reducible rfl
                            rotate_left
                            · simp only [Act.put, List.setIfInBounds_toArray, List.set_cons_zero, List.set_cons_succ, i64_w, i32_w]
                              rfl
                            refine pure_ (i := 20) (N := some 53) (v := ?_) (a' := ?_) #[true, true, true, true, true, true, true, true, true, true, true, true, true, true, true, true, true, true, true, true, true, false, false, false, false, false, false, false, false, false, false] rfl rfl (any_of HT_.out (by kernel_rfl)) (fun _ _ _ h => h) (Or.inl ⟨by rfl, ?_⟩) ?_ ?_
                            rotate_left
                            · intro w'
                              go_simp
                              with_reducible rfl
                            rotate_left
                            · simp only [Act.put, List.setIfInBounds_toArray, List.set_cons_zero, List.set_cons_succ, i64_w, i32_w]
                              rfl
                            refine pure_ (i := 21) (N := some 54) (v := ?_) (a' := ?_) #[true, true, true, true, true, true, true, true, true, true, true, true, true, true, true, true, true, true, true, true, true, true, false, false, false, false, false, false, false, false, false] rfl rfl (any_of HT_.out (by kernel_rfl)) (fun _ _ _ h => h) (Or.inl ⟨by rfl, ?_⟩) ?_ ?_
                            rotate_left
                            · intro w'
                              go_simp
                              with_reducible rfl
                            rotate_left
                            · simp only [Act.put, List.setIfInBounds_toArray, List.set_cons_zero, List.set_cons_succ, i64_w, i32_w]
                              rfl
                            refine pure_ (i := 22) (N := some 55) (v := ?_) (a' := ?_) #[true, true, true, true, true, true, true, true, true, true, true, true, true, true, true, true, true, true, true, true, true, true, true, false, false, false, false, false, false, false, false] rfl rfl (any_of HT_.out (by kernel_rfl)) (fun _ _ _ h => h) (Or.inl ⟨by rfl, ?_⟩) ?_ ?_
                            rotate_left
                            · intro w'
                              go_simp
                              with_reducible rfl
                            rotate_left
                            · simp only [Act.put, List.setIfInBounds_toArray, List.set_cons_zero, List.set_cons_succ, i64_w, i32_w]
                              rfl
                            refine pure_ (i := 23) (N := some 56) (v := ?_) (a' := ?_) #[true, true, true, true, true, true, true, true, true, true, true, true, true, true, true, true, true, true, true, true, true, true, true, true, false, false, false, false, false, false, false] rfl rfl (any_of HT_.out (by kernel_rfl)) (fun _ _ _ h => h) (Or.inl ⟨by rfl, ?_⟩) ?_ ?_
                            rotate_left
                            · intro w'
                              go_simp
                              with_reducible rfl
                            rotate_left
                            · simp only [Act.put, List.setIfInBounds_toArray, List.set_cons_zero, List.set_cons_succ, i64_w, i32_w]
                              rfl
                            refine pure_ (i := 25) (N := some 58) (v := ?_) (a' := ?_) #[true, true, true, true, true, true, true, true, true, true, true, true, true, true, true, true, true, true, true, true, true, true, true, true, false, true, false, false, false, false, false] rfl rfl (any_of HT_.out (by kernel_rfl)) (fun _ _ _ h => h) (Or.inl ⟨by rfl, ?_⟩) ?_ ?_
                            rotate_left
                            · intro w'
                              go_simp
                              with_reducible rfl
                            rotate_left
                            · simp only [Act.put, List.setIfInBounds_toArray, List.set_cons_zero, List.set_cons_succ, i64_w, i32_w]
                              rfl
                            refine pure_ (i := 26) (N := some 59) (v := ?_) (a' := ?_) #[true, true, true, true, true, true, true, true, true, true, true, true, true, true, true, true, true, true, true, true, true, true, true, true, false, true, true, false, false, false, false] rfl rfl (any_of HT_.out (by kernel_rfl)) (fun _ _ _ h => h) (Or.inl ⟨by rfl, ?_⟩) ?_ ?_
                            rotate_left
                            · intro w'
                              go_simp
                              with_reducible rfl
                            rotate_left
                            · simp only [Act.put, List.setIfInBounds_toArray, List.set_cons_zero, List.set_cons_succ, i64_w, i32_w]
                              rfl
                            refine one_ (i := 24) (N := some 57) #[true, true, true, true, true, true, true, true, true, true, true, true, true, true, true, true, true, true, true, true, true, true, true, true, true, true, true, false, false, false, false] rfl rfl (one_of HT_.out (by kernel_rfl)) (by decide) (fun K hK => ?_)
                            refine goes_ Try.func15 (by kernel_rfl) rfl #[.slice (some ad319) l0.length c0, .int .i64 x4_3] (by rfl) rfl rfl (by (try simp only [List.map_toArray, List.map_cons, List.map_nil]); first | done | rfl | (simp only [List.length_drop, List.length_take]; rfl)) ?_
                            with_reducible refine (flat_Up.calls _ _ l0 x4_3 t325 _ ?side1 ?side2 A24.out).mono ?_
                            (case side1 => repeat (first | exact (Kd.C_below HR0.out HB.out) | (with_reducible refine Kd.C_alloc ?_ _) | (with_reducible refine Kd.C_drewN ?_ _) | (with_reducible refine Kd.C_drew ?_)))
                            (case side2 => exact HC0.out)
                            rintro e w33 ⟨v326, rfl, ho0, hb⟩
                            refine ⟨_, rfl, ?_⟩
                            have n0_ := Aside0.mk (Kd.R_elder' (by (with_reducible repeat (first | apply Kd.R_alloc | apply Kd.R_drewN | apply Kd.R_drew)); exact HO322.out) (Kd.R_base ho0) hb)
                            have n1_ := Aside0.mk (Kd.R_lower (Kd.R_new' ho0 (Kd.R_lt (by (with_reducible repeat (first | apply Kd.R_alloc | apply Kd.R_drewN | apply Kd.R_drew)); exact HO322.out))) (below_size (by repeat (first | (with_reducible first | exact HB.out | apply below_alloc | apply pw_below_drewN | apply below_drew1) | exact HB.out))))
                            have n2_ := Aside0.mk (below_step (by repeat (first | (with_reducible first | exact HB.out | apply below_alloc | apply pw_below_drewN | apply below_drew1) | exact HB.out)) hb)
                            clear HO322
                            clear HB
                            have HO322 := n0_
                            have HO327 := n1_
                            have HB := n2_
                            clear n0_ n1_ n2_
                            (try clear hb)
                            (try clear hb2)
                            (try clear hk)
                            (try clear hi)
                            (try clear ho0)
                            refine hK.out _ _ ⟨((HB.out.cell (World.block_lt_of_cell? w _ hw319_0)).trans hw319_0), ((HB.out.cell (World.block_lt_of_cell? w _ hw319_1)).trans hw319_1), ((HB.out.cell (World.block_lt_of_cell? w _ hw319_2)).trans hw319_2), ((HB.out.cell (World.block_lt_of_cell? w _ hw319_3)).trans hw319_3), ((HB.out.cell (World.block_lt_of_cell? w _ hw319_4)).trans hw319_4), ((HB.out.cell (World.block_lt_of_cell? w _ hw319_5)).trans hw319_5), ((HB.out.cell (World.block_lt_of_cell? w _ hw319_6)).trans hw319_6), ((HB.out.cell (World.block_lt_of_cell? w _ hw323_0)).trans hw323_0), ((HB.out.cell (World.block_lt_of_cell? w _ hw323_1)).trans hw323_1), ((HB.out.cell (World.block_lt_of_cell? w _ hw323_2)).trans hw323_2), ((HB.out.cell (World.block_lt_of_cell? w _ hw323_3)).trans hw323_3), ((HB.out.cell (World.block_lt_of_cell? w _ hw323_4)).trans hw323_4), ((HB.out.cell (World.block_lt_of_cell? w _ hw323_5)).trans hw323_5), ((HB.out.cell (World.block_lt_of_cell? w _ hw323_6)).trans hw323_6)⟩ (fun hHeld => ?_)
                            clear hK K
                            refine norm_ (a' := ?_) ?_ ?_
                            rotate_left
                            · show Act.put _ (some 57) _ = _
                              simp only [Act.put, List.setIfInBounds_toArray, List.set_cons_zero, List.set_cons_succ, i64_w, i32_w]
                              rfl
                            refine one_ (i := 27) (N := some 60) #[true, true, true, true, true, true, true, true, true, true, true, true, true, true, true, true, true, true, true, true, true, true, true, true, true, true, true, true, false, false, false] rfl rfl (one_of HT_.out (by kernel_rfl)) (by decide) (fun K hK => ?_)
                            refine goes_ Try.func28 (by kernel_rfl) rfl #[.slice (some ad319) l0.length c0, .int .i64 x4_3] (by rfl) rfl rfl (by (try simp only [List.map_toArray, List.map_cons, List.map_nil]); first | done | rfl | (simp only [List.length_drop, List.length_take]; rfl)) ?_
                            with_reducible refine (limelightref03_Up.calls k3 _ _ l0 x4_3 t328 _ ?side1 ?side2 A25.out).mono ?_
                            (case side1 => repeat (first | exact (Kd.C_below HR0.out HB.out) | (with_reducible refine Kd.C_alloc ?_ _) | (with_reducible refine Kd.C_drewN ?_ _) | (with_reducible refine Kd.C_drew ?_)))
                            (case side2 => exact HC0.out)
                            rintro e w34 ⟨v329, rfl, ho0, hb⟩
                            refine ⟨_, rfl, ?_⟩
                            have n0_ := Aside0.mk (Kd.R_elder' (by (with_reducible repeat (first | apply Kd.R_alloc | apply Kd.R_drewN | apply Kd.R_drew)); exact HO322.out) (Kd.R_base ho0) hb)
                            have n1_ := Aside0.mk (Kd.R_elder' (by (with_reducible repeat (first | apply Kd.R_alloc | apply Kd.R_drewN | apply Kd.R_drew)); exact HO327.out) (Kd.R_base ho0) hb)
                            have n2_ := Aside0.mk (Kd.R_lower (Kd.R_new' (Kd.R_new' ho0 (Kd.R_lt (by (with_reducible repeat (first | apply Kd.R_alloc | apply Kd.R_drewN | apply Kd.R_drew)); exact HO322.out))) (Kd.R_lt (by (with_reducible repeat (first | apply Kd.R_alloc | apply Kd.R_drewN | apply Kd.R_drew)); exact HO327.out))) (below_size (by repeat (first | (with_reducible first | exact HB.out | apply below_alloc | apply pw_below_drewN | apply below_drew1) | exact HB.out))))
                            have n3_ := Aside0.mk (below_step (by repeat (first | (with_reducible first | exact HB.out | apply below_alloc | apply pw_below_drewN | apply below_drew1) | exact HB.out)) hb)
                            clear HO322
                            clear HO327
                            clear HB
                            have HO322 := n0_
                            have HO327 := n1_
                            have HO330 := n2_
                            have HB := n3_
                            clear n0_ n1_ n2_ n3_
                            (try clear hb)
                            (try clear hb2)
                            (try clear hk)
                            (try clear hi)
                            (try clear ho0)
                            obtain ⟨Ao35, co35, eo35⟩ := Kd.R_slice HO327.out
                            (first | subst eo35 | (injection eo35 with f1_ f2_ f3_; have f4_ := f1_.symm; have f5_ := f3_.symm; clear f1_ f2_ f3_; subst f4_; subst f5_))
                            obtain ⟨Ao36, co36, eo36⟩ := Kd.R_slice HO330.out
                            (first | subst eo36 | (injection eo36 with f1_ f2_ f3_; have f4_ := f1_.symm; have f5_ := f3_.symm; clear f1_ f2_ f3_; subst f4_; subst f5_))
                            refine hK.out _ _ ⟨((HB.out.cell (World.block_lt_of_cell? w _ hw319_0)).trans hw319_0), ((HB.out.cell (World.block_lt_of_cell? w _ hw319_1)).trans hw319_1), ((HB.out.cell (World.block_lt_of_cell? w _ hw319_2)).trans hw319_2), ((HB.out.cell (World.block_lt_of_cell? w _ hw319_3)).trans hw319_3), ((HB.out.cell (World.block_lt_of_cell? w _ hw319_4)).trans hw319_4), ((HB.out.cell (World.block_lt_of_cell? w _ hw319_5)).trans hw319_5), ((HB.out.cell (World.block_lt_of_cell? w _ hw319_6)).trans hw319_6), ((HB.out.cell (World.block_lt_of_cell? w _ hw323_0)).trans hw323_0), ((HB.out.cell (World.block_lt_of_cell? w _ hw323_1)).trans hw323_1), ((HB.out.cell (World.block_lt_of_cell? w _ hw323_2)).trans hw323_2), ((HB.out.cell (World.block_lt_of_cell? w _ hw323_3)).trans hw323_3), ((HB.out.cell (World.block_lt_of_cell? w _ hw323_4)).trans hw323_4), ((HB.out.cell (World.block_lt_of_cell? w _ hw323_5)).trans hw323_5), ((HB.out.cell (World.block_lt_of_cell? w _ hw323_6)).trans hw323_6)⟩ (fun hHeld => ?_)
                            clear hK K
                            refine norm_ (a' := ?_) ?_ ?_
                            rotate_left
                            · show Act.put _ (some 60) _ = _
                              simp only [Act.put, List.setIfInBounds_toArray, List.set_cons_zero, List.set_cons_succ, i64_w, i32_w]
                              rfl
                            refine one_ (i := 28) (N := some 61) #[true, true, true, true, true, true, true, true, true, true, true, true, true, true, true, true, true, true, true, true, true, true, true, true, true, true, true, true, true, false, false] rfl rfl (one_of HT_.out (by kernel_rfl)) (by decide) (fun K hK => ?_)
                            refine goes_ Try.func17 (by kernel_rfl) rfl #[.slice Ao35 t325.length co35, .slice Ao36 t328.length co36] (by rfl) rfl rfl (by (try simp only [List.map_toArray, List.map_cons, List.map_nil]); first | done | rfl | (simp only [List.length_drop, List.length_take]; rfl)) ?_
                            with_reducible refine (limelightref01_Ints.calls _ _ t325 _ _ t328 true _ ?side1 ?side2 ?side3 ?side4 A26.out).mono ?_
                            (case side1 => repeat (first | exact (Kd.R_reads' HO327.out).2.2 | (with_reducible refine Kd.C_alloc ?_ _) | (with_reducible refine Kd.C_drewN ?_ _) | (with_reducible refine Kd.C_drew ?_)))
                            (case side2 => exact (Kd.R_reads' HO327.out).2.1)
                            (case side3 => repeat (first | exact (Kd.R_reads' HO330.out).2.2 | (with_reducible refine Kd.C_alloc ?_ _) | (with_reducible refine Kd.C_drewN ?_ _) | (with_reducible refine Kd.C_drew ?_)))
                            (case side4 => exact (Kd.R_reads' HO330.out).2.1)
                            rintro e w37 ⟨rfl, hb⟩
                            refine ⟨_, rfl, ?_⟩
                            have n0_ := Aside0.mk (Kd.R_below (by (with_reducible repeat (first | apply Kd.R_alloc | apply Kd.R_drewN | apply Kd.R_drew)); exact HO322.out) hb)
                            have n1_ := Aside0.mk (Kd.R_below (by (with_reducible repeat (first | apply Kd.R_alloc | apply Kd.R_drewN | apply Kd.R_drew)); exact HO327.out) hb)
                            have n2_ := Aside0.mk (Kd.R_below (by (with_reducible repeat (first | apply Kd.R_alloc | apply Kd.R_drewN | apply Kd.R_drew)); exact HO330.out) hb)
                            have n3_ := Aside0.mk (below_step (by repeat (first | (with_reducible first | exact HB.out | apply below_alloc | apply pw_below_drewN | apply below_drew1) | exact HB.out)) hb)
                            clear HO322
                            clear HO327
                            clear HO330
                            clear HB
                            have HO322 := n0_
                            have HO327 := n1_
                            have HO330 := n2_
                            have HB := n3_
                            clear n0_ n1_ n2_ n3_
                            (try clear hb)
                            (try clear hb2)
                            (try clear hk)
                            (try clear hi)
                            refine hK.out _ _ ⟨((HB.out.cell (World.block_lt_of_cell? w _ hw319_0)).trans hw319_0), ((HB.out.cell (World.block_lt_of_cell? w _ hw319_1)).trans hw319_1), ((HB.out.cell (World.block_lt_of_cell? w _ hw319_2)).trans hw319_2), ((HB.out.cell (World.block_lt_of_cell? w _ hw319_3)).trans hw319_3), ((HB.out.cell (World.block_lt_of_cell? w _ hw319_4)).trans hw319_4), ((HB.out.cell (World.block_lt_of_cell? w _ hw319_5)).trans hw319_5), ((HB.out.cell (World.block_lt_of_cell? w _ hw319_6)).trans hw319_6), ((HB.out.cell (World.block_lt_of_cell? w _ hw323_0)).trans hw323_0), ((HB.out.cell (World.block_lt_of_cell? w _ hw323_1)).trans hw323_1), ((HB.out.cell (World.block_lt_of_cell? w _ hw323_2)).trans hw323_2), ((HB.out.cell (World.block_lt_of_cell? w _ hw323_3)).trans hw323_3), ((HB.out.cell (World.block_lt_of_cell? w _ hw323_4)).trans hw323_4), ((HB.out.cell (World.block_lt_of_cell? w _ hw323_5)).trans hw323_5), ((HB.out.cell (World.block_lt_of_cell? w _ hw323_6)).trans hw323_6)⟩ (fun hHeld => ?_)
                            clear hK K
                            refine norm_ (a' := ?_) ?_ ?_
                            rotate_left
                            · show Act.put _ (some 61) _ = _
                              simp only [Act.put, List.setIfInBounds_toArray, List.set_cons_zero, List.set_cons_succ, i64_w, i32_w]
                              rfl
                            refine pure_ (i := 29) (N := some 62) (v := ?_) (a' := ?_) #[true, true, true, true, true, true, true, true, true, true, true, true, true, true, true, true, true, true, true, true, true, true, true, true, true, true, true, true, true, true, false] rfl rfl (any_of HT_.out (by kernel_rfl)) (fun _ _ _ h => h) (Or.inl ⟨by rfl, ?_⟩) ?_ ?_
                            rotate_left
                            · intro w'
                              go_simp
                              with_reducible rfl
                            rotate_left
                            · simp only [Act.put, List.setIfInBounds_toArray, List.set_cons_zero, List.set_cons_succ, i64_w, i32_w]
                              rfl
                            refine pure_ (i := 30) (N := some 63) (v := ?_) (a' := ?_) #[true, true, true, true, true, true, true, true, true, true, true, true, true, true, true, true, true, true, true, true, true, true, true, true, true, true, true, true, true, true, true] rfl rfl (any_of HT_.out (by kernel_rfl)) (fun _ _ _ h => h) (Or.inl ⟨by rfl, ?_⟩) ?_ ?_
                            rotate_left
                            · intro w'
                              go_simp
                              with_reducible rfl
                            rotate_left
                            · simp only [Act.put, List.setIfInBounds_toArray, List.set_cons_zero, List.set_cons_succ, i64_w, i32_w]
                              rfl
                            refine done_ (done_of HT_.out (by kernel_rfl)) ?_
                            try go_wp2
                            go_roundg k3
                            case measure => have := HJ1.out; have := HK2.out; have := HK3.out; omega
                            case rel => exact ⟨(wrap64 (x4_3 + 1)), (by first | rfl | (simp; done) | (simp [*]; done)), H', ⟨by have := HJ1.out; have := HK2.out; have := HK3.out; omega⟩, ⟨by repeat (first | (with_reducible first | exact HB.out | apply below_alloc | apply pw_below_drewN | apply below_drew1) | exact HB.out)⟩⟩
                          · replace c27 := Bool.eq_false_iff.mpr c27
                            subst c27
                            have H1 : (none) = some r := by rw [if_neg (show ¬ (false = true) by decide)] at H; exact H
                            clear H
                            have H := H1
                            clear H1
                            exact absurd H (by simp)
                        · replace c23 := Bool.eq_false_iff.mpr c23
                          subst c23
                          have H1 : (none) = some r := by rw [if_neg (show ¬ (false = true) by decide)] at H; exact H
                          clear H
                          have H := H1
                          clear H1
                          exact absurd H (by simp)
                      · rw [if_neg c20] at H
                        have c20b0 : (t318 == ((rd_T36 l0 x4_3).f2)) = false := beq_eq_false_iff_ne.mpr c20
                        have c20b1 : (t318 != ((rd_T36 l0 x4_3).f2)) = true := bne_iff_ne.mpr c20
                        exact absurd H (by simp)
                    · rw [if_neg c19] at H
                      exact absurd H (by simp)
                  · rw [if_neg c17] at H
                    have c17b0 : decide (x4_3 < (l0.length : Int)) = false := decide_eq_false c17
                    clear c17
                    replace H := Option.bind_eq_some_iff.mp H
                    obtain ⟨t332, A380, H⟩ := H
                    replace H : ((limelightref03_List.f k3 l0 0).bind fun t335 => ((limelightref01_Ints.f t332 t335).bind fun t338 => (if t338 = true then ((limelightlaw06_live.f).bind fun t339 => (some t339)) else (none)))) = some r := H
                    have A38 := Aside0.mk A380
                    clear A380
                    replace H := Option.bind_eq_some_iff.mp H
                    obtain ⟨t335, A390, H⟩ := H
                    replace H : ((limelightref01_Ints.f t332 t335).bind fun t338 => (if t338 = true then ((limelightlaw06_live.f).bind fun t339 => (some t339)) else (none))) = some r := H
                    have A39 := Aside0.mk A390
                    clear A390
                    replace H := Option.bind_eq_some_iff.mp H
                    obtain ⟨t338, A400, H⟩ := H
                    replace H : (if t338 = true then ((limelightlaw06_live.f).bind fun t339 => (some t339)) else (none)) = some r := H
                    have A40 := Aside0.mk A400
                    clear A400
                    by_cases c41 : t338 = true
                    · subst c41
                      have H1 : ((limelightlaw06_live.f).bind fun t339 => (some t339)) = some r := by rw [if_pos rfl] at H; exact H
                      clear H
                      have H := H1
                      clear H1
                      replace H := Option.bind_eq_some_iff.mp H
                      obtain ⟨t339, A420, H⟩ := H
                      replace H : (some t339) = some r := H
                      have A42 := Aside0.mk A420
                      clear A420
                      obtain rfl := Option.some.inj H
                      go_wp2_with (first | ((with_reducible refine gate_callee (f := 24) rfl ?_); refine goesL_ (some 65) rfl rfl Try.func24 (by kernel_rfl) rfl #[.slice A0 l0.length c0] rfl (by (try simp only [List.map_toArray, List.map_cons, List.map_nil]); first | done | rfl | (simp only [List.length_drop, List.length_take]; rfl)) ?_; (with_reducible refine (flat_List.calls _ _ l0 t332 _ ?side1 ?side2 A38.out).mono ?_); (case side1 => repeat (first | exact (Kd.C_below HR0.out HB.out) | (with_reducible refine Kd.C_alloc ?_ _) | (with_reducible refine Kd.C_drewN ?_ _) | (with_reducible refine Kd.C_drew ?_))); (case side2 => exact HC0.out); rintro e w43 ⟨v333, rfl, ho0, hb⟩; refine ⟨_, rfl, ?_⟩; have n0_ := Aside0.mk (Kd.R_lower ho0 (below_size (by repeat (first | (with_reducible first | exact HB.out | apply below_alloc | apply pw_below_drewN | apply below_drew1) | exact HB.out)))); have n1_ := Aside0.mk (below_step (by repeat (first | (with_reducible first | exact HB.out | apply below_alloc | apply pw_below_drewN | apply below_drew1) | exact HB.out)) hb); clear HB; have HO334 := n0_; have HB := n1_; clear n0_ n1_; (try clear hb); (try clear hb2); (try clear hk); (try clear hi); (try clear ho0)) | ((with_reducible refine gate_callee (f := 29) rfl ?_); refine goesL_ (some 67) rfl rfl Try.func29 (by kernel_rfl) rfl #[.slice A0 l0.length c0, .int .i64 0] rfl (by (try simp only [List.map_toArray, List.map_cons, List.map_nil]); first | done | rfl | (simp only [List.length_drop, List.length_take]; rfl)) ?_; (with_reducible refine (limelightref03_List.calls k3 _ _ l0 0 t335 _ ?side1 ?side2 A39.out).mono ?_); (case side1 => repeat (first | exact (Kd.C_below HR0.out HB.out) | (with_reducible refine Kd.C_alloc ?_ _) | (with_reducible refine Kd.C_drewN ?_ _) | (with_reducible refine Kd.C_drew ?_))); (case side2 => exact HC0.out); rintro e w44 ⟨v336, rfl, ho0, hb⟩; refine ⟨_, rfl, ?_⟩; have n0_ := Aside0.mk (Kd.R_elder' (by (with_reducible repeat (first | apply Kd.R_alloc | apply Kd.R_drewN | apply Kd.R_drew)); exact HO334.out) (Kd.R_base ho0) hb); have n1_ := Aside0.mk (Kd.R_lower (Kd.R_new' ho0 (Kd.R_lt (by (with_reducible repeat (first | apply Kd.R_alloc | apply Kd.R_drewN | apply Kd.R_drew)); exact HO334.out))) (below_size (by repeat (first | (with_reducible first | exact HB.out | apply below_alloc | apply pw_below_drewN | apply below_drew1) | exact HB.out)))); have n2_ := Aside0.mk (below_step (by repeat (first | (with_reducible first | exact HB.out | apply below_alloc | apply pw_below_drewN | apply below_drew1) | exact HB.out)) hb); clear HO334; clear HB; have HO334 := n0_; have HO337 := n1_; have HB := n2_; clear n0_ n1_ n2_; (try clear hb); (try clear hb2); (try clear hk); (try clear hi); (try clear ho0); obtain ⟨Ao45, co45, eo45⟩ := Kd.R_slice HO334.out; subst eo45; obtain ⟨Ao46, co46, eo46⟩ := Kd.R_slice HO337.out; subst eo46) | ((with_reducible refine gate_callee (f := 17) rfl ?_); refine goesL_ (some 68) rfl rfl Try.func17 (by kernel_rfl) rfl #[.slice Ao45 t332.length co45, .slice Ao46 t335.length co46] rfl (by (try simp only [List.map_toArray, List.map_cons, List.map_nil]); first | done | rfl | (simp only [List.length_drop, List.length_take]; rfl)) ?_; (with_reducible refine (limelightref01_Ints.calls _ _ t332 _ _ t335 true _ ?side1 ?side2 ?side3 ?side4 A40.out).mono ?_); (case side1 => repeat (first | exact (Kd.R_reads' HO334.out).2.2 | (with_reducible refine Kd.C_alloc ?_ _) | (with_reducible refine Kd.C_drewN ?_ _) | (with_reducible refine Kd.C_drew ?_))); (case side2 => exact (Kd.R_reads' HO334.out).2.1); (case side3 => repeat (first | exact (Kd.R_reads' HO337.out).2.2 | (with_reducible refine Kd.C_alloc ?_ _) | (with_reducible refine Kd.C_drewN ?_ _) | (with_reducible refine Kd.C_drew ?_))); (case side4 => exact (Kd.R_reads' HO337.out).2.1); rintro e w47 ⟨rfl, hb⟩; refine ⟨_, rfl, ?_⟩; have n0_ := Aside0.mk (Kd.R_below (by (with_reducible repeat (first | apply Kd.R_alloc | apply Kd.R_drewN | apply Kd.R_drew)); exact HO334.out) hb); have n1_ := Aside0.mk (Kd.R_below (by (with_reducible repeat (first | apply Kd.R_alloc | apply Kd.R_drewN | apply Kd.R_drew)); exact HO337.out) hb); have n2_ := Aside0.mk (below_step (by repeat (first | (with_reducible first | exact HB.out | apply below_alloc | apply pw_below_drewN | apply below_drew1) | exact HB.out)) hb); clear HO334; clear HO337; clear HB; have HO334 := n0_; have HO337 := n1_; have HB := n2_; clear n0_ n1_ n2_; (try clear hb); (try clear hb2); (try clear hk); (try clear hi)) | (go_at_call 10; (with_reducible refine (limelightlaw06_live.calls  t339 _ A42.out).mono ?_); rintro e w48 ⟨rfl, hb⟩; have n0_ := Aside0.mk (Kd.R_below (by (with_reducible repeat (first | apply Kd.R_alloc | apply Kd.R_drewN | apply Kd.R_drew)); exact HO334.out) hb); have n1_ := Aside0.mk (Kd.R_below (by (with_reducible repeat (first | apply Kd.R_alloc | apply Kd.R_drewN | apply Kd.R_drew)); exact HO337.out) hb); have n2_ := Aside0.mk (below_step (by repeat (first | (with_reducible first | exact HB.out | apply below_alloc | apply pw_below_drewN | apply below_drew1) | exact HB.out)) hb); clear HO334; clear HO337; clear HB; have HO334 := n0_; have HO337 := n1_; have HB := n2_; clear n0_ n1_ n2_; (try clear hb); (try clear hb2); (try clear hk); (try clear hi)))
                      go_ret
                      exact ⟨by first | rfl | (simp [errW_none, errW_some] <;> rfl) | (simp [*, errW_none, errW_some] <;> rfl), by repeat (first | (with_reducible first | exact HB.out | apply below_alloc | apply pw_below_drewN | apply below_drew1) | exact HB.out)⟩
                    · replace c41 := Bool.eq_false_iff.mpr c41
                      subst c41
                      have H1 : (none) = some r := by rw [if_neg (show ¬ (false = true) by decide)] at H; exact H
                      clear H
                      have H := H1
                      clear H1
                      exact absurd H (by simp)

end Go.Proofs.Ytfdhfnjdafaogaa.P
