-- printed by wip/tools/pp.sh (a patched copy of the print's program), for this claim.
import Derived.Test.YtcmcjfiaemchoaaPx0
import Derived.Test.YtcmcjfiaemchoaaPx1
import Derived.Test.YtcmcjfiaemchoaaPx9
import Derived.Test.YtcmcjfiaemchoaaMT
import Derived.Test.YtcmcjfiaemchoaaMV
namespace Go.Proofs.Ytcmcjfiaemchoaa.P
open Go.RowKit Go.Proofs.YtcmcjfiaemchoaaW.PrintWords Go.Proofs.YtcmcjfiaemchoaaW.PrintLast Go.Proofs.YtcmcjfiaemchoaaW.PrintMore
attribute [local go_sem] max2_int min2_int max_two min_two max_three min_three max_four min_four   -- for this text's walks alone
set_option linter.unusedVariables false
set_option linter.unusedSimpArgs false

/-! ### limelightlaw05_SlotsOrder: function 7 -/
mutual
def limelightlaw05_SlotsOrder.j0 : Nat → List (S35) → Int → Bool → Option (Bool)
  | 0, _, _, _ => none
  | k + 1, x0, x1, x18 => if x18 = true then ((limelightlaw05_live.f).bind fun t269 => (some t269)) else ((slots_Assigned.f x0 x1).bind fun t270 => (limelightlaw05_SlotsOrder.l0 k x0 x1 t270 1))
def limelightlaw05_SlotsOrder.l0 : Nat → List (S35) → Int → List Int → Int → Option (Bool)
  | 0, _, _, _, _ => none
  | k + 1, x0, x1, x5, x6 => if x6 < (x5.length : Int) then (if 0 ≤ (wrap64 (x6 - 1)) then (if (wrap64 (x6 - 1)) < (x5.length : Int) then (if 0 ≤ x6 then ((limelightref03_Before.f k x0 (rd x5 (wrap64 (x6 - 1))) (rd x5 x6)).bind fun t275 => (if t275 = true then (if 0 ≤ (rd x5 x6) then (if (rd x5 x6) < (x0.length : Int) then (if 0 < (x5.length : Int) then (if 0 ≤ (rd x5 0) then (if (rd x5 0) < (x0.length : Int) then (if ((rd_T35 x0 (rd x5 x6)).f2) = ((rd_T35 x0 (rd x5 0)).f2) then (limelightlaw05_SlotsOrder.l0 k x0 x1 x5 (wrap64 (x6 + 1))) else (none)) else (none)) else (none)) else (none)) else (none)) else (none)) else (none))) else (none)) else (none)) else (none)) else ((slots_All.f x0 x1).bind fun t280 => (limelightlaw05_SlotsOrder.l1 k x0 t280 1))
def limelightlaw05_SlotsOrder.l1 : Nat → List (S35) → List Int → Int → Option (Bool)
  | 0, _, _, _ => none
  | k + 1, x0, x7, x8 => if x8 < (x7.length : Int) then (if 0 ≤ (wrap64 (x8 - 1)) then (if (wrap64 (x8 - 1)) < (x7.length : Int) then (if 0 ≤ x8 then ((limelightref03_Before.f k x0 (rd x7 (wrap64 (x8 - 1))) (rd x7 x8)).bind fun t285 => (if t285 = true then (limelightlaw05_SlotsOrder.l1 k x0 x7 (wrap64 (x8 + 1))) else (none))) else (none)) else (none)) else (none)) else ((limelightlaw05_live.f).bind fun t286 => (some t286))
end
def limelightlaw05_SlotsOrder.f (k : Nat) (l0 : List (S35)) (a1 : Int) : Option (Bool) := (limelightref01_Few.f l0).bind fun t267 => (if t267 = true then ((limelightref03_Both.f l0 a1 a1).bind fun t268 => (limelightlaw05_SlotsOrder.j0 k l0 a1 (!t268))) else (limelightlaw05_SlotsOrder.j0 k l0 a1 true))
theorem limelightlaw05_SlotsOrder.mono_l : ∀ k, (∀ y0 y1 y2, LeO (limelightlaw05_SlotsOrder.j0 k y0 y1 y2) (limelightlaw05_SlotsOrder.j0 (k + 1) y0 y1 y2)) ∧ (∀ y0 y1 y2 y3, LeO (limelightlaw05_SlotsOrder.l0 k y0 y1 y2 y3) (limelightlaw05_SlotsOrder.l0 (k + 1) y0 y1 y2 y3)) ∧ (∀ y0 y1 y2, LeO (limelightlaw05_SlotsOrder.l1 k y0 y1 y2) (limelightlaw05_SlotsOrder.l1 (k + 1) y0 y1 y2))
  | 0 => ⟨fun _ _ _ r h => by simp [limelightlaw05_SlotsOrder.j0] at h, fun _ _ _ _ r h => by simp [limelightlaw05_SlotsOrder.l0] at h, fun _ _ _ r h => by simp [limelightlaw05_SlotsOrder.l1] at h⟩
  | k + 1 => by
    obtain ⟨ih0, ih1, ih2⟩ := limelightlaw05_SlotsOrder.mono_l k
    refine ⟨?_, ?_, ?_⟩
    · intro y0 y1 y2
      unfold limelightlaw05_SlotsOrder.j0
      repeat' first
      | (with_reducible exact ih0 _ _ _)
      | (with_reducible exact ih1 _ _ _ _)
      | (with_reducible exact ih2 _ _ _)
      | (with_reducible exact limelightref03_Before.mono _ _ _ _)
      | (with_reducible exact LeO.refl _)
      | (with_reducible exact LeO.none _)
      | (with_reducible refine LeO.ite ?_ ?_)
      | (with_reducible refine LeO.bind ?_ (fun _ => ?_))
      | exact ih0 _ _ _
      | exact ih1 _ _ _ _
      | exact ih2 _ _ _
      | exact limelightref03_Before.mono _ _ _ _
      | exact LeO.none _
      | refine LeO.ite ?_ ?_
      | refine LeO.bind ?_ (fun _ => ?_)
    · intro y0 y1 y2 y3
      unfold limelightlaw05_SlotsOrder.l0
      repeat' first
      | (with_reducible exact ih0 _ _ _)
      | (with_reducible exact ih1 _ _ _ _)
      | (with_reducible exact ih2 _ _ _)
      | (with_reducible exact limelightref03_Before.mono _ _ _ _)
      | (with_reducible exact LeO.refl _)
      | (with_reducible exact LeO.none _)
      | (with_reducible refine LeO.ite ?_ ?_)
      | (with_reducible refine LeO.bind ?_ (fun _ => ?_))
      | exact ih0 _ _ _
      | exact ih1 _ _ _ _
      | exact ih2 _ _ _
      | exact limelightref03_Before.mono _ _ _ _
      | exact LeO.none _
      | refine LeO.ite ?_ ?_
      | refine LeO.bind ?_ (fun _ => ?_)
    · intro y0 y1 y2
      unfold limelightlaw05_SlotsOrder.l1
      repeat' first
      | (with_reducible exact ih0 _ _ _)
      | (with_reducible exact ih1 _ _ _ _)
      | (with_reducible exact ih2 _ _ _)
      | (with_reducible exact limelightref03_Before.mono _ _ _ _)
      | (with_reducible exact LeO.refl _)
      | (with_reducible exact LeO.none _)
      | (with_reducible refine LeO.ite ?_ ?_)
      | (with_reducible refine LeO.bind ?_ (fun _ => ?_))
      | exact ih0 _ _ _
      | exact ih1 _ _ _ _
      | exact ih2 _ _ _
      | exact limelightref03_Before.mono _ _ _ _
      | exact LeO.none _
      | refine LeO.ite ?_ ?_
      | refine LeO.bind ?_ (fun _ => ?_)
theorem limelightlaw05_SlotsOrder.mono : ∀ a0 a1 k, LeO (limelightlaw05_SlotsOrder.f k a0 a1) (limelightlaw05_SlotsOrder.f (k + 1) a0 a1) := by
  intro a0 a1 k
  obtain ⟨ih0, ih1, ih2⟩ := limelightlaw05_SlotsOrder.mono_l k
  unfold limelightlaw05_SlotsOrder.f
  repeat' first
      | (with_reducible exact ih0 _ _ _)
      | (with_reducible exact ih1 _ _ _ _)
      | (with_reducible exact ih2 _ _ _)
      | (with_reducible exact limelightref03_Before.mono _ _ _ _)
      | (with_reducible exact LeO.refl _)
      | (with_reducible exact LeO.none _)
      | (with_reducible refine LeO.ite ?_ ?_)
      | (with_reducible refine LeO.bind ?_ (fun _ => ?_))
      | exact ih0 _ _ _
      | exact ih1 _ _ _ _
      | exact ih2 _ _ _
      | exact limelightref03_Before.mono _ _ _ _
      | exact LeO.none _
      | refine LeO.ite ?_ ?_
      | refine LeO.bind ?_ (fun _ => ?_)
def limelightlaw05_SlotsOrder.T7 : Bool × List (List Nat × List Nat) := (true, [([], []), ([], []), ([], []), ([2], [2]), ([1, 3], [1, 3]), ([4], [4]), ([], []), ([], []), ([6, 7], [6, 7]), ([8], [8]), ([0, 5, 9], [0, 5, 9]), ([10], [10]), ([11, 10], [11]), ([12], [12]), ([12], [12]), ([12], [12]), ([14, 15, 12], [12, 14, 15]), ([16, 12], [12, 16]), ([13, 17, 12], [12, 13, 17]), ([18, 12], [12, 18]), ([19, 12], [12, 19]), ([12], [12]), ([12], [12]), ([22, 12], [12, 22]), ([23, 12], [12, 23]), ([21, 24, 12], [12, 21, 24]), ([25, 12], [12, 25]), ([26, 12], [12, 26]), ([20, 27, 12], [12, 20, 27]), ([12, 28], [12, 28])])
def limelightlaw05_SlotsOrder.B7 : List Nat := [0, 0, 0, 4, 14, 30, 0, 0, 192, 448, 1023, 2047, 4095, 8191, 8191, 8191, 57343, 122879, 262143, 524287, 1048575, 8191, 8191, 4202495, 12591103, 31465471, 65019903, 132128767, 268435455, 536870911]
theorem limelightlaw05_SlotsOrder.tab7 : rtab .any (opsOf Try.f7 7) = limelightlaw05_SlotsOrder.T7 := by kernel_rfl
theorem limelightlaw05_SlotsOrder.bits7 : waitsOk limelightlaw05_SlotsOrder.T7.2 limelightlaw05_SlotsOrder.B7 = true := by kernel_rfl
def limelightlaw05_SlotsOrder.T13 : Bool × List (List Nat × List Nat) := (true, [([], []), ([], []), ([], []), ([2], [2]), ([1, 3], [1, 3]), ([4], [4]), ([], []), ([], []), ([6, 7], [6, 7]), ([8], [8]), ([0, 5, 9], [0, 5, 9]), ([10], [10])])
def limelightlaw05_SlotsOrder.B13 : List Nat := [0, 0, 0, 4, 14, 30, 0, 0, 192, 448, 1023, 2047]
theorem limelightlaw05_SlotsOrder.tab13 : rtab .any (opsOf Try.f7 13) = limelightlaw05_SlotsOrder.T13 := by kernel_rfl
theorem limelightlaw05_SlotsOrder.bits13 : waitsOk limelightlaw05_SlotsOrder.T13.2 limelightlaw05_SlotsOrder.B13 = true := by kernel_rfl
set_option maxHeartbeats 8000000 in
set_option maxRecDepth 100000 in
theorem limelightlaw05_SlotsOrder.calls (k : Nat) (A0 : Option Addr) (c0 : Nat) (l0 : List (S35)) (a1 : Int) (r : Bool) (w : World) (hr0 : Kd.C k35 w A0 l0.length l0) (hc0 : l0.length ≤ c0) (h : limelightlaw05_SlotsOrder.f k l0 a1 = some r) :
    Calls Try.prog 7 #[.slice A0 l0.length c0, .int .i64 a1] w fun e w' => e = .returned (.bool r) ∧ Below w.heap.size w w' := by
  have HR0 := Aside0.mk hr0
  have HC0 := Aside0.mk hc0
  clear hr0 hc0
  have HB := Aside0.mk (Below.refl w.heap.size w)
  have H : ((limelightref01_Few.f l0).bind fun t267 => (if t267 = true then ((limelightref03_Both.f l0 a1 a1).bind fun t268 => (limelightlaw05_SlotsOrder.j0 k l0 a1 (!t268))) else (limelightlaw05_SlotsOrder.j0 k l0 a1 true))) = some r := h
  clear h
  have HC3 := Aside0.mk H
  clear H
  go_enter Try.func7, Try.ntmps7
  go_upto_region 1 with (fail)
  go_cut [18] (fun v18 wc => ∃ (kq : Nat) (x18_2 : Bool), v18 = .bool x18_2 ∧ Aside0 (limelightlaw05_SlotsOrder.j0 kq l0 a1 x18_2 = some r) ∧ Aside0 (kq ≤ k) ∧ Aside0 (Below w.heap.size w wc))
  case first =>
    have H := HC3.out
    clear HC3
    replace H := Option.bind_eq_some_iff.mp H
    obtain ⟨t267, A40, H⟩ := H
    replace H : (if t267 = true then ((limelightref03_Both.f l0 a1 a1).bind fun t268 => (limelightlaw05_SlotsOrder.j0 k l0 a1 (!t268))) else (limelightlaw05_SlotsOrder.j0 k l0 a1 true)) = some r := H
    have A4 := Aside0.mk A40
    clear A40
    by_cases c5 : t267 = true
    · subst c5
      have H1 : ((limelightref03_Both.f l0 a1 a1).bind fun t268 => (limelightlaw05_SlotsOrder.j0 k l0 a1 (!t268))) = some r := by rw [if_pos rfl] at H; exact H
      clear H
      have H := H1
      clear H1
      replace H := Option.bind_eq_some_iff.mp H
      obtain ⟨t268, A60, H⟩ := H
      replace H : (limelightlaw05_SlotsOrder.j0 k l0 a1 (!t268)) = some r := H
      have A6 := Aside0.mk A60
      clear A60
      have H' := Aside0.mk H
      clear H
      go_wp2_with (first | ((with_reducible refine gate_callee (f := 9) rfl ?_); refine goesL_ (some 10) rfl rfl Try.func9 (by kernel_rfl) rfl #[.slice A0 l0.length c0] rfl (by (try simp only [List.map_toArray, List.map_cons, List.map_nil]); first | done | rfl | (simp only [List.length_drop, List.length_take]; rfl)) ?_; (with_reducible refine (limelightref01_Few.calls _ _ l0 true _ ?side1 ?side2 A4.out).mono ?_); (case side1 => repeat (first | exact (Kd.C_below HR0.out HB.out) | (with_reducible refine Kd.C_alloc ?_ _) | (with_reducible refine Kd.C_drewN ?_ _) | (with_reducible refine Kd.C_drew ?_))); (case side2 => exact HC0.out); rintro e w7 ⟨rfl, hb⟩; refine ⟨_, rfl, ?_⟩; have n0_ := Aside0.mk (below_step (by repeat (first | (with_reducible first | exact HB.out | apply below_alloc | apply pw_below_drewN | apply below_drew1) | exact HB.out)) hb); clear HB; have HB := n0_; clear n0_; (try clear hb); (try clear hb2); (try clear hk); (try clear hi)) | (go_at_call 11; (with_reducible refine (limelightref03_Both.calls _ _ l0 a1 a1 t268 _ ?side1 ?side2 A6.out).mono ?_); (case side1 => repeat (first | exact (Kd.C_below HR0.out HB.out) | (with_reducible refine Kd.C_alloc ?_ _) | (with_reducible refine Kd.C_drewN ?_ _) | (with_reducible refine Kd.C_drew ?_))); (case side2 => exact HC0.out); rintro e w8 ⟨rfl, hb⟩; have n0_ := Aside0.mk (below_step (by repeat (first | (with_reducible first | exact HB.out | apply below_alloc | apply pw_below_drewN | apply below_drew1) | exact HB.out)) hb); clear HB; have HB := n0_; clear n0_; (try clear hb); (try clear hb2); (try clear hk); (try clear hi)))
      go_meet
      case rel => exact ⟨_, (!t268), (by first | rfl | (simp; done) | (simp [*]; done)), H', ⟨by first | omega | exact Nat.le_refl _⟩, ⟨by repeat (first | (with_reducible first | exact HB.out | apply below_alloc | apply pw_below_drewN | apply below_drew1) | exact HB.out)⟩⟩
    · replace c5 := Bool.eq_false_iff.mpr c5
      subst c5
      have H1 : (limelightlaw05_SlotsOrder.j0 k l0 a1 true) = some r := by rw [if_neg (show ¬ (false = true) by decide)] at H; exact H
      clear H
      have H := H1
      clear H1
      have H' := Aside0.mk H
      clear H
      go_wp2_with (first | ((with_reducible refine gate_callee (f := 9) rfl ?_); refine goesL_ (some 10) rfl rfl Try.func9 (by kernel_rfl) rfl #[.slice A0 l0.length c0] rfl (by (try simp only [List.map_toArray, List.map_cons, List.map_nil]); first | done | rfl | (simp only [List.length_drop, List.length_take]; rfl)) ?_; (with_reducible refine (limelightref01_Few.calls _ _ l0 false _ ?side1 ?side2 A4.out).mono ?_); (case side1 => repeat (first | exact (Kd.C_below HR0.out HB.out) | (with_reducible refine Kd.C_alloc ?_ _) | (with_reducible refine Kd.C_drewN ?_ _) | (with_reducible refine Kd.C_drew ?_))); (case side2 => exact HC0.out); rintro e w9 ⟨rfl, hb⟩; refine ⟨_, rfl, ?_⟩; have n0_ := Aside0.mk (below_step (by repeat (first | (with_reducible first | exact HB.out | apply below_alloc | apply pw_below_drewN | apply below_drew1) | exact HB.out)) hb); clear HB; have HB := n0_; clear n0_; (try clear hb); (try clear hb2); (try clear hk); (try clear hi)))
      go_meet
      case rel => exact ⟨_, (true), (by first | rfl | (simp; done) | (simp [*]; done)), H', ⟨by first | omega | exact Nat.le_refl _⟩, ⟨by repeat (first | (with_reducible first | exact HB.out | apply below_alloc | apply pw_below_drewN | apply below_drew1) | exact HB.out)⟩⟩
  case rest =>
    clear HC3
    try clear p2
    try clear c5
    try clear c7
    try clear c9
    obtain ⟨kq, x18_2, rfl, HA, HJ2, HB⟩ := hcut
    cases kq with
    | zero => exact absurd HA.out (by simp [limelightlaw05_SlotsOrder.j0])
    | succ kj2 =>
      have H := HA.out
      clear HA
      simp only [limelightlaw05_SlotsOrder.j0] at H
      by_cases c10 : x18_2 = true
      · subst c10
        have H1 : ((limelightlaw05_live.f).bind fun t269 => (some t269)) = some r := by rw [if_pos rfl] at H; exact H
        clear H
        have H := H1
        clear H1
        replace H := Option.bind_eq_some_iff.mp H
        obtain ⟨t269, A110, H⟩ := H
        replace H : (some t269) = some r := H
        have A11 := Aside0.mk A110
        clear A110
        obtain rfl := Option.some.inj H
        go_wp2_with (first | ((with_reducible refine gate_callee (f := 10) rfl ?_); refine goesL_ (some 19) rfl rfl Try.func10 (by kernel_rfl) rfl #[] rfl (by (try simp only [List.map_toArray, List.map_cons, List.map_nil]); first | done | rfl | (simp only [List.length_drop, List.length_take]; rfl)) ?_; (with_reducible refine (limelightlaw05_live.calls  t269 _ A11.out).mono ?_); rintro e w12 ⟨rfl, hb⟩; refine ⟨_, rfl, ?_⟩; have n0_ := Aside0.mk (below_step (by repeat (first | (with_reducible first | exact HB.out | apply below_alloc | apply pw_below_drewN | apply below_drew1) | exact HB.out)) hb); clear HB; have HB := n0_; clear n0_; (try clear hb); (try clear hb2); (try clear hk); (try clear hi)))
        go_ret
        exact ⟨by first | rfl | (simp [errW_none, errW_some] <;> rfl) | (simp [*, errW_none, errW_some] <;> rfl), by repeat (first | (with_reducible first | exact HB.out | apply below_alloc | apply pw_below_drewN | apply below_drew1) | exact HB.out)⟩
      · replace c10 := Bool.eq_false_iff.mpr c10
        subst c10
        have H1 : ((slots_Assigned.f l0 a1).bind fun t270 => (limelightlaw05_SlotsOrder.l0 kj2 l0 a1 t270 1)) = some r := by rw [if_neg (show ¬ (false = true) by decide)] at H; exact H
        clear H
        have H := H1
        clear H1
        replace H := Option.bind_eq_some_iff.mp H
        obtain ⟨t270, A130, H⟩ := H
        replace H : (limelightlaw05_SlotsOrder.l0 kj2 l0 a1 t270 1) = some r := H
        have A13 := Aside0.mk A130
        clear A130
        have H' := Aside0.mk H
        clear H
        go_wp2_with (first | ((with_reducible refine gate_callee (f := 13) rfl ?_); refine goesL_ (some 22) rfl rfl Try.func13 (by kernel_rfl) rfl #[.slice A0 l0.length c0, .int .i64 a1] rfl (by (try simp only [List.map_toArray, List.map_cons, List.map_nil]); first | done | rfl | (simp only [List.length_drop, List.length_take]; rfl)) ?_; (with_reducible refine (slots_Assigned.calls _ _ l0 a1 t270 _ ?side1 ?side2 A13.out).mono ?_); (case side1 => repeat (first | exact (Kd.C_below HR0.out HB.out) | (with_reducible refine Kd.C_alloc ?_ _) | (with_reducible refine Kd.C_drewN ?_ _) | (with_reducible refine Kd.C_drew ?_))); (case side2 => exact HC0.out); rintro e w14 ⟨v271, rfl, ho0, hb⟩; refine ⟨_, rfl, ?_⟩; have n0_ := Aside0.mk (Kd.R_lower ho0 (below_size (by repeat (first | (with_reducible first | exact HB.out | apply below_alloc | apply pw_below_drewN | apply below_drew1) | exact HB.out)))); have n1_ := Aside0.mk (below_step (by repeat (first | (with_reducible first | exact HB.out | apply below_alloc | apply pw_below_drewN | apply below_drew1) | exact HB.out)) hb); clear HB; have HO272 := n0_; have HB := n1_; clear n0_ n1_; (try clear hb); (try clear hb2); (try clear hk); (try clear hi); (try clear ho0)))
        go_loopg [6] kj2 (fun kq v6 w' => ∃ (x6_2 : Int), v6 = .int .i64 x6_2 ∧ Aside0 (limelightlaw05_SlotsOrder.l0 kq l0 a1 t270 x6_2 = some r) ∧ Aside0 (kq ≤ kj2) ∧ Aside0 (Kd.R (Kd.int .i64) 3 w' w.heap.size (fun _ => True) v271 t270) ∧ Aside0 (Below w.heap.size w w'))
        case atStart => exact ⟨(1), (by first | rfl | (simp; done) | (simp [*]; done)), H', ⟨Nat.le_refl _⟩, ⟨by (with_reducible repeat (first | apply Kd.R_alloc | apply Kd.R_drewN | apply Kd.R_drew)); exact HO272.out⟩, ⟨by repeat (first | (with_reducible first | exact HB.out | apply below_alloc | apply pw_below_drewN | apply below_drew1) | exact HB.out)⟩⟩
        case round =>
          clear H'
          try clear c1
          try clear p2
          try clear c5
          try clear c7
          try clear c9
          try clear c10
          try clear c13
          try clear p2
          obtain ⟨x6_2, rfl, HA, HK2, HO_5, HB⟩ := hrel
          cases gk with
          | zero => exact absurd HA.out (by simp [limelightlaw05_SlotsOrder.l0])
          | succ k2 =>
            have H := HA.out
            clear HA
            simp only [limelightlaw05_SlotsOrder.l0] at H
            by_cases c15 : x6_2 < (t270.length : Int)
            · rw [if_pos c15] at H
              have c15b0 : decide (x6_2 < (t270.length : Int)) = true := decide_eq_true c15
              clear c15
              obtain ⟨ji16, hji16⟩ : ∃ j_ : Int, (wrap64 (x6_2 - 1)) = j_ := ⟨_, rfl⟩
              replace H : (if 0 ≤ (ji16) then (if (ji16) < (t270.length : Int) then (if 0 ≤ x6_2 then ((limelightref03_Before.f k2 l0 (rd t270 (ji16)) (rd t270 x6_2)).bind fun t275 => (if t275 = true then (if 0 ≤ (rd t270 x6_2) then (if (rd t270 x6_2) < (l0.length : Int) then (if 0 < (t270.length : Int) then (if 0 ≤ (rd t270 0) then (if (rd t270 0) < (l0.length : Int) then (if ((rd_T35 l0 (rd t270 x6_2)).f2) = ((rd_T35 l0 (rd t270 0)).f2) then (limelightlaw05_SlotsOrder.l0 k2 l0 a1 t270 (wrap64 (x6_2 + 1))) else (none)) else (none)) else (none)) else (none)) else (none)) else (none)) else (none))) else (none)) else (none)) else (none)) = some r := by first | (rw [hji16] at H; exact H) | (simp only [hji16] at H ⊢; exact H)
              have hji16w : (IntKind.i64.wrap (x6_2 - 1)) = ji16 := (i64_w _).trans hji16
              by_cases c17 : 0 ≤ (ji16)
              · rw [if_pos c17] at H
                have c17b0 : decide (0 ≤ (ji16)) = true := decide_eq_true c17
                clear c17
                by_cases c18 : (ji16) < (t270.length : Int)
                · rw [if_pos c18] at H
                  have c18b0 : decide ((ji16) < (t270.length : Int)) = true := decide_eq_true c18
                  clear c18
                  by_cases c19 : 0 ≤ x6_2
                  · rw [if_pos c19] at H
                    have c19b0 : decide (0 ≤ x6_2) = true := decide_eq_true c19
                    clear c19
                    replace H := Option.bind_eq_some_iff.mp H
                    obtain ⟨t275, A200, H⟩ := H
                    replace H : (if t275 = true then (if 0 ≤ (rd t270 x6_2) then (if (rd t270 x6_2) < (l0.length : Int) then (if 0 < (t270.length : Int) then (if 0 ≤ (rd t270 0) then (if (rd t270 0) < (l0.length : Int) then (if ((rd_T35 l0 (rd t270 x6_2)).f2) = ((rd_T35 l0 (rd t270 0)).f2) then (limelightlaw05_SlotsOrder.l0 k2 l0 a1 t270 (wrap64 (x6_2 + 1))) else (none)) else (none)) else (none)) else (none)) else (none)) else (none)) else (none)) = some r := H
                    have A20 := Aside0.mk A200
                    clear A200
                    by_cases c21 : t275 = true
                    · subst c21
                      have H1 : (if 0 ≤ (rd t270 x6_2) then (if (rd t270 x6_2) < (l0.length : Int) then (if 0 < (t270.length : Int) then (if 0 ≤ (rd t270 0) then (if (rd t270 0) < (l0.length : Int) then (if ((rd_T35 l0 (rd t270 x6_2)).f2) = ((rd_T35 l0 (rd t270 0)).f2) then (limelightlaw05_SlotsOrder.l0 k2 l0 a1 t270 (wrap64 (x6_2 + 1))) else (none)) else (none)) else (none)) else (none)) else (none)) else (none)) = some r := by rw [if_pos rfl] at H; exact H
                      clear H
                      have H := H1
                      clear H1
                      by_cases c22 : 0 ≤ (rd t270 x6_2)
                      · rw [if_pos c22] at H
                        have c22b0 : decide (0 ≤ (rd t270 x6_2)) = true := decide_eq_true c22
                        clear c22
                        by_cases c23 : (rd t270 x6_2) < (l0.length : Int)
                        · rw [if_pos c23] at H
                          have c23b0 : decide ((rd t270 x6_2) < (l0.length : Int)) = true := decide_eq_true c23
                          clear c23
                          by_cases c24 : 0 < (t270.length : Int)
                          · rw [if_pos c24] at H
                            have c24b0 : decide (0 < (t270.length : Int)) = true := decide_eq_true c24
                            have c24b1 : decide (0 < t270.length) = true := decide_eq_true (by omega)
                            clear c24
                            by_cases c25 : 0 ≤ (rd t270 0)
                            · rw [if_pos c25] at H
                              have c25b0 : decide (0 ≤ (rd t270 0)) = true := decide_eq_true c25
                              clear c25
                              by_cases c26 : (rd t270 0) < (l0.length : Int)
                              · rw [if_pos c26] at H
                                have c26b0 : decide ((rd t270 0) < (l0.length : Int)) = true := decide_eq_true c26
                                clear c26
                                by_cases c27 : ((rd_T35 l0 (rd t270 x6_2)).f2) = ((rd_T35 l0 (rd t270 0)).f2)
                                · rw [if_pos c27] at H
                                  have c27b0 : (((rd_T35 l0 (rd t270 x6_2)).f2) == ((rd_T35 l0 (rd t270 0)).f2)) = true := beq_iff_eq.mpr c27
                                  have c27b1 : (((rd_T35 l0 (rd t270 x6_2)).f2) != ((rd_T35 l0 (rd t270 0)).f2)) = false := bne_eq_false_iff_eq.mpr c27
                                  clear c27
                                  have H' := Aside0.mk H
                                  clear H
                                  obtain ⟨Ao28, co28, eo28⟩ := Kd.R_slice HO_5.out
                                  subst eo28
                                  try go_wp2
                                  have n0_ := Aside0.mk (Kd.R_drew HO_5.out)
                                  have n1_ := Aside0.mk (below_drew1 HB.out)
                                  clear HO_5
                                  clear HB
                                  have HO_5 := n0_
                                  have HB := n1_
                                  clear n0_ n1_
                                  have p273 : 0 ≤ ((ji16) : Int) := of_decide_eq_true (by first | (with_reducible assumption) | assumption)
                                  have q273 : (ji16) < (t270.length : Int) := of_decide_eq_true (by first | (with_reducible assumption) | assumption)
                                  obtain ⟨ad273, e273, hx273_0⟩ := Kd.at_int (Kd.R_reads' HO_5.out).2.2 (ji16) p273 q273
                                  cases e273
                                  replace p273 := eq_true p273
                                  replace q273 := eq_true q273
                                  have p274 : 0 ≤ (x6_2 : Int) := of_decide_eq_true (by first | (with_reducible assumption) | assumption)
                                  have q274 : x6_2 < (t270.length : Int) := of_decide_eq_true (by first | (with_reducible assumption) | assumption)
                                  obtain ⟨ad274, e274, hx274_0⟩ := Kd.at_int (Kd.R_reads' HO_5.out).2.2 x6_2 p274 q274
                                  obtain rfl : ad273 = ad274 := (by injection e274)
                                  replace p274 := eq_true p274
                                  replace q274 := eq_true q274
                                  have p276 : 0 ≤ (x6_2 : Int) := of_decide_eq_true (by first | (with_reducible assumption) | assumption)
                                  have q276 : x6_2 < (t270.length : Int) := of_decide_eq_true (by first | (with_reducible assumption) | assumption)
                                  obtain ⟨ad276, e276, hx276_0⟩ := Kd.at_int (Kd.R_reads' HO_5.out).2.2 x6_2 p276 q276
                                  obtain rfl : ad273 = ad276 := (by injection e276)
                                  replace p276 := eq_true p276
                                  replace q276 := eq_true q276
                                  have p277 : 0 ≤ ((rd t270 x6_2) : Int) := of_decide_eq_true (by first | (with_reducible assumption) | assumption)
                                  have q277 : (rd t270 x6_2) < (l0.length : Int) := of_decide_eq_true (by first | (with_reducible assumption) | assumption)
                                  obtain ⟨ad277, A277_3, c277_3, A277_6, c277_6, e277, hx277_0, hx277_1, hx277_2, hx277_3, hx277_4, hx277_5, hx277_6, hl277_3, hi277_3, hl277_6, hi277_6⟩ := at_T35 HR0.out (rd t270 x6_2) p277 q277
                                  have hw277_6 := hx277_6
                                  have hw277_5 := hx277_5
                                  have hw277_4 := hx277_4
                                  have hw277_3 := hx277_3
                                  have hw277_2 := hx277_2
                                  have hw277_1 := hx277_1
                                  have hw277_0 := hx277_0
                                  cases e277
                                  replace hx277_0 := (HB.out.cell (World.block_lt_of_cell? w _ hx277_0)).trans hx277_0
                                  replace hx277_1 := (HB.out.cell (World.block_lt_of_cell? w _ hx277_1)).trans hx277_1
                                  replace hx277_2 := (HB.out.cell (World.block_lt_of_cell? w _ hx277_2)).trans hx277_2
                                  replace hx277_3 := (HB.out.cell (World.block_lt_of_cell? w _ hx277_3)).trans hx277_3
                                  replace hx277_4 := (HB.out.cell (World.block_lt_of_cell? w _ hx277_4)).trans hx277_4
                                  replace hx277_5 := (HB.out.cell (World.block_lt_of_cell? w _ hx277_5)).trans hx277_5
                                  replace hx277_6 := (HB.out.cell (World.block_lt_of_cell? w _ hx277_6)).trans hx277_6
                                  have HR277_3 := Aside0.mk hi277_3
                                  have HC277_3 := Aside0.mk hl277_3
                                  clear hi277_3 hl277_3
                                  have HR277_6 := Aside0.mk hi277_6
                                  have HC277_6 := Aside0.mk hl277_6
                                  clear hi277_6 hl277_6
                                  replace p277 := eq_true p277
                                  replace q277 := eq_true q277
                                  have p278 : 0 ≤ (0 : Int) := (by omega)
                                  have q278 : 0 < (t270.length : Int) := of_decide_eq_true (by first | (with_reducible assumption) | assumption)
                                  obtain ⟨ad278, e278, hx278_0⟩ := Kd.at_int (Kd.R_reads' HO_5.out).2.2 0 p278 q278
                                  obtain rfl : ad273 = ad278 := (by injection e278)
                                  have qi278 : (0 < t270.length) = True := eq_true (by omega)
                                  (try rw [show ((0 : Int)).toNat = 0 from rfl] at hx278_0)
                                  (try rw [Addr.add_zero'] at hx278_0)
                                  replace p278 := eq_true p278
                                  replace q278 := eq_true q278
                                  have p279 : 0 ≤ ((rd t270 0) : Int) := of_decide_eq_true (by first | (with_reducible assumption) | assumption)
                                  have q279 : (rd t270 0) < (l0.length : Int) := of_decide_eq_true (by first | (with_reducible assumption) | assumption)
                                  obtain ⟨ad279, A279_3, c279_3, A279_6, c279_6, e279, hx279_0, hx279_1, hx279_2, hx279_3, hx279_4, hx279_5, hx279_6, hl279_3, hi279_3, hl279_6, hi279_6⟩ := at_T35 HR0.out (rd t270 0) p279 q279
                                  have hw279_6 := hx279_6
                                  have hw279_5 := hx279_5
                                  have hw279_4 := hx279_4
                                  have hw279_3 := hx279_3
                                  have hw279_2 := hx279_2
                                  have hw279_1 := hx279_1
                                  have hw279_0 := hx279_0
                                  obtain rfl : ad277 = ad279 := (by injection e279)
                                  replace hx279_0 := (HB.out.cell (World.block_lt_of_cell? w _ hx279_0)).trans hx279_0
                                  replace hx279_1 := (HB.out.cell (World.block_lt_of_cell? w _ hx279_1)).trans hx279_1
                                  replace hx279_2 := (HB.out.cell (World.block_lt_of_cell? w _ hx279_2)).trans hx279_2
                                  replace hx279_3 := (HB.out.cell (World.block_lt_of_cell? w _ hx279_3)).trans hx279_3
                                  replace hx279_4 := (HB.out.cell (World.block_lt_of_cell? w _ hx279_4)).trans hx279_4
                                  replace hx279_5 := (HB.out.cell (World.block_lt_of_cell? w _ hx279_5)).trans hx279_5
                                  replace hx279_6 := (HB.out.cell (World.block_lt_of_cell? w _ hx279_6)).trans hx279_6
                                  have HR279_3 := Aside0.mk hi279_3
                                  have HC279_3 := Aside0.mk hl279_3
                                  clear hi279_3 hl279_3
                                  have HR279_6 := Aside0.mk hi279_6
                                  have HC279_6 := Aside0.mk hl279_6
                                  clear hi279_6 hl279_6
                                  replace p279 := eq_true p279
                                  replace q279 := eq_true q279
                                  refine start_ (n := 30) (S := fun w' => w'.cell? (ad273.add ((ji16)).toNat) = some (.int .i64 (rd t270 (ji16))) ∧ w'.cell? (ad273.add (x6_2).toNat) = some (.int .i64 (rd t270 x6_2)) ∧ w'.cell? (ad273.add (x6_2).toNat) = some (.int .i64 (rd t270 x6_2)) ∧ w'.cell? (ad277.add (((rd t270 x6_2)).toNat * 7)) = some (.int .i64 ((rd_T35 l0 (rd t270 x6_2)).f0)) ∧ w'.cell? ⟨(ad277.add (((rd t270 x6_2)).toNat * 7)).block, (ad277.add (((rd t270 x6_2)).toNat * 7)).off + 1, none⟩ = some (.int .i64 ((rd_T35 l0 (rd t270 x6_2)).f1)) ∧ w'.cell? ⟨(ad277.add (((rd t270 x6_2)).toNat * 7)).block, (ad277.add (((rd t270 x6_2)).toNat * 7)).off + 2, none⟩ = some (.int .i64 ((rd_T35 l0 (rd t270 x6_2)).f2)) ∧ w'.cell? ⟨(ad277.add (((rd t270 x6_2)).toNat * 7)).block, (ad277.add (((rd t270 x6_2)).toNat * 7)).off + 3, none⟩ = some (.slice A277_3 ((rd_T35 l0 (rd t270 x6_2)).f3).length c277_3) ∧ w'.cell? ⟨(ad277.add (((rd t270 x6_2)).toNat * 7)).block, (ad277.add (((rd t270 x6_2)).toNat * 7)).off + 4, none⟩ = some (.int .i64 ((rd_T35 l0 (rd t270 x6_2)).f4)) ∧ w'.cell? ⟨(ad277.add (((rd t270 x6_2)).toNat * 7)).block, (ad277.add (((rd t270 x6_2)).toNat * 7)).off + 5, none⟩ = some (.int .i64 ((rd_T35 l0 (rd t270 x6_2)).f5)) ∧ w'.cell? ⟨(ad277.add (((rd t270 x6_2)).toNat * 7)).block, (ad277.add (((rd t270 x6_2)).toNat * 7)).off + 6, none⟩ = some (.slice A277_6 ((rd_T35 l0 (rd t270 x6_2)).f6).length c277_6) ∧ w'.cell? ad273 = some (.int .i64 (rd t270 0)) ∧ w'.cell? (ad277.add (((rd t270 0)).toNat * 7)) = some (.int .i64 ((rd_T35 l0 (rd t270 0)).f0)) ∧ w'.cell? ⟨(ad277.add (((rd t270 0)).toNat * 7)).block, (ad277.add (((rd t270 0)).toNat * 7)).off + 1, none⟩ = some (.int .i64 ((rd_T35 l0 (rd t270 0)).f1)) ∧ w'.cell? ⟨(ad277.add (((rd t270 0)).toNat * 7)).block, (ad277.add (((rd t270 0)).toNat * 7)).off + 2, none⟩ = some (.int .i64 ((rd_T35 l0 (rd t270 0)).f2)) ∧ w'.cell? ⟨(ad277.add (((rd t270 0)).toNat * 7)).block, (ad277.add (((rd t270 0)).toNat * 7)).off + 3, none⟩ = some (.slice A279_3 ((rd_T35 l0 (rd t270 0)).f3).length c279_3) ∧ w'.cell? ⟨(ad277.add (((rd t270 0)).toNat * 7)).block, (ad277.add (((rd t270 0)).toNat * 7)).off + 4, none⟩ = some (.int .i64 ((rd_T35 l0 (rd t270 0)).f4)) ∧ w'.cell? ⟨(ad277.add (((rd t270 0)).toNat * 7)).block, (ad277.add (((rd t270 0)).toNat * 7)).off + 5, none⟩ = some (.int .i64 ((rd_T35 l0 (rd t270 0)).f5)) ∧ w'.cell? ⟨(ad277.add (((rd t270 0)).toNat * 7)).block, (ad277.add (((rd t270 0)).toNat * 7)).off + 6, none⟩ = some (.slice A279_6 ((rd_T35 l0 (rd t270 0)).f6).length c279_6)) (ds := []) #[false, false, false, false, false, false, false, false, false, false, false, false, false, false, false, false, false, false, false, false, false, false, false, false, false, false, false, false, false, false] (by kernel_rfl) rfl rfl ⟨hx273_0, hx274_0, hx276_0, ((HB.out.cell (World.block_lt_of_cell? w _ hw277_0)).trans hw277_0), ((HB.out.cell (World.block_lt_of_cell? w _ hw277_1)).trans hw277_1), ((HB.out.cell (World.block_lt_of_cell? w _ hw277_2)).trans hw277_2), ((HB.out.cell (World.block_lt_of_cell? w _ hw277_3)).trans hw277_3), ((HB.out.cell (World.block_lt_of_cell? w _ hw277_4)).trans hw277_4), ((HB.out.cell (World.block_lt_of_cell? w _ hw277_5)).trans hw277_5), ((HB.out.cell (World.block_lt_of_cell? w _ hw277_6)).trans hw277_6), hx278_0, ((HB.out.cell (World.block_lt_of_cell? w _ hw279_0)).trans hw279_0), ((HB.out.cell (World.block_lt_of_cell? w _ hw279_1)).trans hw279_1), ((HB.out.cell (World.block_lt_of_cell? w _ hw279_2)).trans hw279_2), ((HB.out.cell (World.block_lt_of_cell? w _ hw279_3)).trans hw279_3), ((HB.out.cell (World.block_lt_of_cell? w _ hw279_4)).trans hw279_4), ((HB.out.cell (World.block_lt_of_cell? w _ hw279_5)).trans hw279_5), ((HB.out.cell (World.block_lt_of_cell? w _ hw279_6)).trans hw279_6)⟩ (fun hHeld => ?_); refine with_tabW limelightlaw05_SlotsOrder.tab7 limelightlaw05_SlotsOrder.bits7 (fun HT_ HW_ => ?_)
                                  generalize wr.drew = w29 at HO_5 HB HR277_3 HR277_6 HR279_3 HR279_6 hx273_0 hx274_0 hx276_0 hx277_0 hx277_1 hx277_2 hx277_3 hx277_4 hx277_5 hx277_6 hx278_0 hx279_0 hx279_1 hx279_2 hx279_3 hx279_4 hx279_5 hx279_6 hHeld ⊢
                                  refine pure_ (i := 0) (N := some 29) (v := ?_) (a' := ?_) #[true, false, false, false, false, false, false, false, false, false, false, false, false, false, false, false, false, false, false, false, false, false, false, false, false, false, false, false, false, false] rfl rfl (any_of HT_.out (by kernel_rfl)) (fun _ _ _ h => h) (Or.inl ⟨by rfl, ?_⟩) ?_ ?_
                                  rotate_left
                                  · intro w'
                                    go_simp
                                    with_reducible rfl
                                  rotate_left
                                  · simp only [Act.put, List.setIfInBounds_toArray, List.set_cons_zero, List.set_cons_succ, i64_w, i32_w]
                                    rfl
                                  refine pure_ (i := 1) (N := some 30) (v := ?_) (a' := ?_) #[true, true, false, false, false, false, false, false, false, false, false, false, false, false, false, false, false, false, false, false, false, false, false, false, false, false, false, false, false, false] rfl rfl (any_of HT_.out (by kernel_rfl)) (fun _ _ _ h => h) (Or.inl ⟨by rfl, ?_⟩) ?_ ?_
                                  rotate_left
                                  · intro w'
                                    go_simp
                                    with_reducible rfl
                                  rotate_left
                                  · simp only [Act.put, List.setIfInBounds_toArray, List.set_cons_zero, List.set_cons_succ, i64_w, i32_w]
                                    rfl
                                  refine pure_ (i := 2) (N := some 31) (v := ?_) (a' := ?_) #[true, true, true, false, false, false, false, false, false, false, false, false, false, false, false, false, false, false, false, false, false, false, false, false, false, false, false, false, false, false] rfl rfl (any_of HT_.out (by kernel_rfl)) (fun _ _ _ h => h) (Or.inl ⟨by rfl, ?_⟩) ?_ ?_
                                  rotate_left
                                  · intro w'
                                    go_simp
                                    with_reducible rfl
                                  rotate_left
                                  · simp only [Act.put, List.setIfInBounds_toArray, List.set_cons_zero, List.set_cons_succ, i64_w, i32_w]
                                    rfl
                                  refine pure_ (i := 3) (N := some 32) (v := ?_) (a' := ?_) #[true, true, true, true, false, false, false, false, false, false, false, false, false, false, false, false, false, false, false, false, false, false, false, false, false, false, false, false, false, false] rfl rfl (any_of HT_.out (by kernel_rfl)) (fun _ _ _ h => h) (Or.inl ⟨by rfl, ?_⟩) ?_ ?_
                                  rotate_left
                                  · intro w'
                                    go_simp
                                    with_reducible rfl
                                  rotate_left
                                  · simp only [Act.put, List.setIfInBounds_toArray, List.set_cons_zero, List.set_cons_succ, i64_w, i32_w]
                                    rfl
                                  refine pure_ (i := 4) (N := some 33) (v := ?_) (a' := ?_) #[true, true, true, true, true, false, false, false, false, false, false, false, false, false, false, false, false, false, false, false, false, false, false, false, false, false, false, false, false, false] rfl rfl (any_of HT_.out (by kernel_rfl)) (fun _ _ _ h => h) (Or.inl ⟨by rfl, ?_⟩) ?_ ?_
                                  rotate_left
                                  · intro w'
                                    go_simp
                                    with_reducible rfl
                                  rotate_left
                                  · simp only [Act.put, List.setIfInBounds_toArray, List.set_cons_zero, List.set_cons_succ, i64_w, i32_w]
                                    rfl
                                  refine pure_ (i := 6) (N := some 35) (v := ?_) (a' := ?_) #[true, true, true, true, true, false, true, false, false, false, false, false, false, false, false, false, false, false, false, false, false, false, false, false, false, false, false, false, false, false] rfl rfl (any_of HT_.out (by kernel_rfl)) (fun _ _ _ h => h) (Or.inl ⟨by rfl, ?_⟩) ?_ ?_
                                  rotate_left
                                  · intro w'
                                    go_simp
                                    with_reducible rfl
                                  rotate_left
                                  · simp only [Act.put, List.setIfInBounds_toArray, List.set_cons_zero, List.set_cons_succ, i64_w, i32_w]
                                    rfl
                                  refine pure_ (i := 7) (N := some 36) (v := ?_) (a' := ?_) #[true, true, true, true, true, false, true, true, false, false, false, false, false, false, false, false, false, false, false, false, false, false, false, false, false, false, false, false, false, false] rfl rfl (any_of HT_.out (by kernel_rfl)) (fun _ _ _ h => h) (Or.inl ⟨by rfl, ?_⟩) ?_ ?_
                                  rotate_left
                                  · intro w'
                                    go_simp
                                    with_reducible rfl
                                  rotate_left
                                  · simp only [Act.put, List.setIfInBounds_toArray, List.set_cons_zero, List.set_cons_succ, i64_w, i32_w]
                                    rfl
                                  refine pure_ (i := 8) (N := some 37) (v := ?_) (a' := ?_) #[true, true, true, true, true, false, true, true, true, false, false, false, false, false, false, false, false, false, false, false, false, false, false, false, false, false, false, false, false, false] rfl rfl (any_of HT_.out (by kernel_rfl)) (fun _ _ _ h => h) (Or.inl ⟨by rfl, ?_⟩) ?_ ?_
                                  rotate_left
                                  · intro w'
                                    go_simp
                                    with_reducible rfl
                                  rotate_left
                                  · simp only [Act.put, List.setIfInBounds_toArray, List.set_cons_zero, List.set_cons_succ, i64_w, i32_w]
                                    rfl
                                  refine take_ (i := 5) (N := some 34) (v := ?_) (a' := ?_) #[true, true, true, true, true, true, true, true, true, false, false, false, false, false, false, false, false, false, false, false, false, false, false, false, false, false, false, false, false, false] rfl rfl (take_ofW HT_.out HW_.out (by kernel_rfl)) (fun _ _ _ h => h) (Or.inl ⟨by rfl, ?_⟩) hHeld ?_ ?_
                                  rotate_left
                                  · rintro w' ⟨s0, s1, s2, s3, s4, s5, s6, s7, s8, s9, s10, s11, s12, s13, s14, s15, s16, s17⟩
                                    go_simp
                                    with_reducible rfl
                                  rotate_left
                                  · simp only [Act.put, List.setIfInBounds_toArray, List.set_cons_zero, List.set_cons_succ, i64_w, i32_w]
                                    rfl
                                  refine take_ (i := 9) (N := some 38) (v := ?_) (a' := ?_) #[true, true, true, true, true, true, true, true, true, true, false, false, false, false, false, false, false, false, false, false, false, false, false, false, false, false, false, false, false, false] rfl rfl (take_ofW HT_.out HW_.out (by kernel_rfl)) (fun _ _ _ h => h) (Or.inl ⟨by rfl, ?_⟩) hHeld ?_ ?_
                                  rotate_left
                                  · rintro w' ⟨s0, s1, s2, s3, s4, s5, s6, s7, s8, s9, s10, s11, s12, s13, s14, s15, s16, s17⟩
                                    go_simp
                                    with_reducible rfl
                                  rotate_left
                                  · simp only [Act.put, List.setIfInBounds_toArray, List.set_cons_zero, List.set_cons_succ, i64_w, i32_w]
                                    rfl
                                  refine one_ (i := 10) (N := some 39) #[true, true, true, true, true, true, true, true, true, true, true, false, false, false, false, false, false, false, false, false, false, false, false, false, false, false, false, false, false, false] rfl rfl (one_of HT_.out (by kernel_rfl)) (by decide) (fun K hK => ?_)
                                  refine goes_ Try.func23 (by kernel_rfl) rfl #[.slice (some ad277) l0.length c0, .int .i64 (rd t270 (ji16)), .int .i64 (rd t270 x6_2)] (by rfl) rfl rfl (by (try simp only [List.map_toArray, List.map_cons, List.map_nil]); first | done | (simp only [hji16]; rfl) | rfl | (simp only [List.length_drop, List.length_take]; rfl)) ?_
                                  with_reducible refine (limelightref03_Before.calls k2 _ _ l0 (rd t270 (ji16)) (rd t270 x6_2) true _ ?side1 ?side2 A20.out).mono ?_
                                  (case side1 => repeat (first | exact (Kd.C_below HR0.out HB.out) | (with_reducible refine Kd.C_alloc ?_ _) | (with_reducible refine Kd.C_drewN ?_ _) | (with_reducible refine Kd.C_drew ?_)))
                                  (case side2 => exact HC0.out)
                                  rintro e w30 ⟨rfl, hb⟩
                                  have HS0_ := (hb.cell (World.block_lt_of_cell? _ _ (hHeld.1))).trans (hHeld.1)
                                  have HS1_ := (hb.cell (World.block_lt_of_cell? _ _ (hHeld.2.1))).trans (hHeld.2.1)
                                  have HS2_ := (hb.cell (World.block_lt_of_cell? _ _ (hHeld.2.2.1))).trans (hHeld.2.2.1)
                                  have HS10_ := (hb.cell (World.block_lt_of_cell? _ _ (hHeld.2.2.2.2.2.2.2.2.2.2.1))).trans (hHeld.2.2.2.2.2.2.2.2.2.2.1)
                                  refine ⟨_, rfl, ?_⟩
                                  have n0_ := Aside0.mk (Kd.R_below (by (with_reducible repeat (first | apply Kd.R_alloc | apply Kd.R_drewN | apply Kd.R_drew)); exact HO_5.out) hb)
                                  have n1_ := Aside0.mk (below_step (by repeat (first | (with_reducible first | exact HB.out | apply below_alloc | apply pw_below_drewN | apply below_drew1) | exact HB.out)) hb)
                                  clear HO_5
                                  clear HB
                                  have HO_5 := n0_
                                  have HB := n1_
                                  clear n0_ n1_
                                  (try clear hb)
                                  (try clear hb2)
                                  (try clear hk)
                                  (try clear hi)
                                  refine hK.out _ _ ⟨HS0_, HS1_, HS2_, ((HB.out.cell (World.block_lt_of_cell? w _ hw277_0)).trans hw277_0), ((HB.out.cell (World.block_lt_of_cell? w _ hw277_1)).trans hw277_1), ((HB.out.cell (World.block_lt_of_cell? w _ hw277_2)).trans hw277_2), ((HB.out.cell (World.block_lt_of_cell? w _ hw277_3)).trans hw277_3), ((HB.out.cell (World.block_lt_of_cell? w _ hw277_4)).trans hw277_4), ((HB.out.cell (World.block_lt_of_cell? w _ hw277_5)).trans hw277_5), ((HB.out.cell (World.block_lt_of_cell? w _ hw277_6)).trans hw277_6), HS10_, ((HB.out.cell (World.block_lt_of_cell? w _ hw279_0)).trans hw279_0), ((HB.out.cell (World.block_lt_of_cell? w _ hw279_1)).trans hw279_1), ((HB.out.cell (World.block_lt_of_cell? w _ hw279_2)).trans hw279_2), ((HB.out.cell (World.block_lt_of_cell? w _ hw279_3)).trans hw279_3), ((HB.out.cell (World.block_lt_of_cell? w _ hw279_4)).trans hw279_4), ((HB.out.cell (World.block_lt_of_cell? w _ hw279_5)).trans hw279_5), ((HB.out.cell (World.block_lt_of_cell? w _ hw279_6)).trans hw279_6)⟩ (fun hHeld => ?_)
                                  clear hK K
                                  refine norm_ (a' := ?_) ?_ ?_
                                  rotate_left
                                  · show Act.put _ (some 39) _ = _
                                    simp only [Act.put, List.setIfInBounds_toArray, List.set_cons_zero, List.set_cons_succ, i64_w, i32_w]
                                    rfl
                                  refine pure_ (i := 11) (N := some 40) (v := ?_) (a' := ?_) #[true, true, true, true, true, true, true, true, true, true, true, true, false, false, false, false, false, false, false, false, false, false, false, false, false, false, false, false, false, false] rfl rfl (any_of HT_.out (by kernel_rfl)) (fun _ _ _ h => h) (Or.inl ⟨by rfl, ?_⟩) ?_ ?_
                                  rotate_left
                                  · intro w'
                                    go_simp
                                    with_reducible rfl
                                  rotate_left
                                  · simp only [Act.put, List.setIfInBounds_toArray, List.set_cons_zero, List.set_cons_succ, i64_w, i32_w]
                                    rfl
                                  refine pure_ (i := 12) (N := some 41) (v := ?_) (a' := ?_) #[true, true, true, true, true, true, true, true, true, true, true, true, true, false, false, false, false, false, false, false, false, false, false, false, false, false, false, false, false, false] rfl rfl (any_of HT_.out (by kernel_rfl)) (fun _ _ _ h => h) (Or.inl ⟨by rfl, ?_⟩) ?_ ?_
                                  rotate_left
                                  · intro w'
                                    go_simp
                                    with_reducible rfl
                                  rotate_left
                                  · simp only [Act.put, List.setIfInBounds_toArray, List.set_cons_zero, List.set_cons_succ, i64_w, i32_w]
                                    rfl
                                  refine pure_ (i := 13) (N := some 42) (v := ?_) (a' := ?_) #[true, true, true, true, true, true, true, true, true, true, true, true, true, true, false, false, false, false, false, false, false, false, false, false, false, false, false, false, false, false] rfl rfl (any_of HT_.out (by kernel_rfl)) (fun _ _ _ h => h) (Or.inl ⟨by rfl, ?_⟩) ?_ ?_
                                  rotate_left
                                  · intro w'
                                    go_simp
                                    with_reducible rfl
                                  rotate_left
                                  · simp only [Act.put, List.setIfInBounds_toArray, List.set_cons_zero, List.set_cons_succ, i64_w, i32_w]
                                    rfl
                                  refine pure_ (i := 14) (N := some 43) (v := ?_) (a' := ?_) #[true, true, true, true, true, true, true, true, true, true, true, true, true, true, true, false, false, false, false, false, false, false, false, false, false, false, false, false, false, false] rfl rfl (any_of HT_.out (by kernel_rfl)) (fun _ _ _ h => h) (Or.inl ⟨by rfl, ?_⟩) ?_ ?_
                                  rotate_left
                                  · intro w'
                                    go_simp
                                    with_reducible rfl
                                  rotate_left
                                  · simp only [Act.put, List.setIfInBounds_toArray, List.set_cons_zero, List.set_cons_succ, i64_w, i32_w]
                                    rfl
                                  refine pure_ (i := 15) (N := some 44) (v := ?_) (a' := ?_) #[true, true, true, true, true, true, true, true, true, true, true, true, true, true, true, true, false, false, false, false, false, false, false, false, false, false, false, false, false, false] rfl rfl (any_of HT_.out (by kernel_rfl)) (fun _ _ _ h => h) (Or.inl ⟨by rfl, ?_⟩) ?_ ?_
                                  rotate_left
                                  · intro w'
                                    go_simp
                                    with_reducible rfl
                                  rotate_left
                                  · simp only [Act.put, List.setIfInBounds_toArray, List.set_cons_zero, List.set_cons_succ, i64_w, i32_w]
                                    rfl
                                  refine pure_ (i := 16) (N := some 45) (v := ?_) (a' := ?_) #[true, true, true, true, true, true, true, true, true, true, true, true, true, true, true, true, true, false, false, false, false, false, false, false, false, false, false, false, false, false] rfl rfl (any_of HT_.out (by kernel_rfl)) (fun _ _ _ h => h) (Or.inl ⟨by rfl, ?_⟩) ?_ ?_
                                  rotate_left
                                  · intro w'
                                    go_simp
                                    with_reducible rfl
                                  rotate_left
                                  · simp only [Act.put, List.setIfInBounds_toArray, List.set_cons_zero, List.set_cons_succ, i64_w, i32_w]
                                    rfl
                                  refine pure_ (i := 21) (N := some 50) (v := ?_) (a' := ?_) #[true, true, true, true, true, true, true, true, true, true, true, true, true, true, true, true, true, false, false, false, false, true, false, false, false, false, false, false, false, false] rfl rfl (any_of HT_.out (by kernel_rfl)) (fun _ _ _ h => h) (Or.inl ⟨by rfl, ?_⟩) ?_ ?_
                                  rotate_left
                                  · intro w'
                                    go_simp
                                    with_reducible rfl
                                  rotate_left
                                  · simp only [Act.put, List.setIfInBounds_toArray, List.set_cons_zero, List.set_cons_succ, i64_w, i32_w]
                                    rfl
                                  refine pure_ (i := 22) (N := some 51) (v := ?_) (a' := ?_) #[true, true, true, true, true, true, true, true, true, true, true, true, true, true, true, true, true, false, false, false, false, true, true, false, false, false, false, false, false, false] rfl rfl (any_of HT_.out (by kernel_rfl)) (fun _ _ _ h => h) (Or.inl ⟨by rfl, ?_⟩) ?_ ?_
                                  rotate_left
                                  · intro w'
                                    go_simp
                                    with_reducible rfl
                                  rotate_left
                                  · simp only [Act.put, List.setIfInBounds_toArray, List.set_cons_zero, List.set_cons_succ, i64_w, i32_w]
                                    rfl
                                  refine pure_ (i := 23) (N := some 52) (v := ?_) (a' := ?_) #[true, true, true, true, true, true, true, true, true, true, true, true, true, true, true, true, true, false, false, false, false, true, true, true, false, false, false, false, false, false] rfl rfl (any_of HT_.out (by kernel_rfl)) (fun _ _ _ h => h) (Or.inl ⟨by rfl, ?_⟩) ?_ ?_
                                  rotate_left
                                  · intro w'
                                    go_simp
                                    with_reducible rfl
                                  rotate_left
                                  · simp only [Act.put, List.setIfInBounds_toArray, List.set_cons_zero, List.set_cons_succ, i64_w, i32_w]
                                    rfl
                                  refine take_ (i := 17) (N := some 46) (v := ?_) (a' := ?_) #[true, true, true, true, true, true, true, true, true, true, true, true, true, true, true, true, true, true, false, false, false, true, true, true, false, false, false, false, false, false] rfl rfl (take_ofW HT_.out HW_.out (by kernel_rfl)) (fun _ _ _ h => h) (Or.inl ⟨by rfl, ?_⟩) hHeld ?_ ?_
                                  rotate_left
                                  · rintro w' ⟨s0, s1, s2, s3, s4, s5, s6, s7, s8, s9, s10, s11, s12, s13, s14, s15, s16, s17⟩
                                    go_simp
                                    with_reducible rfl
                                  rotate_left
                                  · simp only [Act.put, List.setIfInBounds_toArray, List.set_cons_zero, List.set_cons_succ, i64_w, i32_w]
                                    rfl
                                  refine pure_ (i := 18) (N := some 47) (v := ?_) (a' := ?_) #[true, true, true, true, true, true, true, true, true, true, true, true, true, true, true, true, true, true, true, false, false, true, true, true, false, false, false, false, false, false] rfl rfl (any_of HT_.out (by kernel_rfl)) (fun _ _ _ h => h) (Or.inl ⟨by rfl, ?_⟩) ?_ ?_
                                  rotate_left
                                  · intro w'
                                    go_simp
                                    with_reducible rfl
                                  rotate_left
                                  · simp only [Act.put, List.setIfInBounds_toArray, List.set_cons_zero, List.set_cons_succ, i64_w, i32_w]
                                    rfl
                                  refine pure_ (i := 19) (N := some 48) (v := ?_) (a' := ?_) #[true, true, true, true, true, true, true, true, true, true, true, true, true, true, true, true, true, true, true, true, false, true, true, true, false, false, false, false, false, false] rfl rfl (any_of HT_.out (by kernel_rfl)) (fun _ _ _ h => h) (Or.inl ⟨by rfl, ?_⟩) ?_ ?_
                                  rotate_left
                                  · intro w'
                                    go_simp
                                    with_reducible rfl
                                  rotate_left
                                  · simp only [Act.put, List.setIfInBounds_toArray, List.set_cons_zero, List.set_cons_succ, i64_w, i32_w]
                                    rfl
                                  refine take_ (i := 20) (N := some 49) (v := ?_) (a' := ?_) #[true, true, true, true, true, true, true, true, true, true, true, true, true, true, true, true, true, true, true, true, true, true, true, true, false, false, false, false, false, false] rfl rfl (take_ofW HT_.out HW_.out (by kernel_rfl)) (fun _ _ _ h => h) (Or.inl ⟨by rfl, ?_⟩) hHeld ?_ ?_
                                  rotate_left
                                  · rintro w' ⟨s0, s1, s2, s3, s4, s5, s6, s7, s8, s9, s10, s11, s12, s13, s14, s15, s16, s17⟩
                                    go_simp
                                    with_reducible rfl
                                  rotate_left
                                  · simp only [Act.put, List.setIfInBounds_toArray, List.set_cons_zero, List.set_cons_succ, i64_w, i32_w]
                                    rfl
                                  refine take_ (i := 24) (N := some 53) (v := ?_) (a' := ?_) #[true, true, true, true, true, true, true, true, true, true, true, true, true, true, true, true, true, true, true, true, true, true, true, true, true, false, false, false, false, false] rfl rfl (take_ofW HT_.out HW_.out (by kernel_rfl)) (fun _ _ _ h => h) (Or.inl ⟨by rfl, ?_⟩) hHeld ?_ ?_
                                  rotate_left
                                  · rintro w' ⟨s0, s1, s2, s3, s4, s5, s6, s7, s8, s9, s10, s11, s12, s13, s14, s15, s16, s17⟩
                                    go_simp
                                    with_reducible rfl
                                  rotate_left
                                  · simp only [Act.put, List.setIfInBounds_toArray, List.set_cons_zero, List.set_cons_succ, i64_w, i32_w]
                                    rfl
                                  refine pure_ (i := 25) (N := some 54) (v := ?_) (a' := ?_) #[true, true, true, true, true, true, true, true, true, true, true, true, true, true, true, true, true, true, true, true, true, true, true, true, true, true, false, false, false, false] rfl rfl (any_of HT_.out (by kernel_rfl)) (fun _ _ _ h => h) (Or.inl ⟨by rfl, ?_⟩) ?_ ?_
                                  rotate_left
                                  · intro w'
                                    go_simp
                                    with_reducible rfl
                                  rotate_left
                                  · simp only [Act.put, List.setIfInBounds_toArray, List.set_cons_zero, List.set_cons_succ, i64_w, i32_w]
                                    rfl
                                  refine pure_ (i := 26) (N := some 55) (v := ?_) (a' := ?_) #[true, true, true, true, true, true, true, true, true, true, true, true, true, true, true, true, true, true, true, true, true, true, true, true, true, true, true, false, false, false] rfl rfl (any_of HT_.out (by kernel_rfl)) (fun _ _ _ h => h) (Or.inl ⟨by rfl, ?_⟩) ?_ ?_
                                  rotate_left
                                  · intro w'
                                    go_simp
                                    with_reducible rfl
                                  rotate_left
                                  · simp only [Act.put, List.setIfInBounds_toArray, List.set_cons_zero, List.set_cons_succ, i64_w, i32_w]
                                    rfl
                                  refine take_ (i := 27) (N := some 56) (v := ?_) (a' := ?_) #[true, true, true, true, true, true, true, true, true, true, true, true, true, true, true, true, true, true, true, true, true, true, true, true, true, true, true, true, false, false] rfl rfl (take_ofW HT_.out HW_.out (by kernel_rfl)) (fun _ _ _ h => h) (Or.inl ⟨by rfl, ?_⟩) hHeld ?_ ?_
                                  rotate_left
                                  · rintro w' ⟨s0, s1, s2, s3, s4, s5, s6, s7, s8, s9, s10, s11, s12, s13, s14, s15, s16, s17⟩
                                    go_simp
                                    with_reducible rfl
                                  rotate_left
                                  · simp only [Act.put, List.setIfInBounds_toArray, List.set_cons_zero, List.set_cons_succ, i64_w, i32_w]
                                    rfl
                                  refine pure_ (i := 28) (N := some 57) (v := ?_) (a' := ?_) #[true, true, true, true, true, true, true, true, true, true, true, true, true, true, true, true, true, true, true, true, true, true, true, true, true, true, true, true, true, false] rfl rfl (any_of HT_.out (by kernel_rfl)) (fun _ _ _ h => h) (Or.inl ⟨by rfl, ?_⟩) ?_ ?_
                                  rotate_left
                                  · intro w'
                                    go_simp
                                    with_reducible rfl
                                  rotate_left
                                  · simp only [Act.put, List.setIfInBounds_toArray, List.set_cons_zero, List.set_cons_succ, i64_w, i32_w]
                                    rfl
                                  refine pure_ (i := 29) (N := some 58) (v := ?_) (a' := ?_) #[true, true, true, true, true, true, true, true, true, true, true, true, true, true, true, true, true, true, true, true, true, true, true, true, true, true, true, true, true, true] rfl rfl (any_of HT_.out (by kernel_rfl)) (fun _ _ _ h => h) (Or.inl ⟨by rfl, ?_⟩) ?_ ?_
                                  rotate_left
                                  · intro w'
                                    go_simp
                                    with_reducible rfl
                                  rotate_left
                                  · simp only [Act.put, List.setIfInBounds_toArray, List.set_cons_zero, List.set_cons_succ, i64_w, i32_w]
                                    rfl
                                  refine done_ (done_of HT_.out (by kernel_rfl)) ?_
                                  try go_wp2
                                  go_roundg k2
                                  case measure => have := HJ2.out; have := HK2.out; omega
                                  case rel => exact ⟨(wrap64 (x6_2 + 1)), (by first | rfl | (simp; done) | (simp [*]; done)), H', ⟨by have := HJ2.out; have := HK2.out; omega⟩, ⟨by (with_reducible repeat (first | apply Kd.R_alloc | apply Kd.R_drewN | apply Kd.R_drew)); exact HO_5.out⟩, ⟨by repeat (first | (with_reducible first | exact HB.out | apply below_alloc | apply pw_below_drewN | apply below_drew1) | exact HB.out)⟩⟩
                                · rw [if_neg c27] at H
                                  exact absurd H (by simp)
                              · rw [if_neg c26] at H
                                exact absurd H (by simp)
                            · rw [if_neg c25] at H
                              exact absurd H (by simp)
                          · rw [if_neg c24] at H
                            exact absurd H (by simp)
                        · rw [if_neg c23] at H
                          exact absurd H (by simp)
                      · rw [if_neg c22] at H
                        exact absurd H (by simp)
                    · replace c21 := Bool.eq_false_iff.mpr c21
                      subst c21
                      have H1 : (none) = some r := by rw [if_neg (show ¬ (false = true) by decide)] at H; exact H
                      clear H
                      have H := H1
                      clear H1
                      exact absurd H (by simp)
                  · rw [if_neg c19] at H
                    exact absurd H (by simp)
                · rw [if_neg c18] at H
                  exact absurd H (by simp)
              · rw [if_neg c17] at H
                exact absurd H (by simp)
            · rw [if_neg c15] at H
              have c15b0 : decide (x6_2 < (t270.length : Int)) = false := decide_eq_false c15
              clear c15
              replace H := Option.bind_eq_some_iff.mp H
              obtain ⟨t280, A310, H⟩ := H
              replace H : (limelightlaw05_SlotsOrder.l1 k2 l0 t280 1) = some r := H
              have A31 := Aside0.mk A310
              clear A310
              have H' := Aside0.mk H
              clear H
              obtain ⟨Ao32, co32, eo32⟩ := Kd.R_slice HO_5.out
              subst eo32
              go_wp2_with (first | ((with_reducible refine gate_callee (f := 14) rfl ?_); refine goesL_ (some 61) rfl rfl Try.func14 (by kernel_rfl) rfl #[.slice A0 l0.length c0, .int .i64 a1] rfl (by (try simp only [List.map_toArray, List.map_cons, List.map_nil]); first | done | rfl | (simp only [List.length_drop, List.length_take]; rfl)) ?_; (with_reducible refine (slots_All.calls _ _ l0 a1 t280 _ ?side1 ?side2 A31.out).mono ?_); (case side1 => repeat (first | exact (Kd.C_below HR0.out HB.out) | (with_reducible refine Kd.C_alloc ?_ _) | (with_reducible refine Kd.C_drewN ?_ _) | (with_reducible refine Kd.C_drew ?_))); (case side2 => exact HC0.out); rintro e w33 ⟨v281, rfl, ho0, hb⟩; refine ⟨_, rfl, ?_⟩; have n0_ := Aside0.mk (Kd.R_elder' (by (with_reducible repeat (first | apply Kd.R_alloc | apply Kd.R_drewN | apply Kd.R_drew)); exact HO_5.out) (Kd.R_base ho0) hb); have n1_ := Aside0.mk (Kd.R_lower (Kd.R_new' ho0 (Kd.R_lt (by (with_reducible repeat (first | apply Kd.R_alloc | apply Kd.R_drewN | apply Kd.R_drew)); exact HO_5.out))) (below_size (by repeat (first | (with_reducible first | exact HB.out | apply below_alloc | apply pw_below_drewN | apply below_drew1) | exact HB.out)))); have n2_ := Aside0.mk (below_step (by repeat (first | (with_reducible first | exact HB.out | apply below_alloc | apply pw_below_drewN | apply below_drew1) | exact HB.out)) hb); clear HO_5; clear HB; have HO_5 := n0_; have HO282 := n1_; have HB := n2_; clear n0_ n1_ n2_; (try clear hb); (try clear hb2); (try clear hk); (try clear hi); (try clear ho0)))
              go_loopg [8] k2 (fun kq v8 w' => ∃ (x8_3 : Int), v8 = .int .i64 x8_3 ∧ Aside0 (limelightlaw05_SlotsOrder.l1 kq l0 t280 x8_3 = some r) ∧ Aside0 (kq ≤ k2) ∧ Aside0 (Kd.R (Kd.int .i64) 3 w' w.heap.size (fun _ => True) v281 t280) ∧ Aside0 (Below w.heap.size w w'))
              case atStart => exact ⟨(1), (by first | rfl | (simp; done) | (simp [*]; done)), H', ⟨Nat.le_refl _⟩, ⟨by (with_reducible repeat (first | apply Kd.R_alloc | apply Kd.R_drewN | apply Kd.R_drew)); exact Kd.R_mono HO282.out (fun _ hk => trivial)⟩, ⟨by repeat (first | (with_reducible first | exact HB.out | apply below_alloc | apply pw_below_drewN | apply below_drew1) | exact HB.out)⟩⟩
              case round =>
                clear H'
                try clear c1
                try clear c2
                try clear p2
                try clear q2
                try clear hx2
                try clear qi2
                try clear c5
                try clear p6
                try clear c7
                try clear c9
                try clear c10
                try clear c13
                try clear c14
                try clear c15
                try clear c15b0
                try clear c17
                try clear c17b0
                try clear c18
                try clear c18b0
                try clear c19
                try clear c19b0
                try clear c21
                try clear c22
                try clear c22b0
                try clear c23
                try clear c23b0
                try clear c24
                try clear c24b0
                try clear c24b1
                try clear c25
                try clear c25b0
                try clear c26
                try clear c26b0
                try clear c27
                try clear c27b0
                try clear c27b1
                try clear p27
                try clear q27
                try clear hx27
                try clear qi27
                try clear hx273_0
                try clear hx274_0
                try clear hx276_0
                try clear hx277_0
                try clear hx277_1
                try clear hx277_2
                try clear hx277_3
                try clear hx277_4
                try clear hx277_5
                try clear hx277_6
                try clear hx278_0
                try clear hx279_0
                try clear hx279_1
                try clear hx279_2
                try clear hx279_3
                try clear hx279_4
                try clear hx279_5
                try clear hx279_6
                try clear p2
                try clear p273
                try clear p274
                try clear p276
                try clear p277
                try clear p278
                try clear p279
                try clear q273
                try clear q274
                try clear q276
                try clear q277
                try clear q278
                try clear q279
                obtain ⟨x8_3, rfl, HA, HK3, HO_7, HB⟩ := hrel
                cases gk with
                | zero => exact absurd HA.out (by simp [limelightlaw05_SlotsOrder.l1])
                | succ k3 =>
                  have H := HA.out
                  clear HA
                  simp only [limelightlaw05_SlotsOrder.l1] at H
                  by_cases c34 : x8_3 < (t280.length : Int)
                  · rw [if_pos c34] at H
                    have c34b0 : decide (x8_3 < (t280.length : Int)) = true := decide_eq_true c34
                    clear c34
                    obtain ⟨ji35, hji35⟩ : ∃ j_ : Int, (wrap64 (x8_3 - 1)) = j_ := ⟨_, rfl⟩
                    replace H : (if 0 ≤ (ji35) then (if (ji35) < (t280.length : Int) then (if 0 ≤ x8_3 then ((limelightref03_Before.f k3 l0 (rd t280 (ji35)) (rd t280 x8_3)).bind fun t285 => (if t285 = true then (limelightlaw05_SlotsOrder.l1 k3 l0 t280 (wrap64 (x8_3 + 1))) else (none))) else (none)) else (none)) else (none)) = some r := by first | (rw [hji35] at H; exact H) | (simp only [hji35] at H ⊢; exact H)
                    have hji35w : (IntKind.i64.wrap (x8_3 - 1)) = ji35 := (i64_w _).trans hji35
                    by_cases c36 : 0 ≤ (ji35)
                    · rw [if_pos c36] at H
                      have c36b0 : decide (0 ≤ (ji35)) = true := decide_eq_true c36
                      clear c36
                      by_cases c37 : (ji35) < (t280.length : Int)
                      · rw [if_pos c37] at H
                        have c37b0 : decide ((ji35) < (t280.length : Int)) = true := decide_eq_true c37
                        clear c37
                        by_cases c38 : 0 ≤ x8_3
                        · rw [if_pos c38] at H
                          have c38b0 : decide (0 ≤ x8_3) = true := decide_eq_true c38
                          clear c38
                          replace H := Option.bind_eq_some_iff.mp H
                          obtain ⟨t285, A390, H⟩ := H
                          replace H : (if t285 = true then (limelightlaw05_SlotsOrder.l1 k3 l0 t280 (wrap64 (x8_3 + 1))) else (none)) = some r := H
                          have A39 := Aside0.mk A390
                          clear A390
                          by_cases c40 : t285 = true
                          · subst c40
                            have H1 : (limelightlaw05_SlotsOrder.l1 k3 l0 t280 (wrap64 (x8_3 + 1))) = some r := by rw [if_pos rfl] at H; exact H
                            clear H
                            have H := H1
                            clear H1
                            have H' := Aside0.mk H
                            clear H
                            obtain ⟨Ao41, co41, eo41⟩ := Kd.R_slice HO_7.out
                            subst eo41
                            try go_wp2
                            have n0_ := Aside0.mk (Kd.R_drew HO_7.out)
                            have n1_ := Aside0.mk (below_drew1 HB.out)
                            clear HO_7
                            clear HB
                            have HO_7 := n0_
                            have HB := n1_
                            clear n0_ n1_
                            have p283 : 0 ≤ ((ji35) : Int) := of_decide_eq_true (by first | (with_reducible assumption) | assumption)
                            have q283 : (ji35) < (t280.length : Int) := of_decide_eq_true (by first | (with_reducible assumption) | assumption)
                            obtain ⟨ad283, e283, hx283_0⟩ := Kd.at_int (Kd.R_reads' HO_7.out).2.2 (ji35) p283 q283
                            cases e283
                            replace p283 := eq_true p283
                            replace q283 := eq_true q283
                            have p284 : 0 ≤ (x8_3 : Int) := of_decide_eq_true (by first | (with_reducible assumption) | assumption)
                            have q284 : x8_3 < (t280.length : Int) := of_decide_eq_true (by first | (with_reducible assumption) | assumption)
                            obtain ⟨ad284, e284, hx284_0⟩ := Kd.at_int (Kd.R_reads' HO_7.out).2.2 x8_3 p284 q284
                            obtain rfl : ad283 = ad284 := (by injection e284)
                            replace p284 := eq_true p284
                            replace q284 := eq_true q284
                            refine start_ (n := 12) (S := fun w' => w'.cell? (ad283.add ((ji35)).toNat) = some (.int .i64 (rd t280 (ji35))) ∧ w'.cell? (ad283.add (x8_3).toNat) = some (.int .i64 (rd t280 x8_3))) (ds := []) #[false, false, false, false, false, false, false, false, false, false, false, false] (by kernel_rfl) rfl rfl ⟨hx283_0, hx284_0⟩ (fun hHeld => ?_); refine with_tabW limelightlaw05_SlotsOrder.tab13 limelightlaw05_SlotsOrder.bits13 (fun HT_ HW_ => ?_)
                            generalize wr.drew = w42 at HO_7 HB hx283_0 hx284_0 hHeld ⊢
                            refine pure_ (i := 0) (N := some 68) (v := ?_) (a' := ?_) #[true, false, false, false, false, false, false, false, false, false, false, false] rfl rfl (any_of HT_.out (by kernel_rfl)) (fun _ _ _ h => h) (Or.inl ⟨by rfl, ?_⟩) ?_ ?_
                            rotate_left
                            · intro w'
                              go_simp
                              with_reducible rfl
                            rotate_left
                            · simp only [Act.put, List.setIfInBounds_toArray, List.set_cons_zero, List.set_cons_succ, i64_w, i32_w]
                              rfl
                            refine pure_ (i := 1) (N := some 69) (v := ?_) (a' := ?_) #[true, true, false, false, false, false, false, false, false, false, false, false] rfl rfl (any_of HT_.out (by kernel_rfl)) (fun _ _ _ h => h) (Or.inl ⟨by rfl, ?_⟩) ?_ ?_
                            rotate_left
                            · intro w'
                              go_simp
                              with_reducible rfl
                            rotate_left
                            · simp only [Act.put, List.setIfInBounds_toArray, List.set_cons_zero, List.set_cons_succ, i64_w, i32_w]
                              rfl
                            refine pure_ (i := 2) (N := some 70) (v := ?_) (a' := ?_) #[true, true, true, false, false, false, false, false, false, false, false, false] rfl rfl (any_of HT_.out (by kernel_rfl)) (fun _ _ _ h => h) (Or.inl ⟨by rfl, ?_⟩) ?_ ?_
                            rotate_left
                            · intro w'
                              go_simp
                              with_reducible rfl
                            rotate_left
                            · simp only [Act.put, List.setIfInBounds_toArray, List.set_cons_zero, List.set_cons_succ, i64_w, i32_w]
                              rfl
                            refine pure_ (i := 3) (N := some 71) (v := ?_) (a' := ?_) #[true, true, true, true, false, false, false, false, false, false, false, false] rfl rfl (any_of HT_.out (by kernel_rfl)) (fun _ _ _ h => h) (Or.inl ⟨by rfl, ?_⟩) ?_ ?_
                            rotate_left
                            · intro w'
                              go_simp
                              with_reducible rfl
                            rotate_left
                            · simp only [Act.put, List.setIfInBounds_toArray, List.set_cons_zero, List.set_cons_succ, i64_w, i32_w]
                              rfl
                            refine pure_ (i := 4) (N := some 72) (v := ?_) (a' := ?_) #[true, true, true, true, true, false, false, false, false, false, false, false] rfl rfl (any_of HT_.out (by kernel_rfl)) (fun _ _ _ h => h) (Or.inl ⟨by rfl, ?_⟩) ?_ ?_
                            rotate_left
                            · intro w'
                              go_simp
                              with_reducible rfl
                            rotate_left
                            · simp only [Act.put, List.setIfInBounds_toArray, List.set_cons_zero, List.set_cons_succ, i64_w, i32_w]
                              rfl
                            refine pure_ (i := 6) (N := some 74) (v := ?_) (a' := ?_) #[true, true, true, true, true, false, true, false, false, false, false, false] rfl rfl (any_of HT_.out (by kernel_rfl)) (fun _ _ _ h => h) (Or.inl ⟨by rfl, ?_⟩) ?_ ?_
                            rotate_left
                            · intro w'
                              go_simp
                              with_reducible rfl
                            rotate_left
                            · simp only [Act.put, List.setIfInBounds_toArray, List.set_cons_zero, List.set_cons_succ, i64_w, i32_w]
                              rfl
                            refine pure_ (i := 7) (N := some 75) (v := ?_) (a' := ?_) #[true, true, true, true, true, false, true, true, false, false, false, false] rfl rfl (any_of HT_.out (by kernel_rfl)) (fun _ _ _ h => h) (Or.inl ⟨by rfl, ?_⟩) ?_ ?_
                            rotate_left
                            · intro w'
                              go_simp
                              with_reducible rfl
                            rotate_left
                            · simp only [Act.put, List.setIfInBounds_toArray, List.set_cons_zero, List.set_cons_succ, i64_w, i32_w]
                              rfl
                            refine pure_ (i := 8) (N := some 76) (v := ?_) (a' := ?_) #[true, true, true, true, true, false, true, true, true, false, false, false] rfl rfl (any_of HT_.out (by kernel_rfl)) (fun _ _ _ h => h) (Or.inl ⟨by rfl, ?_⟩) ?_ ?_
                            rotate_left
                            · intro w'
                              go_simp
                              with_reducible rfl
                            rotate_left
                            · simp only [Act.put, List.setIfInBounds_toArray, List.set_cons_zero, List.set_cons_succ, i64_w, i32_w]
                              rfl
                            refine take_ (i := 5) (N := some 73) (v := ?_) (a' := ?_) #[true, true, true, true, true, true, true, true, true, false, false, false] rfl rfl (take_ofW HT_.out HW_.out (by kernel_rfl)) (fun _ _ _ h => h) (Or.inl ⟨by rfl, ?_⟩) hHeld ?_ ?_
                            rotate_left
                            · rintro w' ⟨s0, s1⟩
                              go_simp
                              with_reducible rfl
                            rotate_left
                            · simp only [Act.put, List.setIfInBounds_toArray, List.set_cons_zero, List.set_cons_succ, i64_w, i32_w]
                              rfl
                            refine take_ (i := 9) (N := some 77) (v := ?_) (a' := ?_) #[true, true, true, true, true, true, true, true, true, true, false, false] rfl rfl (take_ofW HT_.out HW_.out (by kernel_rfl)) (fun _ _ _ h => h) (Or.inl ⟨by rfl, ?_⟩) hHeld ?_ ?_
                            rotate_left
                            · rintro w' ⟨s0, s1⟩
                              go_simp
                              with_reducible rfl
                            rotate_left
                            · simp only [Act.put, List.setIfInBounds_toArray, List.set_cons_zero, List.set_cons_succ, i64_w, i32_w]
                              rfl
                            refine one_ (i := 10) (N := some 78) #[true, true, true, true, true, true, true, true, true, true, true, false] rfl rfl (one_of HT_.out (by kernel_rfl)) (by decide) (fun K hK => ?_)
                            refine goes_ Try.func23 (by kernel_rfl) rfl #[.slice A0 l0.length c0, .int .i64 (rd t280 (ji35)), .int .i64 (rd t280 x8_3)] (by rfl) rfl rfl (by (try simp only [List.map_toArray, List.map_cons, List.map_nil]); first | done | (simp only [hji35]; rfl) | rfl | (simp only [List.length_drop, List.length_take]; rfl)) ?_
                            with_reducible refine (limelightref03_Before.calls k3 _ _ l0 (rd t280 (ji35)) (rd t280 x8_3) true _ ?side1 ?side2 A39.out).mono ?_
                            (case side1 => repeat (first | exact (Kd.C_below HR0.out HB.out) | (with_reducible refine Kd.C_alloc ?_ _) | (with_reducible refine Kd.C_drewN ?_ _) | (with_reducible refine Kd.C_drew ?_)))
                            (case side2 => exact HC0.out)
                            rintro e w43 ⟨rfl, hb⟩
                            have HS0_ := (hb.cell (World.block_lt_of_cell? _ _ (hHeld.1))).trans (hHeld.1)
                            have HS1_ := (hb.cell (World.block_lt_of_cell? _ _ (hHeld.2))).trans (hHeld.2)
                            refine ⟨_, rfl, ?_⟩
                            have n0_ := Aside0.mk (Kd.R_below (by (with_reducible repeat (first | apply Kd.R_alloc | apply Kd.R_drewN | apply Kd.R_drew)); exact HO_7.out) hb)
                            have n1_ := Aside0.mk (below_step (by repeat (first | (with_reducible first | exact HB.out | apply below_alloc | apply pw_below_drewN | apply below_drew1) | exact HB.out)) hb)
                            clear HO_7
                            clear HB
                            have HO_7 := n0_
                            have HB := n1_
                            clear n0_ n1_
                            (try clear hb)
                            (try clear hb2)
                            (try clear hk)
                            (try clear hi)
                            refine hK.out _ _ ⟨HS0_, HS1_⟩ (fun hHeld => ?_)
                            clear hK K
                            refine norm_ (a' := ?_) ?_ ?_
                            rotate_left
                            · show Act.put _ (some 78) _ = _
                              simp only [Act.put, List.setIfInBounds_toArray, List.set_cons_zero, List.set_cons_succ, i64_w, i32_w]
                              rfl
                            refine pure_ (i := 11) (N := some 79) (v := ?_) (a' := ?_) #[true, true, true, true, true, true, true, true, true, true, true, true] rfl rfl (any_of HT_.out (by kernel_rfl)) (fun _ _ _ h => h) (Or.inl ⟨by rfl, ?_⟩) ?_ ?_
                            rotate_left
                            · intro w'
                              go_simp
                              with_reducible rfl
                            rotate_left
                            · simp only [Act.put, List.setIfInBounds_toArray, List.set_cons_zero, List.set_cons_succ, i64_w, i32_w]
                              rfl
                            refine done_ (done_of HT_.out (by kernel_rfl)) ?_
                            try go_wp2
                            go_roundg k3
                            case measure => have := HJ2.out; have := HK2.out; have := HK3.out; omega
                            case rel => exact ⟨(wrap64 (x8_3 + 1)), (by first | rfl | (simp; done) | (simp [*]; done)), H', ⟨by have := HJ2.out; have := HK2.out; have := HK3.out; omega⟩, ⟨by (with_reducible repeat (first | apply Kd.R_alloc | apply Kd.R_drewN | apply Kd.R_drew)); exact HO_7.out⟩, ⟨by repeat (first | (with_reducible first | exact HB.out | apply below_alloc | apply pw_below_drewN | apply below_drew1) | exact HB.out)⟩⟩
                          · replace c40 := Bool.eq_false_iff.mpr c40
                            subst c40
                            have H1 : (none) = some r := by rw [if_neg (show ¬ (false = true) by decide)] at H; exact H
                            clear H
                            have H := H1
                            clear H1
                            exact absurd H (by simp)
                        · rw [if_neg c38] at H
                          exact absurd H (by simp)
                      · rw [if_neg c37] at H
                        exact absurd H (by simp)
                    · rw [if_neg c36] at H
                      exact absurd H (by simp)
                  · rw [if_neg c34] at H
                    have c34b0 : decide (x8_3 < (t280.length : Int)) = false := decide_eq_false c34
                    clear c34
                    replace H := Option.bind_eq_some_iff.mp H
                    obtain ⟨t286, A440, H⟩ := H
                    replace H : (some t286) = some r := H
                    have A44 := Aside0.mk A440
                    clear A440
                    obtain rfl := Option.some.inj H
                    obtain ⟨Ao45, co45, eo45⟩ := Kd.R_slice HO_7.out
                    subst eo45
                    go_wp2_with (first | ((with_reducible refine gate_callee (f := 10) rfl ?_); refine goesL_ (some 80) rfl rfl Try.func10 (by kernel_rfl) rfl #[] rfl (by (try simp only [List.map_toArray, List.map_cons, List.map_nil]); first | done | rfl | (simp only [List.length_drop, List.length_take]; rfl)) ?_; (with_reducible refine (limelightlaw05_live.calls  t286 _ A44.out).mono ?_); rintro e w46 ⟨rfl, hb⟩; refine ⟨_, rfl, ?_⟩; have n0_ := Aside0.mk (Kd.R_below (by (with_reducible repeat (first | apply Kd.R_alloc | apply Kd.R_drewN | apply Kd.R_drew)); exact HO_7.out) hb); have n1_ := Aside0.mk (below_step (by repeat (first | (with_reducible first | exact HB.out | apply below_alloc | apply pw_below_drewN | apply below_drew1) | exact HB.out)) hb); clear HO_7; clear HB; have HO_7 := n0_; have HB := n1_; clear n0_ n1_; (try clear hb); (try clear hb2); (try clear hk); (try clear hi)))
                    go_ret
                    exact ⟨by first | rfl | (simp [errW_none, errW_some] <;> rfl) | (simp [*, errW_none, errW_some] <;> rfl), by repeat (first | (with_reducible first | exact HB.out | apply below_alloc | apply pw_below_drewN | apply below_drew1) | exact HB.out)⟩

end Go.Proofs.Ytcmcjfiaemchoaa.P
