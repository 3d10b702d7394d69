-- printed by wip/tools/pp.sh (a patched copy of the print's program), for this claim.
import Derived.Test.YthjpokmangbibaaPx0
import Derived.Test.YthjpokmangbibaaME
import Derived.Test.YthjpokmangbibaaMS
namespace Go.Proofs.Ythjpokmangbibaa.P
open Go.RowKit Go.Proofs.YthjpokmangbibaaW.PrintWords Go.Proofs.YthjpokmangbibaaW.PrintLast Go.Proofs.YthjpokmangbibaaW.PrintMore
attribute [local go_sem] max2_int min2_int max_two min_two max_three min_three max_four min_four   -- for this text's walks alone
set_option linter.unusedVariables false
set_option linter.unusedSimpArgs false

-- GIVEN: function 8 (limelightref01_Small): ME

-- GIVEN: function 13 (shade_Up): MS

/-! ### slices_Index_int_int: function 41 -/
def slices_Index_int_int.l0 : Nat → List Int → Int → Int → Int → Option (Int)
  | 0, _, _, _, _ => none
  | k + 1, x0, x1, x7, x8 => if x8 < x7 then (if 0 ≤ x8 then (if x8 < (x0.length : Int) then (if x1 = (rd x0 x8) then (some x8) else (slices_Index_int_int.l0 k x0 x1 x7 (wrap64 (x8 + 1)))) else (none)) else (none)) else (some (-1))
def slices_Index_int_int.f (k : Nat) (l0 : List Int) (a1 : Int) : Option (Int) := slices_Index_int_int.l0 k l0 a1 (l0.length : Int) 0
theorem slices_Index_int_int.mono_l : ∀ k, (∀ y0 y1 y2 y3, LeO (slices_Index_int_int.l0 k y0 y1 y2 y3) (slices_Index_int_int.l0 (k + 1) y0 y1 y2 y3))
  | 0 => fun _ _ _ _ r h => by simp [slices_Index_int_int.l0] at h
  | k + 1 => by
    have ih0 := slices_Index_int_int.mono_l k
    · intro y0 y1 y2 y3
      unfold slices_Index_int_int.l0
      repeat' first
      | (with_reducible exact ih0 _ _ _ _)
      | (with_reducible exact LeO.refl _)
      | (with_reducible exact LeO.none _)
      | (with_reducible refine LeO.ite ?_ ?_)
      | (with_reducible refine LeO.bind ?_ (fun _ => ?_))
      | exact ih0 _ _ _ _
      | exact LeO.none _
      | refine LeO.ite ?_ ?_
      | refine LeO.bind ?_ (fun _ => ?_)
theorem slices_Index_int_int.mono : ∀ a0 a1 k, LeO (slices_Index_int_int.f k a0 a1) (slices_Index_int_int.f (k + 1) a0 a1) := by
  intro a0 a1 k
  have ih0 := slices_Index_int_int.mono_l k
  unfold slices_Index_int_int.f
  repeat' first
      | (with_reducible exact ih0 _ _ _ _)
      | (with_reducible exact LeO.refl _)
      | (with_reducible exact LeO.none _)
      | (with_reducible refine LeO.ite ?_ ?_)
      | (with_reducible refine LeO.bind ?_ (fun _ => ?_))
      | exact ih0 _ _ _ _
      | exact LeO.none _
      | refine LeO.ite ?_ ?_
      | refine LeO.bind ?_ (fun _ => ?_)
set_option maxHeartbeats 8000000 in
set_option maxRecDepth 100000 in
theorem slices_Index_int_int.calls (k : Nat) (A0 : Option Addr) (c0 : Nat) (l0 : List Int) (a1 : Int) (r : Int) (w : World) (hr0 : Kd.C (Kd.int .i64) w A0 l0.length l0) (hc0 : l0.length ≤ c0) (h : slices_Index_int_int.f k l0 a1 = some r) :
    Calls Try.prog 41 #[.slice A0 l0.length c0, .int .i64 a1] w fun e w' => e = .returned (.int .i64 r) ∧ Drawn0 w w' := by
  have HR0 := Aside0.mk hr0
  have HC0 := Aside0.mk hc0
  clear hr0 hc0
  have H : (slices_Index_int_int.l0 k l0 a1 (l0.length : Int) 0) = some r := h
  clear h
  have H' := Aside0.mk H
  clear H
  go_enter Try.func41, Try.ntmps41
  go_wp2
  go_loopg [8] k (fun kq v8 w' => ∃ (x8_1 : Int), v8 = .int .i64 x8_1 ∧ Aside0 (slices_Index_int_int.l0 kq l0 a1 (l0.length : Int) x8_1 = some r) ∧ Aside0 (kq ≤ k) ∧ Drawn0 w w')
  case atStart => exact ⟨(0), (by first | rfl | (simp; done) | (simp [*]; done)), H', ⟨Nat.le_refl _⟩, by repeat (first | exact Drawn0.refl _ | apply Drawn0.step)⟩
  case round =>
    clear H'
    try clear p2
    obtain ⟨x8_1, rfl, HA, HK1, ⟨m1, rfl⟩⟩ := hrel
    cases gk with
    | zero => exact absurd HA.out (by simp [slices_Index_int_int.l0])
    | succ k1 =>
      have H := HA.out
      clear HA
      simp only [slices_Index_int_int.l0] at H
      by_cases c3 : x8_1 < (l0.length : Int)
      · rw [if_pos c3] at H
        have c3b0 : decide (x8_1 < (l0.length : Int)) = true := decide_eq_true c3
        clear c3
        by_cases c4 : 0 ≤ x8_1
        · rw [if_pos c4] at H
          have c4b0 : decide (0 ≤ x8_1) = true := decide_eq_true c4
          clear c4
          by_cases c5 : x8_1 < (l0.length : Int)
          · rw [if_pos c5] at H
            have c5b0 : decide (x8_1 < (l0.length : Int)) = true := decide_eq_true c5
            clear c5
            by_cases c6 : a1 = (rd l0 x8_1)
            · rw [if_pos c6] at H
              have c6b0 : (a1 == (rd l0 x8_1)) = true := beq_iff_eq.mpr c6
              have c6b1 : (a1 != (rd l0 x8_1)) = false := bne_eq_false_iff_eq.mpr c6
              clear c6
              obtain rfl := Option.some.inj H
              have p101 : 0 ≤ (x8_1 : Int) := of_decide_eq_true (by first | (with_reducible assumption) | assumption)
              have q101 : x8_1 < (l0.length : Int) := of_decide_eq_true (by first | (with_reducible assumption) | assumption)
              obtain ⟨ad101, e101, hx101_0⟩ := Kd.at_int HR0.out x8_1 p101 q101
              cases e101
              replace p101 := eq_true p101
              replace q101 := eq_true q101
              go_wp2
              go_ret
              exact ⟨by first | rfl | (simp; done) | (simp [*]; done), by repeat (first | exact Drawn0.refl _ | apply Drawn0.step)⟩
            · rw [if_neg c6] at H
              have c6b0 : (a1 == (rd l0 x8_1)) = false := beq_eq_false_iff_ne.mpr c6
              have c6b1 : (a1 != (rd l0 x8_1)) = true := bne_iff_ne.mpr c6
              have H' := Aside0.mk H
              clear H
              have p101 : 0 ≤ (x8_1 : Int) := of_decide_eq_true (by first | (with_reducible assumption) | assumption)
              have q101 : x8_1 < (l0.length : Int) := of_decide_eq_true (by first | (with_reducible assumption) | assumption)
              obtain ⟨ad101, e101, hx101_0⟩ := Kd.at_int HR0.out x8_1 p101 q101
              cases e101
              replace p101 := eq_true p101
              replace q101 := eq_true q101
              go_wp2
              go_roundg k1
              case measure => have := HK1.out; omega
              case rel => exact ⟨(wrap64 (x8_1 + 1)), (by first | rfl | (simp; done) | (simp [*]; done)), H', ⟨by have := HK1.out; omega⟩, by repeat (first | exact Drawn0.refl _ | apply Drawn0.step)⟩
          · rw [if_neg c5] at H
            exact absurd H (by simp)
        · rw [if_neg c4] at H
          exact absurd H (by simp)
      · rw [if_neg c3] at H
        have c3b0 : decide (x8_1 < (l0.length : Int)) = false := decide_eq_false c3
        clear c3
        obtain rfl := Option.some.inj H
        go_wp2
        go_ret
        exact ⟨by first | rfl | (simp; done) | (simp [*]; done), by repeat (first | exact Drawn0.refl _ | apply Drawn0.step)⟩

/-! ### slices_Contains_int_int: function 28 -/
def slices_Contains_int_int.f (k : Nat) (l0 : List Int) (a1 : Int) : Option (Bool) := (slices_Index_int_int.f k l0 a1).bind fun t102 => (some (decide (t102 ≥ 0)))
theorem slices_Contains_int_int.mono : ∀ a0 a1 k, LeO (slices_Contains_int_int.f k a0 a1) (slices_Contains_int_int.f (k + 1) a0 a1) := by
  intro a0 a1 k
  unfold slices_Contains_int_int.f
  repeat' first
      | (with_reducible exact slices_Index_int_int.mono _ _ _)
      | (with_reducible exact LeO.refl _)
      | (with_reducible exact LeO.none _)
      | (with_reducible refine LeO.ite ?_ ?_)
      | (with_reducible refine LeO.bind ?_ (fun _ => ?_))
      | exact slices_Index_int_int.mono _ _ _
      | exact LeO.none _
      | refine LeO.ite ?_ ?_
      | refine LeO.bind ?_ (fun _ => ?_)
set_option maxHeartbeats 8000000 in
set_option maxRecDepth 100000 in
theorem slices_Contains_int_int.calls (k : Nat) (A0 : Option Addr) (c0 : Nat) (l0 : List Int) (a1 : Int) (r : Bool) (w : World) (hr0 : Kd.C (Kd.int .i64) w A0 l0.length l0) (hc0 : l0.length ≤ c0) (h : slices_Contains_int_int.f k l0 a1 = some r) :
    Calls Try.prog 28 #[.slice A0 l0.length c0, .int .i64 a1] w fun e w' => e = .returned (.bool r) ∧ Drawn0 w w' := by
  have HR0 := Aside0.mk hr0
  have HC0 := Aside0.mk hc0
  clear hr0 hc0
  have H : ((slices_Index_int_int.f k l0 a1).bind fun t102 => (some (decide (t102 ≥ 0)))) = some r := h
  clear h
  replace H := Option.bind_eq_some_iff.mp H
  obtain ⟨t102, A30, H⟩ := H
  replace H : (some (decide (t102 ≥ 0))) = some r := H
  have A3 := Aside0.mk A30
  clear A30
  obtain rfl := Option.some.inj H
  go_enter Try.func28, Try.ntmps28
  go_wp2_with (first | ((with_reducible refine gate_callee (f := 41) rfl ?_); refine goesL_ (some 7) rfl rfl Try.func41 (by kernel_rfl) rfl #[.slice A0 l0.length c0, .int .i64 a1] rfl (by (try simp only [List.map_toArray, List.map_cons, List.map_nil]); first | done | rfl | (simp only [List.length_drop, List.length_take]; rfl)) ?_; (with_reducible refine (slices_Index_int_int.calls k _ _ l0 a1 t102 _ ?side1 ?side2 A3.out).mono ?_); (case side1 => repeat (first | exact HR0.out | (with_reducible refine Kd.C_alloc ?_ _) | (with_reducible refine Kd.C_drewN ?_ _) | (with_reducible refine Kd.C_drew ?_))); (case side2 => exact HC0.out); rintro e w' ⟨rfl, ⟨nd, rfl⟩⟩; refine ⟨_, rfl, ?_⟩))
  go_ret
  exact ⟨by first | rfl | (simp; done) | (simp [*]; done), by repeat (first | exact Drawn0.refl _ | apply Drawn0.step)⟩

/-! ### shade_Above: function 11 -/
def shade_Above.f (k : Nat) (l0 : List (S35)) (a1 : Int) (a2 : Int) : Option (Bool) := (shade_Up.f l0 a2).bind fun t103 => ((slices_Contains_int_int.f k t103 a1).bind fun t106 => (some t106))
theorem shade_Above.mono : ∀ a0 a1 a2 k, LeO (shade_Above.f k a0 a1 a2) (shade_Above.f (k + 1) a0 a1 a2) := by
  intro a0 a1 a2 k
  unfold shade_Above.f
  repeat' first
      | (with_reducible exact slices_Contains_int_int.mono _ _ _)
      | (with_reducible exact LeO.refl _)
      | (with_reducible exact LeO.none _)
      | (with_reducible refine LeO.ite ?_ ?_)
      | (with_reducible refine LeO.bind ?_ (fun _ => ?_))
      | exact slices_Contains_int_int.mono _ _ _
      | exact LeO.none _
      | refine LeO.ite ?_ ?_
      | refine LeO.bind ?_ (fun _ => ?_)
set_option maxHeartbeats 8000000 in
set_option maxRecDepth 100000 in
theorem shade_Above.calls (k : Nat) (A0 : Option Addr) (c0 : Nat) (l0 : List (S35)) (a1 : Int) (a2 : Int) (r : Bool) (w : World) (hr0 : Kd.C k35 w A0 l0.length l0) (hc0 : l0.length ≤ c0) (h : shade_Above.f k l0 a1 a2 = some r) :
    Calls Try.prog 11 #[.slice A0 l0.length c0, .int .i64 a1, .int .i64 a2] w fun e w' => e = .returned (.bool r) ∧ Below w.heap.size w w' := by
  have HR0 := Aside0.mk hr0
  have HC0 := Aside0.mk hc0
  clear hr0 hc0
  have HB := Aside0.mk (Below.refl w.heap.size w)
  have H : ((shade_Up.f l0 a2).bind fun t103 => ((slices_Contains_int_int.f k t103 a1).bind fun t106 => (some t106))) = some r := h
  clear h
  replace H := Option.bind_eq_some_iff.mp H
  obtain ⟨t103, A40, H⟩ := H
  replace H : ((slices_Contains_int_int.f k t103 a1).bind fun t106 => (some t106)) = some r := H
  have A4 := Aside0.mk A40
  clear A40
  replace H := Option.bind_eq_some_iff.mp H
  obtain ⟨t106, A50, H⟩ := H
  replace H : (some t106) = some r := H
  have A5 := Aside0.mk A50
  clear A50
  obtain rfl := Option.some.inj H
  go_enter Try.func11, Try.ntmps11
  go_wp2_with (first | ((with_reducible refine gate_callee (f := 13) rfl ?_); refine goesL_ (some 9) rfl rfl Try.func13 (by kernel_rfl) rfl #[.slice A0 l0.length c0, .int .i64 a2] rfl (by (try simp only [List.map_toArray, List.map_cons, List.map_nil]); first | done | rfl | (simp only [List.length_drop, List.length_take]; rfl)) ?_; (with_reducible refine (shade_Up.calls _ _ l0 a2 t103 _ ?side1 ?side2 A4.out).mono ?_); (case side1 => repeat (first | exact HR0.out | (with_reducible refine Kd.C_alloc ?_ _) | (with_reducible refine Kd.C_drewN ?_ _) | (with_reducible refine Kd.C_drew ?_))); (case side2 => exact HC0.out); rintro e w6 ⟨v104, rfl, ho0, hb⟩; refine ⟨_, rfl, ?_⟩; have n0_ := Aside0.mk (Kd.R_lower ho0 (below_size (by repeat (first | (with_reducible first | exact HB.out | apply below_alloc | apply pw_below_drewN | apply below_drew1) | exact HB.out)))); have n1_ := Aside0.mk (below_step (by repeat (first | (with_reducible first | exact HB.out | apply below_alloc | apply pw_below_drewN | apply below_drew1) | exact HB.out)) hb); clear HB; have HO105 := n0_; have HB := n1_; clear n0_ n1_; (try clear hb); (try clear hb2); (try clear hk); (try clear hi); (try clear ho0); obtain ⟨Ao7, co7, eo7⟩ := Kd.R_slice HO105.out; subst eo7) | ((with_reducible refine gate_callee (f := 28) rfl ?_); refine goesL_ (some 11) rfl rfl Try.func28 (by kernel_rfl) rfl #[.slice Ao7 t103.length co7, .int .i64 a1] rfl (by (try simp only [List.map_toArray, List.map_cons, List.map_nil]); first | done | rfl | (simp only [List.length_drop, List.length_take]; rfl)) ?_; (with_reducible refine (slices_Contains_int_int.calls k _ _ t103 a1 t106 _ ?side1 ?side2 A5.out).mono ?_); (case side1 => repeat (first | exact (Kd.R_reads' HO105.out).2.2 | (with_reducible refine Kd.C_alloc ?_ _) | (with_reducible refine Kd.C_drewN ?_ _) | (with_reducible refine Kd.C_drew ?_))); (case side2 => exact (Kd.R_reads' HO105.out).2.1); rintro e w' ⟨rfl, ⟨nd, rfl⟩⟩; refine ⟨_, rfl, ?_⟩))
  go_ret
  exact ⟨by first | rfl | (simp [errW_none, errW_some] <;> rfl) | (simp [*, errW_none, errW_some] <;> rfl), by repeat (first | (with_reducible first | exact HB.out | apply below_alloc | apply pw_below_drewN | apply below_drew1) | exact HB.out)⟩

-- GIVEN: function 12 (shade_Retarget): MS

-- GIVEN: function 29 (shade_is): MS

/-! ### shade_list: function 31 -/
mutual
def shade_list.j0 : Nat → List (S35) → Int → List Int → Option (List Int)
  | 0, _, _, _ => none
  | k + 1, x0, x1, x2 => if 0 ≤ x1 then (if x1 < (x0.length : Int) then (shade_list.l0 k x0 x2 ((rd_T35 x0 x1).f3) (((rd_T35 x0 x1).f3).length : Int) 0) else (none)) else (none)
def shade_list.l0 : Nat → List (S35) → List Int → List Int → Int → Int → Option (List Int)
  | 0, _, _, _, _, _ => none
  | k + 1, x0, x2, x29, x30, x31 => if x31 < x30 then (if 0 ≤ x31 then (if x31 < (x29.length : Int) then ((shade_list.f k x0 (rd x29 x31) x2).bind fun t116 => (shade_list.l0 k x0 t116 x29 x30 (wrap64 (x31 + 1)))) else (none)) else (none)) else (some x2)
def shade_list.f : Nat → List (S35) → Int → List Int → Option (List Int)
  | 0, _, _, _ => none
  | k + 1, l0, a1, l2 => if l2.length < 17592186044416 then ((some (l2 ++ [a1] : List Int)).bind fun y107 => (if 0 ≤ a1 then (if a1 < (l0.length : Int) then (if ((rd_T35 l0 a1).f5) = (-1) then (shade_list.j0 k l0 a1 y107) else ((shade_list.f k l0 ((rd_T35 l0 a1).f5) y107).bind fun t111 => (shade_list.j0 k l0 a1 t111))) else (none)) else (none))) else (none)
end
theorem shade_list.mono_l : ∀ k, (∀ y0 y1 y2, LeO (shade_list.f k y0 y1 y2) (shade_list.f (k + 1) y0 y1 y2)) ∧ (∀ y0 y1 y2, LeO (shade_list.j0 k y0 y1 y2) (shade_list.j0 (k + 1) y0 y1 y2)) ∧ (∀ y0 y1 y2 y3 y4, LeO (shade_list.l0 k y0 y1 y2 y3 y4) (shade_list.l0 (k + 1) y0 y1 y2 y3 y4))
  | 0 => ⟨fun _ _ _ r h => by simp [shade_list.f] at h, fun _ _ _ r h => by simp [shade_list.j0] at h, fun _ _ _ _ _ r h => by simp [shade_list.l0] at h⟩
  | k + 1 => by
    obtain ⟨ih0, ih1, ih2⟩ := shade_list.mono_l k
    refine ⟨?_, ?_, ?_⟩
    · intro y0 y1 y2
      unfold shade_list.f
      repeat' first
      | (with_reducible exact ih0 _ _ _)
      | (with_reducible exact ih1 _ _ _)
      | (with_reducible exact ih2 _ _ _ _ _)
      | (with_reducible exact LeO.refl _)
      | (with_reducible exact LeO.none _)
      | (with_reducible refine LeO.ite ?_ ?_)
      | (with_reducible refine LeO.bind ?_ (fun _ => ?_))
      | exact ih0 _ _ _
      | exact ih1 _ _ _
      | exact ih2 _ _ _ _ _
      | exact LeO.none _
      | refine LeO.ite ?_ ?_
      | refine LeO.bind ?_ (fun _ => ?_)
    · intro y0 y1 y2
      unfold shade_list.j0
      repeat' first
      | (with_reducible exact ih0 _ _ _)
      | (with_reducible exact ih1 _ _ _)
      | (with_reducible exact ih2 _ _ _ _ _)
      | (with_reducible exact LeO.refl _)
      | (with_reducible exact LeO.none _)
      | (with_reducible refine LeO.ite ?_ ?_)
      | (with_reducible refine LeO.bind ?_ (fun _ => ?_))
      | exact ih0 _ _ _
      | exact ih1 _ _ _
      | exact ih2 _ _ _ _ _
      | exact LeO.none _
      | refine LeO.ite ?_ ?_
      | refine LeO.bind ?_ (fun _ => ?_)
    · intro y0 y1 y2 y3 y4
      unfold shade_list.l0
      repeat' first
      | (with_reducible exact ih0 _ _ _)
      | (with_reducible exact ih1 _ _ _)
      | (with_reducible exact ih2 _ _ _ _ _)
      | (with_reducible exact LeO.refl _)
      | (with_reducible exact LeO.none _)
      | (with_reducible refine LeO.ite ?_ ?_)
      | (with_reducible refine LeO.bind ?_ (fun _ => ?_))
      | exact ih0 _ _ _
      | exact ih1 _ _ _
      | exact ih2 _ _ _ _ _
      | exact LeO.none _
      | refine LeO.ite ?_ ?_
      | refine LeO.bind ?_ (fun _ => ?_)
theorem shade_list.mono : ∀ a0 a1 a2 k, LeO (shade_list.f k a0 a1 a2) (shade_list.f (k + 1) a0 a1 a2) := by
  intro a0 a1 a2 k
  obtain ⟨ih0, ih1, ih2⟩ := shade_list.mono_l k
  exact ih0 a0 a1 a2
theorem kids_foot35_3 {S : Nat → Prop} {w wc : World} {ad : Addr} {A3 : Option Addr} {n c3 : Nat} {l : List S35} (F : ∀ W_, Kept w W_ S → Kd.C k35 W_ (some ad) n l) (hk : Kept w wc S) (i : Int) (h0 : 0 ≤ i) (h1 : i < n) (hx : wc.cell? ⟨(ad.add (i.toNat * 7)).block, (ad.add (i.toNat * 7)).off + 3, none⟩ = some (.slice A3 (rd_T35 l i).f3.length c3)) : ∀ W_, Kept w W_ S → Kd.C (Kd.int .i64) W_ A3 (rd_T35 l i).f3.length (rd_T35 l i).f3 := by
  intro W_ hk'
  have hb : ¬ S ad.block := Kd.foot_neS F (by omega) (by decide)
  obtain ⟨ad', A3', c3', A6', c6', e', y0, y1, y2, y3, y4, y5, y6, l3', g3', l6', g6'⟩ := at_T35 (F W_ hk') i h0 h1
  obtain rfl : ad = ad' := (by injection e')
  have hlt : ad.block < w.heap.size := by
    obtain ⟨ad', A3', c3', A6', c6', e', y0, y1, y2, y3, y4, y5, y6, l3', g3', l6', g6'⟩ := at_T35 (F w (Kept.refl w S)) i h0 h1
    obtain rfl : ad = ad' := (by injection e')
    have := World.block_lt_of_cell? w _ y3
    rwa [show (⟨(ad.add (i.toNat * 7)).block, (ad.add (i.toNat * 7)).off + 3, none⟩ : Addr).block = ad.block from add_block _ _] at this
  have e1 := hk.2 _ hlt hb
  have e2 := hk'.2 _ hlt hb
  have e3 : W_.cell? ⟨(ad.add (i.toNat * 7)).block, (ad.add (i.toNat * 7)).off + 3, none⟩ = wc.cell? ⟨(ad.add (i.toNat * 7)).block, (ad.add (i.toNat * 7)).off + 3, none⟩ := by
    have e4 : W_.heap[(ad.add (i.toNat * 7)).block]? = wc.heap[(ad.add (i.toNat * 7)).block]? := by rw [add_block]; exact e2.trans e1.symm
    simp only [World.cell?, e4]
  rw [e3, hx] at y3
  injection y3 with y
  injection y with ya _ _
  rw [ya]
  exact g3'

set_option maxHeartbeats 8000000 in
set_option maxRecDepth 100000 in
theorem shade_list.calls (k : Nat) : ∀ (A0 : Option Addr) (c0 : Nat) (l0 : List (S35)) (a1 : Int) (P2_ : Nat → Prop) (u9000_ : Value) (l2 : List Int) (r : List Int) (w0 w : World) (hB : Below w0.heap.size w0 w) (hr0 : ∀ W_, Kept w W_ (fun k_ => P2_ k_) → Kd.C k35 W_ A0 l0.length l0) (hc0 : l0.length ≤ c0) (ho2 : Kd.R (Kd.int .i64) 3 w w0.heap.size P2_ u9000_ l2) (h : shade_list.f k l0 a1 l2 = some r),
    Calls Try.prog 31 #[.slice A0 l0.length c0, .int .i64 a1, u9000_] w fun e w' => ∃ v0_ : Value, e = .returned (v0_) ∧ Kd.R (Kd.int .i64) 3 w' w0.heap.size (fun k_ => (P2_ k_ ∨ w.heap.size ≤ k_)) v0_ r ∧ Below w0.heap.size w0 w' ∧ Kept w w' (fun k_ => P2_ k_) := by
  induction k using Nat.strongRecOn with
  | _ k ih =>
  intro A0 c0 l0 a1 P2_ u9000_ l2 r w0 w hB hr0 hc0 ho2 h
  cases k with
  | zero => exact absurd h (by simp [shade_list.f])
  | succ k =>
  simp only [shade_list.f] at h
  have HR0 := Aside0.mk hr0
  have HC0 := Aside0.mk hc0
  clear hr0 hc0
  have HO2 := Aside0.mk (show Kd.R (Kd.int .i64) 3 w w0.heap.size (fun k_ => (P2_ k_ ∨ w.heap.size ≤ k_)) u9000_ l2 from Kd.R_mono ho2 (fun k_ hk => (.inl hk)))
  have HK := Aside0.mk (Kept.refl w (fun k_ => P2_ k_))
  have HW0 := Aside0.mk hB.size
  have HB := Aside0.mk hB
  clear hB
  have H : (if l2.length < 17592186044416 then ((some (l2 ++ [a1] : List Int)).bind fun y107 => (if 0 ≤ a1 then (if a1 < (l0.length : Int) then (if ((rd_T35 l0 a1).f5) = (-1) then (shade_list.j0 k l0 a1 y107) else ((shade_list.f k l0 ((rd_T35 l0 a1).f5) y107).bind fun t111 => (shade_list.j0 k l0 a1 t111))) else (none)) else (none))) else (none)) = some r := h
  clear h
  by_cases c4 : l2.length < 17592186044416
  · rw [if_pos c4] at H
    have LMc4 := Aside0.mk c4
    clear c4
    obtain ⟨y107, hy107⟩ : ∃ y_ : List Int, y_ = (l2 ++ [a1]) := ⟨_, rfl⟩
    replace H : (if 0 ≤ a1 then (if a1 < (l0.length : Int) then (if ((rd_T35 l0 a1).f5) = (-1) then (shade_list.j0 k l0 a1 y107) else ((shade_list.f k l0 ((rd_T35 l0 a1).f5) y107).bind fun t111 => (shade_list.j0 k l0 a1 t111))) else (none)) else (none)) = some r := by first | (rw [hy107]; with_reducible exact H) | (have H2_ := (Option.bind_some _ _).symm.trans H; rw [hy107]; with_reducible exact H2_) | (have H2_ := (Option.bind_some _ _).symm.trans H; with_reducible exact H2_) | with_reducible exact H | (rw [hy107]; exact H) | exact H
    have Ny107 := Aside0.mk hy107
    clear hy107
    by_cases c5 : 0 ≤ a1
    · rw [if_pos c5] at H
      have c5b0 : decide (0 ≤ a1) = true := decide_eq_true c5
      clear c5
      by_cases c6 : a1 < (l0.length : Int)
      · rw [if_pos c6] at H
        have c6b0 : decide (a1 < (l0.length : Int)) = true := decide_eq_true c6
        clear c6
        have HC7 := Aside0.mk H
        clear H
        go_enter Try.func31, Try.ntmps31
        go_upto_if 20 with (first | ((with_reducible refine gate_builtin (b := .append) (xs := #[.tmp 10, .tmp 12]) rfl ?_); at_builtin; refine Kd.R_append (Kd.int .i64) (w0 := w0) w0.heap.size rfl (.tmp 10) (.tmp 12) 28 3 (.int .i64 0) 8 rfl Try.underlying28 info3 rfl (by decide) (by omega) u9000_ l2 a1 [.int .i64 a1] (fun k_ => (P2_ k_ ∨ w.heap.size ≤ k_)) (fun _ => False) rfl rfl ?aP (fun _ hk => hk.elim) ?aF ?aO ?aB ?aS ?aL ?_; (case aP => exact rfl); (case aB => exact (by repeat (first | (with_reducible first | exact HB.out | apply below_alloc | apply pw_below_drewN | apply below_drew1) | exact HB.out))); (case aF => exact (fun k_ hk => (.inr (Nat.le_trans (by first | exact HK.out.1 | exact (show Kept w _ (fun k_ => P2_ k_) from by repeat (first | (with_reducible first | exact HK.out | apply Kept.alloc | apply Kept.drewN | apply Kept.drew) | exact HK.out)).1) hk)))); (case aO => exact (by (with_reducible repeat (first | apply Kd.R_alloc | apply Kd.R_drewN | apply Kd.R_drew)); exact HO2.out)); (case aS => exact (below_size (by repeat (first | (with_reducible first | exact HB.out | apply below_alloc | apply pw_below_drewN | apply below_drew1) | exact HB.out)))); (case aL => have := LMc4.out; omega); intro v108 w8 ho hb hg hat; rw [← Ny107.out] at ho; have n0_ := Aside0.mk (hb); have n1_ := Aside0.mk (Kept.of_grown (S := (fun k_ => P2_ k_)) hg (by repeat (first | (with_reducible first | exact HK.out | apply Kept.alloc | apply Kept.drewN | apply Kept.drew) | exact HK.out)) (fun k_ e_ => (HO2.out.1 k_ e_))); have n2_ := Aside0.mk (ho); clear HB; clear HK; clear HO2; have HB := n0_; have HK := n1_; have HO109 := n2_; clear n0_ n1_ n2_; clear ho hb hg hat; have p110 : 0 ≤ (a1 : Int) := of_decide_eq_true (by first | (with_reducible assumption) | assumption); have q110 : a1 < (l0.length : Int) := of_decide_eq_true (by first | (with_reducible assumption) | assumption); obtain ⟨ad110, A110_3, c110_3, A110_6, c110_6, e110, hx110_0, hx110_1, hx110_2, hx110_3, hx110_4, hx110_5, hx110_6, hl110_3, hi110_3, hl110_6, hi110_6⟩ := at_T35 (Kd.C_kept_now HR0.out HK.out) a1 p110 q110; cases e110; have HR110_3 := Aside0.mk hi110_3; have HC110_3 := Aside0.mk hl110_3; clear hi110_3 hl110_3; have HR110_6 := Aside0.mk hi110_6; have HC110_6 := Aside0.mk hl110_6; clear hi110_6 hl110_6; replace p110 := eq_true p110; replace q110 := eq_true q110))
        (try simp only [Act.put, List.setIfInBounds_toArray, List.set_cons_zero, List.set_cons_succ])
        go_cut [2] (fun v2 wc => ∃ (kq : Nat) (x2_6 : List Int), Aside0 (shade_list.j0 kq l0 a1 x2_6 = some r) ∧ Aside0 (kq ≤ k) ∧ Aside0 (Kd.R (Kd.int .i64) 3 wc w0.heap.size (fun k_ => (P2_ k_ ∨ w.heap.size ≤ k_)) v2 x2_6) ∧ Aside0 (Kept w wc (fun k_ => P2_ k_)) ∧ Aside0 (Below w0.heap.size w0 wc))
        case first =>
          have H := HC7.out
          clear HC7
          by_cases c9 : ((rd_T35 l0 a1).f5) = (-1)
          · rw [if_pos c9] at H
            have c9b0 : (((rd_T35 l0 a1).f5) == (-1)) = true := beq_iff_eq.mpr c9
            have c9b1 : (((rd_T35 l0 a1).f5) != (-1)) = false := bne_eq_false_iff_eq.mpr c9
            clear c9
            (first | rw [c9b0] | (simp only [i64_w, i32_w]; rw [c9b0]) | skip)
            have H' := Aside0.mk H
            clear H
            go_wp2
            go_meet
            case rel => exact ⟨_, (y107), H', ⟨by first | omega | exact Nat.le_refl _⟩, ⟨by (with_reducible repeat (first | apply Kd.R_alloc | apply Kd.R_drewN | apply Kd.R_drew)); exact HO109.out⟩, ⟨by repeat (first | (with_reducible first | exact HK.out | apply Kept.alloc | apply Kept.drewN | apply Kept.drew) | exact HK.out)⟩, ⟨by repeat (first | (with_reducible first | exact HB.out | apply below_alloc | apply pw_below_drewN | apply below_drew1) | exact HB.out)⟩⟩
          · rw [if_neg c9] at H
            have c9b0 : (((rd_T35 l0 a1).f5) == (-1)) = false := beq_eq_false_iff_ne.mpr c9
            have c9b1 : (((rd_T35 l0 a1).f5) != (-1)) = true := bne_iff_ne.mpr c9
            (first | rw [c9b0] | (simp only [i64_w, i32_w]; rw [c9b0]) | skip)
            replace H := Option.bind_eq_some_iff.mp H
            obtain ⟨t111, A100, H⟩ := H
            replace H : (shade_list.j0 k l0 a1 t111) = some r := H
            have A10 := Aside0.mk A100
            clear A100
            have H' := Aside0.mk H
            clear H
            obtain ⟨Ao11, co11, eo11⟩ := Kd.R_slice HO109.out
            subst eo11
            go_wp2_with (first | ((with_reducible refine gate_callee (f := 31) rfl ?_); refine goesL_ (some 24) rfl rfl Try.func31 (by kernel_rfl) rfl #[.slice (some ad110) l0.length c0, .int .i64 ((rd_T35 l0 a1).f5), .slice Ao11 y107.length co11] rfl (by (try simp only [List.map_toArray, List.map_cons, List.map_nil]); first | done | rfl | (simp only [List.length_drop, List.length_take]; rfl)) ?_; (with_reducible refine (ih k (by omega) _ _ l0 ((rd_T35 l0 a1).f5) (fun k_ => some k_ = (.slice Ao11 y107.length co11 : Value).ownBlock) (.slice Ao11 y107.length co11) y107 t111 w0 _ ?side1 ?side2 ?side3 ?side4 A10.out).mono ?_); (case side1 => repeat (first | (with_reducible first | exact HB.out | apply below_alloc | apply pw_below_drewN | apply below_drew1) | exact HB.out)); (case side2 => exact Kd.C_kept_call HR0.out (by repeat (first | (with_reducible first | exact HK.out | apply Kept.alloc | apply Kept.drewN | apply Kept.drew) | exact HK.out)) (fun k_ hs_ => (fun e_ => (HO109.out.1 k_ e_.symm)) hs_)); (case side3 => exact HC0.out); (case side4 => exact Kd.R_tight rfl HO109.out); rintro e w12 ⟨v112, rfl, ho0, hb, hkp⟩; refine ⟨_, rfl, ?_⟩; have n0_ := Aside0.mk (Kd.R_mono (ok' := fun k_ => (P2_ k_ ∨ w.heap.size ≤ k_)) ho0 (fun k_ hk_ => Or.elim hk_ (fun hs_ => (HO109.out.1 k_ (hs_).symm)) (fun hn_ => (.inr (Nat.le_trans (by first | exact HK.out.1 | exact (show Kept w _ (fun k_ => P2_ k_) from by repeat (first | (with_reducible first | exact HK.out | apply Kept.alloc | apply Kept.drewN | apply Kept.drew) | exact HK.out)).1) hn_))))); have n1_ := Aside0.mk (Kept.then_ (S := (fun k_ => P2_ k_)) (by repeat (first | (with_reducible first | exact HK.out | apply Kept.alloc | apply Kept.drewN | apply Kept.drew) | exact HK.out)) hkp (fun k_ hs_ => (fun e_ => (HO109.out.1 k_ e_.symm)) hs_)); have n2_ := Aside0.mk (hb); clear HK; clear HB; clear HO109; have HO113 := n0_; have HK := n1_; have HB := n2_; clear n0_ n1_ n2_; (try clear hb); (try clear hkp); (try clear ho0)))
            go_meet
            case rel => exact ⟨_, (t111), H', ⟨by first | omega | exact Nat.le_refl _⟩, ⟨by (with_reducible repeat (first | apply Kd.R_alloc | apply Kd.R_drewN | apply Kd.R_drew)); exact HO113.out⟩, ⟨by repeat (first | (with_reducible first | exact HK.out | apply Kept.alloc | apply Kept.drewN | apply Kept.drew) | exact HK.out)⟩, ⟨by repeat (first | (with_reducible first | exact HB.out | apply below_alloc | apply pw_below_drewN | apply below_drew1) | exact HB.out)⟩⟩
        case rest =>
          clear HC7
          try clear c1
          try clear p1
          try clear q1
          try clear hx1
          try clear p2
          try clear c3
          try clear c4
          try clear c5
          try clear c5b0
          try clear c6
          try clear c6b0
          try clear c9
          try clear c9b0
          try clear c9b1
          try clear c11
          try clear p11
          try clear q11
          try clear hx11
          try clear hx110_0
          try clear hx110_1
          try clear hx110_2
          try clear hx110_3
          try clear hx110_4
          try clear hx110_5
          try clear hx110_6
          try clear p110
          try clear q110
          obtain ⟨kq, x2_6, HA, HJ6, HO_2, HK, HB⟩ := hcut
          cases kq with
          | zero => exact absurd HA.out (by simp [shade_list.j0])
          | succ kj6 =>
            have H := HA.out
            clear HA
            simp only [shade_list.j0] at H
            by_cases c13 : 0 ≤ a1
            · rw [if_pos c13] at H
              have c13b0 : decide (0 ≤ a1) = true := decide_eq_true c13
              clear c13
              by_cases c14 : a1 < (l0.length : Int)
              · rw [if_pos c14] at H
                have c14b0 : decide (a1 < (l0.length : Int)) = true := decide_eq_true c14
                clear c14
                have H' := Aside0.mk H
                clear H
                have p114 : 0 ≤ (a1 : Int) := of_decide_eq_true (by first | (with_reducible assumption) | assumption)
                have q114 : a1 < (l0.length : Int) := of_decide_eq_true (by first | (with_reducible assumption) | assumption)
                obtain ⟨ad114, A114_3, c114_3, A114_6, c114_6, e114, hx114_0, hx114_1, hx114_2, hx114_3, hx114_4, hx114_5, hx114_6, hl114_3, hi114_3, hl114_6, hi114_6⟩ := at_T35 (Kd.C_kept_now HR0.out HK.out) a1 p114 q114
                obtain rfl : ad110 = ad114 := (by injection e114)
                have HF114_3 := Aside0.mk (kids_foot35_3 HR0.out HK.out a1 p114 q114 hx114_3)
                have HR114_3 := Aside0.mk hi114_3
                have HC114_3 := Aside0.mk hl114_3
                clear hi114_3 hl114_3
                have HR114_6 := Aside0.mk hi114_6
                have HC114_6 := Aside0.mk hl114_6
                clear hi114_6 hl114_6
                replace p114 := eq_true p114
                replace q114 := eq_true q114
                go_wp2
                go_loopg [2, 31] kj6 (fun kq v2 v31 w' => ∃ (x2_2 : List Int) (x31_2 : Int), v31 = .int .i64 x31_2 ∧ Aside0 (shade_list.l0 kq l0 x2_2 ((rd_T35 l0 a1).f3) (((rd_T35 l0 a1).f3).length : Int) x31_2 = some r) ∧ Aside0 (kq ≤ kj6) ∧ Aside0 (Kd.R (Kd.int .i64) 3 w' w0.heap.size (fun k_ => (P2_ k_ ∨ w.heap.size ≤ k_)) v2 x2_2) ∧ Aside0 (Kept w w' (fun k_ => P2_ k_)) ∧ Aside0 (Below w0.heap.size w0 w'))
                case atStart => exact ⟨(x2_6), (0), (by first | rfl | (simp; done) | (simp [*]; done)), H', ⟨Nat.le_refl _⟩, ⟨by (with_reducible repeat (first | apply Kd.R_alloc | apply Kd.R_drewN | apply Kd.R_drew)); exact HO_2.out⟩, ⟨by repeat (first | (with_reducible first | exact HK.out | apply Kept.alloc | apply Kept.drewN | apply Kept.drew) | exact HK.out)⟩, ⟨by repeat (first | (with_reducible first | exact HB.out | apply below_alloc | apply pw_below_drewN | apply below_drew1) | exact HB.out)⟩⟩
                case round =>
                  clear H'
                  try clear c1
                  try clear p1
                  try clear q1
                  try clear hx1
                  try clear p2
                  try clear c3
                  try clear c4
                  try clear c5
                  try clear c5b0
                  try clear c6
                  try clear c6b0
                  try clear c9
                  try clear c9b0
                  try clear c9b1
                  try clear c11
                  try clear p11
                  try clear q11
                  try clear hx11
                  try clear c13
                  try clear c13b0
                  try clear c14
                  try clear c14b0
                  try clear hx110_0
                  try clear hx110_1
                  try clear hx110_2
                  try clear hx110_3
                  try clear hx110_4
                  try clear hx110_5
                  try clear hx110_6
                  try clear hx114_0
                  try clear hx114_1
                  try clear hx114_2
                  try clear hx114_3
                  try clear hx114_4
                  try clear hx114_5
                  try clear hx114_6
                  try clear p1
                  try clear p11
                  try clear p110
                  try clear p114
                  try clear p2
                  try clear q1
                  try clear q11
                  try clear q110
                  try clear q114
                  obtain ⟨x2_2, x31_2, rfl, HA, HK2, HO_2, HK, HB⟩ := hrel
                  cases gk with
                  | zero => exact absurd HA.out (by simp [shade_list.l0])
                  | succ k2 =>
                    have H := HA.out
                    clear HA
                    simp only [shade_list.l0] at H
                    by_cases c15 : x31_2 < (((rd_T35 l0 a1).f3).length : Int)
                    · rw [if_pos c15] at H
                      have c15b0 : decide (x31_2 < (((rd_T35 l0 a1).f3).length : Int)) = true := decide_eq_true c15
                      clear c15
                      by_cases c16 : 0 ≤ x31_2
                      · rw [if_pos c16] at H
                        have c16b0 : decide (0 ≤ x31_2) = true := decide_eq_true c16
                        clear c16
                        by_cases c17 : x31_2 < (((rd_T35 l0 a1).f3).length : Int)
                        · rw [if_pos c17] at H
                          have c17b0 : decide (x31_2 < (((rd_T35 l0 a1).f3).length : Int)) = true := decide_eq_true c17
                          clear c17
                          replace H := Option.bind_eq_some_iff.mp H
                          obtain ⟨t116, A180, H⟩ := H
                          replace H : (shade_list.l0 k2 l0 t116 ((rd_T35 l0 a1).f3) (((rd_T35 l0 a1).f3).length : Int) (wrap64 (x31_2 + 1))) = some r := H
                          have A18 := Aside0.mk A180
                          clear A180
                          have H' := Aside0.mk H
                          clear H
                          have p115 : 0 ≤ (x31_2 : Int) := of_decide_eq_true (by first | (with_reducible assumption) | assumption)
                          have q115 : x31_2 < (((rd_T35 l0 a1).f3).length : Int) := of_decide_eq_true (by first | (with_reducible assumption) | assumption)
                          obtain ⟨ad115, e115, hx115_0⟩ := Kd.at_int (HF114_3.out _ HK.out) x31_2 p115 q115
                          cases e115
                          replace p115 := eq_true p115
                          replace q115 := eq_true q115
                          obtain ⟨Ao19, co19, eo19⟩ := Kd.R_slice HO_2.out
                          subst eo19
                          go_wp2_with (first | ((with_reducible refine gate_callee (f := 31) rfl ?_); refine goesL_ (some 38) rfl rfl Try.func31 (by kernel_rfl) rfl #[.slice (some ad110) l0.length c0, .int .i64 (rd ((rd_T35 l0 a1).f3) x31_2), .slice Ao19 x2_2.length co19] rfl (by (try simp only [List.map_toArray, List.map_cons, List.map_nil]); first | done | rfl | (simp only [List.length_drop, List.length_take]; rfl)) ?_; (with_reducible refine (ih k2 (by have := HJ6.out; have := HK2.out; omega) _ _ l0 (rd ((rd_T35 l0 a1).f3) x31_2) (fun k_ => some k_ = (.slice Ao19 x2_2.length co19 : Value).ownBlock) (.slice Ao19 x2_2.length co19) x2_2 t116 w0 _ ?side1 ?side2 ?side3 ?side4 A18.out).mono ?_); (case side1 => repeat (first | (with_reducible first | exact HB.out | apply below_alloc | apply pw_below_drewN | apply below_drew1) | exact HB.out)); (case side2 => exact Kd.C_kept_call HR0.out (by repeat (first | (with_reducible first | exact HK.out | apply Kept.alloc | apply Kept.drewN | apply Kept.drew) | exact HK.out)) (fun k_ hs_ => (fun e_ => (HO_2.out.1 k_ e_.symm)) hs_)); (case side3 => exact HC0.out); (case side4 => exact Kd.R_tight rfl HO_2.out); rintro e w20 ⟨v117, rfl, ho0, hb, hkp⟩; refine ⟨_, rfl, ?_⟩; have n0_ := Aside0.mk (Kd.R_mono (ok' := fun k_ => (P2_ k_ ∨ w.heap.size ≤ k_)) ho0 (fun k_ hk_ => Or.elim hk_ (fun hs_ => (HO_2.out.1 k_ (hs_).symm)) (fun hn_ => (.inr (Nat.le_trans (by first | exact HK.out.1 | exact (show Kept w _ (fun k_ => P2_ k_) from by repeat (first | (with_reducible first | exact HK.out | apply Kept.alloc | apply Kept.drewN | apply Kept.drew) | exact HK.out)).1) hn_))))); have n1_ := Aside0.mk (Kept.then_ (S := (fun k_ => P2_ k_)) (by repeat (first | (with_reducible first | exact HK.out | apply Kept.alloc | apply Kept.drewN | apply Kept.drew) | exact HK.out)) hkp (fun k_ hs_ => (fun e_ => (HO_2.out.1 k_ e_.symm)) hs_)); have n2_ := Aside0.mk (hb); clear HK; clear HB; clear HO_2; have HO118 := n0_; have HK := n1_; have HB := n2_; clear n0_ n1_ n2_; (try clear hb); (try clear hkp); (try clear ho0)))
                          go_roundg k2
                          case measure => have := HJ6.out; have := HK2.out; omega
                          case rel => exact ⟨(t116), (wrap64 (x31_2 + 1)), (by first | rfl | (simp; done) | (simp [*]; done)), H', ⟨by have := HJ6.out; have := HK2.out; omega⟩, ⟨by (with_reducible repeat (first | apply Kd.R_alloc | apply Kd.R_drewN | apply Kd.R_drew)); exact HO118.out⟩, ⟨by repeat (first | (with_reducible first | exact HK.out | apply Kept.alloc | apply Kept.drewN | apply Kept.drew) | exact HK.out)⟩, ⟨by repeat (first | (with_reducible first | exact HB.out | apply below_alloc | apply pw_below_drewN | apply below_drew1) | exact HB.out)⟩⟩
                        · rw [if_neg c17] at H
                          exact absurd H (by simp)
                      · rw [if_neg c16] at H
                        exact absurd H (by simp)
                    · rw [if_neg c15] at H
                      have c15b0 : decide (x31_2 < (((rd_T35 l0 a1).f3).length : Int)) = false := decide_eq_false c15
                      clear c15
                      obtain rfl := Option.some.inj H
                      go_wp2
                      go_ret
                      exact ⟨_, by first | rfl | (simp [errW_none, errW_some] <;> rfl) | (simp [*, errW_none, errW_some] <;> rfl), by (with_reducible repeat (first | apply Kd.R_alloc | apply Kd.R_drewN | apply Kd.R_drew)); exact HO_2.out, by repeat (first | (with_reducible first | exact HB.out | apply below_alloc | apply pw_below_drewN | apply below_drew1) | exact HB.out), by repeat (first | (with_reducible first | exact HK.out | apply Kept.alloc | apply Kept.drewN | apply Kept.drew) | exact HK.out)⟩
              · rw [if_neg c14] at H
                exact absurd H (by simp)
            · rw [if_neg c13] at H
              exact absurd H (by simp)
      · rw [if_neg c6] at H
        exact absurd H (by simp)
    · rw [if_neg c5] at H
      exact absurd H (by simp)
  · rw [if_neg c4] at H
    exact absurd H (by simp)

/-! ### shade_List: function 14 -/
def shade_List.f (k : Nat) (l0 : List (S35)) (a1 : Int) : Option (List Int) := (shade_is.f l0 a1).bind fun t119 => (if t119 = true then ((shade_list.f k l0 a1 ([] : List Int)).bind fun t120 => (some t120)) else (some ([] : List Int)))
theorem shade_List.mono : ∀ a0 a1 k, LeO (shade_List.f k a0 a1) (shade_List.f (k + 1) a0 a1) := by
  intro a0 a1 k
  unfold shade_List.f
  repeat' first
      | (with_reducible exact shade_list.mono _ _ _ _)
      | (with_reducible exact LeO.refl _)
      | (with_reducible exact LeO.none _)
      | (with_reducible refine LeO.ite ?_ ?_)
      | (with_reducible refine LeO.bind ?_ (fun _ => ?_))
      | exact shade_list.mono _ _ _ _
      | exact LeO.none _
      | refine LeO.ite ?_ ?_
      | refine LeO.bind ?_ (fun _ => ?_)
set_option maxHeartbeats 8000000 in
set_option maxRecDepth 100000 in
theorem shade_List.calls (k : Nat) (A0 : Option Addr) (c0 : Nat) (l0 : List (S35)) (a1 : Int) (r : List Int) (w : World) (hr0 : Kd.C k35 w A0 l0.length l0) (hc0 : l0.length ≤ c0) (h : shade_List.f k l0 a1 = some r) :
    Calls Try.prog 14 #[.slice A0 l0.length c0, .int .i64 a1] w fun e w' => ∃ v0_ : Value, e = .returned (v0_) ∧ Kd.R (Kd.int .i64) 3 w' w.heap.size (fun _ => True) v0_ r ∧ Below w.heap.size w w' := by
  have HR0 := Aside0.mk hr0
  have HC0 := Aside0.mk hc0
  clear hr0 hc0
  have HB := Aside0.mk (Below.refl w.heap.size w)
  have H : ((shade_is.f l0 a1).bind fun t119 => (if t119 = true then ((shade_list.f k l0 a1 ([] : List Int)).bind fun t120 => (some t120)) else (some ([] : List Int)))) = some r := h
  clear h
  replace H := Option.bind_eq_some_iff.mp H
  obtain ⟨t119, A30, H⟩ := H
  replace H : (if t119 = true then ((shade_list.f k l0 a1 ([] : List Int)).bind fun t120 => (some t120)) else (some ([] : List Int))) = some r := H
  have A3 := Aside0.mk A30
  clear A30
  by_cases c4 : t119 = true
  · subst c4
    have H1 : ((shade_list.f k l0 a1 ([] : List Int)).bind fun t120 => (some t120)) = some r := by rw [if_pos rfl] at H; exact H
    clear H
    have H := H1
    clear H1
    replace H := Option.bind_eq_some_iff.mp H
    obtain ⟨t120, A50, H⟩ := H
    replace H : (some t120) = some r := H
    have A5 := Aside0.mk A50
    clear A50
    obtain rfl := Option.some.inj H
    go_enter Try.func14, Try.ntmps14
    go_wp2_with (first | ((with_reducible refine gate_callee (f := 29) rfl ?_); refine goesL_ (some 7) rfl rfl Try.func29 (by kernel_rfl) rfl #[.slice A0 l0.length c0, .int .i64 a1] rfl (by (try simp only [List.map_toArray, List.map_cons, List.map_nil]); first | done | rfl | (simp only [List.length_drop, List.length_take]; rfl)) ?_; (with_reducible refine (shade_is.calls _ _ l0 a1 true _ ?side1 ?side2 A3.out).mono ?_); (case side1 => repeat (first | exact HR0.out | (with_reducible refine Kd.C_alloc ?_ _) | (with_reducible refine Kd.C_drewN ?_ _) | (with_reducible refine Kd.C_drew ?_))); (case side2 => exact HC0.out); rintro e w6 ⟨rfl, hb⟩; refine ⟨_, rfl, ?_⟩; have n0_ := Aside0.mk (below_step (by repeat (first | (with_reducible first | exact HB.out | apply below_alloc | apply pw_below_drewN | apply below_drew1) | exact HB.out)) hb); clear HB; have HB := n0_; clear n0_; (try clear hb); (try clear hb2); (try clear hk); (try clear hi)) | ((with_reducible refine gate_callee (f := 31) rfl ?_); refine goesL_ (some 11) rfl rfl Try.func31 (by kernel_rfl) rfl #[.slice A0 l0.length c0, .int .i64 a1, .slice none 0 0] rfl (by (try simp only [List.map_toArray, List.map_cons, List.map_nil]); first | done | rfl | (simp only [List.length_drop, List.length_take]; rfl)) ?_; (refine (shade_list.calls k _ _ l0 a1 (fun k_ => some k_ = (.slice none 0 0 : Value).ownBlock) (.slice none 0 0) ([] : List Int) t120 w _ ?side1 ?side2 ?side3 ?side4 A5.out).mono ?_); (case side1 => repeat (first | (with_reducible first | exact HB.out | apply below_alloc | apply pw_below_drewN | apply below_drew1) | exact HB.out)); (case side2 => exact Kd.C_kept_came k35_heap HR0.out (by repeat (first | (with_reducible first | exact HB.out | apply below_alloc | apply pw_below_drewN | apply below_drew1) | exact HB.out)) (fun k_ hs_ => (fun e_ => by simp [Value.ownBlock] at e_) hs_)); (case side3 => exact HC0.out); (case side4 => exact Kd.R_nil _ _ _ _ _); rintro e w7 ⟨v121, rfl, ho0, hb, hkp⟩; refine ⟨_, rfl, ?_⟩; have n0_ := Aside0.mk (Kd.R_mono (ok' := fun k_ => True) ho0 (fun k_ hk_ => trivial)); have n1_ := Aside0.mk (hb); clear HB; have HO122 := n0_; have HB := n1_; clear n0_ n1_; (try clear hb); (try clear hkp); (try clear ho0)))
    go_ret
    exact ⟨_, by first | rfl | (simp [errW_none, errW_some] <;> rfl) | (simp [*, errW_none, errW_some] <;> rfl), by (with_reducible repeat (first | apply Kd.R_alloc | apply Kd.R_drewN | apply Kd.R_drew)); exact HO122.out, by repeat (first | (with_reducible first | exact HB.out | apply below_alloc | apply pw_below_drewN | apply below_drew1) | exact HB.out)⟩
  · replace c4 := Bool.eq_false_iff.mpr c4
    subst c4
    have H1 : (some ([] : List Int)) = some r := by rw [if_neg (show ¬ (false = true) by decide)] at H; exact H
    clear H
    have H := H1
    clear H1
    obtain rfl := Option.some.inj H
    go_enter Try.func14, Try.ntmps14
    go_wp2_with (first | ((with_reducible refine gate_callee (f := 29) rfl ?_); refine goesL_ (some 7) rfl rfl Try.func29 (by kernel_rfl) rfl #[.slice A0 l0.length c0, .int .i64 a1] rfl (by (try simp only [List.map_toArray, List.map_cons, List.map_nil]); first | done | rfl | (simp only [List.length_drop, List.length_take]; rfl)) ?_; (with_reducible refine (shade_is.calls _ _ l0 a1 false _ ?side1 ?side2 A3.out).mono ?_); (case side1 => repeat (first | exact HR0.out | (with_reducible refine Kd.C_alloc ?_ _) | (with_reducible refine Kd.C_drewN ?_ _) | (with_reducible refine Kd.C_drew ?_))); (case side2 => exact HC0.out); rintro e w8 ⟨rfl, hb⟩; refine ⟨_, rfl, ?_⟩; have n0_ := Aside0.mk (below_step (by repeat (first | (with_reducible first | exact HB.out | apply below_alloc | apply pw_below_drewN | apply below_drew1) | exact HB.out)) hb); clear HB; have HB := n0_; clear n0_; (try clear hb); (try clear hb2); (try clear hk); (try clear hi)))
    go_ret
    exact ⟨_, by first | rfl | (simp [errW_none, errW_some] <;> rfl) | (simp [*, errW_none, errW_some] <;> rfl), by first | exact Kd.R_nil _ _ _ _ _ | exact Kd.N_nil _ _ _ _ _ | exact Kd.V_nil _ _ _ _ _ | exact Kd.Q_nil _ _ _ _ _ | exact Kd.S_nil _ _ _ _ _, by repeat (first | (with_reducible first | exact HB.out | apply below_alloc | apply pw_below_drewN | apply below_drew1) | exact HB.out)⟩

/-! ### shade_Connected: function 15 -/
def shade_Connected.f (k : Nat) (l0 : List (S35)) (a1 : Int) : Option (Bool) := (shade_Above.f k l0 0 a1).bind fun t123 => (some t123)
theorem shade_Connected.mono : ∀ a0 a1 k, LeO (shade_Connected.f k a0 a1) (shade_Connected.f (k + 1) a0 a1) := by
  intro a0 a1 k
  unfold shade_Connected.f
  repeat' first
      | (with_reducible exact shade_Above.mono _ _ _ _)
      | (with_reducible exact LeO.refl _)
      | (with_reducible exact LeO.none _)
      | (with_reducible refine LeO.ite ?_ ?_)
      | (with_reducible refine LeO.bind ?_ (fun _ => ?_))
      | exact shade_Above.mono _ _ _ _
      | exact LeO.none _
      | refine LeO.ite ?_ ?_
      | refine LeO.bind ?_ (fun _ => ?_)
set_option maxHeartbeats 8000000 in
set_option maxRecDepth 100000 in
theorem shade_Connected.calls (k : Nat) (A0 : Option Addr) (c0 : Nat) (l0 : List (S35)) (a1 : Int) (r : Bool) (w : World) (hr0 : Kd.C k35 w A0 l0.length l0) (hc0 : l0.length ≤ c0) (h : shade_Connected.f k l0 a1 = some r) :
    Calls Try.prog 15 #[.slice A0 l0.length c0, .int .i64 a1] w fun e w' => e = .returned (.bool r) ∧ Below w.heap.size w w' := by
  have HR0 := Aside0.mk hr0
  have HC0 := Aside0.mk hc0
  clear hr0 hc0
  have HB := Aside0.mk (Below.refl w.heap.size w)
  have H : ((shade_Above.f k l0 0 a1).bind fun t123 => (some t123)) = some r := h
  clear h
  replace H := Option.bind_eq_some_iff.mp H
  obtain ⟨t123, A30, H⟩ := H
  replace H : (some t123) = some r := H
  have A3 := Aside0.mk A30
  clear A30
  obtain rfl := Option.some.inj H
  go_enter Try.func15, Try.ntmps15
  go_wp2_with (first | ((with_reducible refine gate_callee (f := 11) rfl ?_); refine goesL_ (some 7) rfl rfl Try.func11 (by kernel_rfl) rfl #[.slice A0 l0.length c0, .int .i64 0, .int .i64 a1] rfl (by (try simp only [List.map_toArray, List.map_cons, List.map_nil]); first | done | rfl | (simp only [List.length_drop, List.length_take]; rfl)) ?_; (with_reducible refine (shade_Above.calls k _ _ l0 0 a1 t123 _ ?side1 ?side2 A3.out).mono ?_); (case side1 => repeat (first | exact HR0.out | (with_reducible refine Kd.C_alloc ?_ _) | (with_reducible refine Kd.C_drewN ?_ _) | (with_reducible refine Kd.C_drew ?_))); (case side2 => exact HC0.out); rintro e w4 ⟨rfl, hb⟩; refine ⟨_, rfl, ?_⟩; have n0_ := Aside0.mk (below_step (by repeat (first | (with_reducible first | exact HB.out | apply below_alloc | apply pw_below_drewN | apply below_drew1) | exact HB.out)) hb); clear HB; have HB := n0_; clear n0_; (try clear hb); (try clear hb2); (try clear hk); (try clear hi)))
  go_ret
  exact ⟨by first | rfl | (simp [errW_none, errW_some] <;> rfl) | (simp [*, errW_none, errW_some] <;> rfl), by repeat (first | (with_reducible first | exact HB.out | apply below_alloc | apply pw_below_drewN | apply below_drew1) | exact HB.out)⟩

-- GIVEN: function 16 (shade_Host): MS

-- GIVEN: function 17 (limelightref01_Ints): ME

/-! ### limelightlaw04_live: function 9 -/
def limelightlaw04_live.f (k : Nat)  : Option (Bool) := (some (([(⟨0, 0, (-1), (([1] : List Int)), (-1), (-1), ([] : List (S50))⟩ : S35), (⟨1, 0, 0, (([4] : List Int)), (-1), 2, ([] : List (S50))⟩ : S35), (⟨3, 0, (-1), (([3] : List Int)), 1, (-1), ([] : List (S50))⟩ : S35), (⟨1, 0, 2, ([] : List Int), (-1), (-1), ([] : List (S50))⟩ : S35), (⟨1, 0, 1, ([] : List Int), (-1), (-1), ([] : List (S50))⟩ : S35), (⟨1, 0, (-1), ([] : List Int), (-1), (-1), ([] : List (S50))⟩ : S35)] : List (S35)) : List (S35))).bind fun y133 => ((shade_Up.f y133 3).bind fun t136 => ((limelightref01_Ints.f t136 (([3, 2, 1, 0] : List Int))).bind fun t142 => (if t142 = true then ((shade_List.f k y133 0).bind fun t143 => ((limelightref01_Ints.f t143 (([0, 1, 2, 3, 4] : List Int))).bind fun t149 => (if t149 = true then ((shade_Connected.f k y133 3).bind fun t150 => (if t150 = true then ((shade_Connected.f k y133 5).bind fun t151 => (if t151 = true then (none) else ((shade_Retarget.f y133 3 0).bind fun t152 => (if t152 = 1 then ((shade_Retarget.f y133 3 3).bind fun t153 => (if t153 = 3 then ((shade_Retarget.f y133 4 3).bind fun t154 => (if t154 = 4 then ((shade_Host.f y133 3).bind fun t155 => (if t155 = 1 then ((shade_Host.f y133 4).bind fun t156 => (if t156 = (-1) then ((shade_Above.f k y133 1 3).bind fun t157 => (if t157 = true then ((shade_Up.f ([] : List (S35)) 0).bind fun t158 => (if (t158.length : Int) = 0 then ((shade_Retarget.f y133 3 9).bind fun t161 => (some (t161 == (-1)))) else (none))) else (none))) else (none))) else (none))) else (none))) else (none))) else (none))))) else (none))) else (none)))) else (none))))
theorem limelightlaw04_live.mono : ∀ k, LeO (limelightlaw04_live.f k ) (limelightlaw04_live.f (k + 1) ) := by
  intro  k
  unfold limelightlaw04_live.f
  repeat' first
      | (with_reducible exact shade_Above.mono _ _ _ _)
      | (with_reducible exact shade_Connected.mono _ _ _)
      | (with_reducible exact shade_List.mono _ _ _)
      | (with_reducible exact LeO.refl _)
      | (with_reducible exact LeO.none _)
      | (with_reducible refine LeO.ite ?_ ?_)
      | (with_reducible refine LeO.bind ?_ (fun _ => ?_))
      | exact shade_Above.mono _ _ _ _
      | exact shade_Connected.mono _ _ _
      | exact shade_List.mono _ _ _
      | exact LeO.none _
      | refine LeO.ite ?_ ?_
      | refine LeO.bind ?_ (fun _ => ?_)
set_option maxHeartbeats 8000000 in
set_option maxRecDepth 100000 in
theorem limelightlaw04_live.calls (k : Nat)  (r : Bool) (w : World) (h : limelightlaw04_live.f k  = some r) :
    Calls Try.prog 9 #[] w fun e w' => e = .returned (.bool r) ∧ Below w.heap.size w w' := by
  have hu35 := Try.underlying35
  have HB := Aside0.mk (Below.refl w.heap.size w)
  have H : ((some (([(⟨0, 0, (-1), (([1] : List Int)), (-1), (-1), ([] : List (S50))⟩ : S35), (⟨1, 0, 0, (([4] : List Int)), (-1), 2, ([] : List (S50))⟩ : S35), (⟨3, 0, (-1), (([3] : List Int)), 1, (-1), ([] : List (S50))⟩ : S35), (⟨1, 0, 2, ([] : List Int), (-1), (-1), ([] : List (S50))⟩ : S35), (⟨1, 0, 1, ([] : List Int), (-1), (-1), ([] : List (S50))⟩ : S35), (⟨1, 0, (-1), ([] : List Int), (-1), (-1), ([] : List (S50))⟩ : S35)] : List (S35)) : List (S35))).bind fun y133 => ((shade_Up.f y133 3).bind fun t136 => ((limelightref01_Ints.f t136 (([3, 2, 1, 0] : List Int))).bind fun t142 => (if t142 = true then ((shade_List.f k y133 0).bind fun t143 => ((limelightref01_Ints.f t143 (([0, 1, 2, 3, 4] : List Int))).bind fun t149 => (if t149 = true then ((shade_Connected.f k y133 3).bind fun t150 => (if t150 = true then ((shade_Connected.f k y133 5).bind fun t151 => (if t151 = true then (none) else ((shade_Retarget.f y133 3 0).bind fun t152 => (if t152 = 1 then ((shade_Retarget.f y133 3 3).bind fun t153 => (if t153 = 3 then ((shade_Retarget.f y133 4 3).bind fun t154 => (if t154 = 4 then ((shade_Host.f y133 3).bind fun t155 => (if t155 = 1 then ((shade_Host.f y133 4).bind fun t156 => (if t156 = (-1) then ((shade_Above.f k y133 1 3).bind fun t157 => (if t157 = true then ((shade_Up.f ([] : List (S35)) 0).bind fun t158 => (if (t158.length : Int) = 0 then ((shade_Retarget.f y133 3 9).bind fun t161 => (some (t161 == (-1)))) else (none))) else (none))) else (none))) else (none))) else (none))) else (none))) else (none))))) else (none))) else (none)))) else (none))))) = some r := h
  clear h
  obtain ⟨y124, hy124⟩ : ∃ y_ : List Int, y_ = (([1] : List Int)) := ⟨_, rfl⟩
  replace H : ((some (([(⟨0, 0, (-1), y124, (-1), (-1), ([] : List (S50))⟩ : S35), (⟨1, 0, 0, (([4] : List Int)), (-1), 2, ([] : List (S50))⟩ : S35), (⟨3, 0, (-1), (([3] : List Int)), 1, (-1), ([] : List (S50))⟩ : S35), (⟨1, 0, 2, ([] : List Int), (-1), (-1), ([] : List (S50))⟩ : S35), (⟨1, 0, 1, ([] : List Int), (-1), (-1), ([] : List (S50))⟩ : S35), (⟨1, 0, (-1), ([] : List Int), (-1), (-1), ([] : List (S50))⟩ : S35)] : List (S35)) : List (S35))).bind fun y133 => ((shade_Up.f y133 3).bind fun t136 => ((limelightref01_Ints.f t136 (([3, 2, 1, 0] : List Int))).bind fun t142 => (if t142 = true then ((shade_List.f k y133 0).bind fun t143 => ((limelightref01_Ints.f t143 (([0, 1, 2, 3, 4] : List Int))).bind fun t149 => (if t149 = true then ((shade_Connected.f k y133 3).bind fun t150 => (if t150 = true then ((shade_Connected.f k y133 5).bind fun t151 => (if t151 = true then (none) else ((shade_Retarget.f y133 3 0).bind fun t152 => (if t152 = 1 then ((shade_Retarget.f y133 3 3).bind fun t153 => (if t153 = 3 then ((shade_Retarget.f y133 4 3).bind fun t154 => (if t154 = 4 then ((shade_Host.f y133 3).bind fun t155 => (if t155 = 1 then ((shade_Host.f y133 4).bind fun t156 => (if t156 = (-1) then ((shade_Above.f k y133 1 3).bind fun t157 => (if t157 = true then ((shade_Up.f ([] : List (S35)) 0).bind fun t158 => (if (t158.length : Int) = 0 then ((shade_Retarget.f y133 3 9).bind fun t161 => (some (t161 == (-1)))) else (none))) else (none))) else (none))) else (none))) else (none))) else (none))) else (none))))) else (none))) else (none)))) else (none))))) = some r := by first | (rw [hy124]; with_reducible exact H) | (have H2_ := (Option.bind_some _ _).symm.trans H; rw [hy124]; with_reducible exact H2_) | (have H2_ := (Option.bind_some _ _).symm.trans H; with_reducible exact H2_) | with_reducible exact H | (rw [hy124]; exact H) | exact H
  have Ny124 := Aside0.mk hy124
  clear hy124
  obtain ⟨y127, hy127⟩ : ∃ y_ : List Int, y_ = (([4] : List Int)) := ⟨_, rfl⟩
  replace H : ((some (([(⟨0, 0, (-1), y124, (-1), (-1), ([] : List (S50))⟩ : S35), (⟨1, 0, 0, y127, (-1), 2, ([] : List (S50))⟩ : S35), (⟨3, 0, (-1), (([3] : List Int)), 1, (-1), ([] : List (S50))⟩ : S35), (⟨1, 0, 2, ([] : List Int), (-1), (-1), ([] : List (S50))⟩ : S35), (⟨1, 0, 1, ([] : List Int), (-1), (-1), ([] : List (S50))⟩ : S35), (⟨1, 0, (-1), ([] : List Int), (-1), (-1), ([] : List (S50))⟩ : S35)] : List (S35)) : List (S35))).bind fun y133 => ((shade_Up.f y133 3).bind fun t136 => ((limelightref01_Ints.f t136 (([3, 2, 1, 0] : List Int))).bind fun t142 => (if t142 = true then ((shade_List.f k y133 0).bind fun t143 => ((limelightref01_Ints.f t143 (([0, 1, 2, 3, 4] : List Int))).bind fun t149 => (if t149 = true then ((shade_Connected.f k y133 3).bind fun t150 => (if t150 = true then ((shade_Connected.f k y133 5).bind fun t151 => (if t151 = true then (none) else ((shade_Retarget.f y133 3 0).bind fun t152 => (if t152 = 1 then ((shade_Retarget.f y133 3 3).bind fun t153 => (if t153 = 3 then ((shade_Retarget.f y133 4 3).bind fun t154 => (if t154 = 4 then ((shade_Host.f y133 3).bind fun t155 => (if t155 = 1 then ((shade_Host.f y133 4).bind fun t156 => (if t156 = (-1) then ((shade_Above.f k y133 1 3).bind fun t157 => (if t157 = true then ((shade_Up.f ([] : List (S35)) 0).bind fun t158 => (if (t158.length : Int) = 0 then ((shade_Retarget.f y133 3 9).bind fun t161 => (some (t161 == (-1)))) else (none))) else (none))) else (none))) else (none))) else (none))) else (none))) else (none))))) else (none))) else (none)))) else (none))))) = some r := by first | (rw [hy127]; with_reducible exact H) | (have H2_ := (Option.bind_some _ _).symm.trans H; rw [hy127]; with_reducible exact H2_) | (have H2_ := (Option.bind_some _ _).symm.trans H; with_reducible exact H2_) | with_reducible exact H | (rw [hy127]; exact H) | exact H
  have Ny127 := Aside0.mk hy127
  clear hy127
  obtain ⟨y130, hy130⟩ : ∃ y_ : List Int, y_ = (([3] : List Int)) := ⟨_, rfl⟩
  replace H : ((some (([(⟨0, 0, (-1), y124, (-1), (-1), ([] : List (S50))⟩ : S35), (⟨1, 0, 0, y127, (-1), 2, ([] : List (S50))⟩ : S35), (⟨3, 0, (-1), y130, 1, (-1), ([] : List (S50))⟩ : S35), (⟨1, 0, 2, ([] : List Int), (-1), (-1), ([] : List (S50))⟩ : S35), (⟨1, 0, 1, ([] : List Int), (-1), (-1), ([] : List (S50))⟩ : S35), (⟨1, 0, (-1), ([] : List Int), (-1), (-1), ([] : List (S50))⟩ : S35)] : List (S35)) : List (S35))).bind fun y133 => ((shade_Up.f y133 3).bind fun t136 => ((limelightref01_Ints.f t136 (([3, 2, 1, 0] : List Int))).bind fun t142 => (if t142 = true then ((shade_List.f k y133 0).bind fun t143 => ((limelightref01_Ints.f t143 (([0, 1, 2, 3, 4] : List Int))).bind fun t149 => (if t149 = true then ((shade_Connected.f k y133 3).bind fun t150 => (if t150 = true then ((shade_Connected.f k y133 5).bind fun t151 => (if t151 = true then (none) else ((shade_Retarget.f y133 3 0).bind fun t152 => (if t152 = 1 then ((shade_Retarget.f y133 3 3).bind fun t153 => (if t153 = 3 then ((shade_Retarget.f y133 4 3).bind fun t154 => (if t154 = 4 then ((shade_Host.f y133 3).bind fun t155 => (if t155 = 1 then ((shade_Host.f y133 4).bind fun t156 => (if t156 = (-1) then ((shade_Above.f k y133 1 3).bind fun t157 => (if t157 = true then ((shade_Up.f ([] : List (S35)) 0).bind fun t158 => (if (t158.length : Int) = 0 then ((shade_Retarget.f y133 3 9).bind fun t161 => (some (t161 == (-1)))) else (none))) else (none))) else (none))) else (none))) else (none))) else (none))) else (none))))) else (none))) else (none)))) else (none))))) = some r := by first | (rw [hy130]; with_reducible exact H) | (have H2_ := (Option.bind_some _ _).symm.trans H; rw [hy130]; with_reducible exact H2_) | (have H2_ := (Option.bind_some _ _).symm.trans H; with_reducible exact H2_) | with_reducible exact H | (rw [hy130]; exact H) | exact H
  have Ny130 := Aside0.mk hy130
  clear hy130
  obtain ⟨y133, hy133⟩ : ∃ y_ : List (S35), y_ = (([(⟨0, 0, (-1), y124, (-1), (-1), ([] : List (S50))⟩ : S35), (⟨1, 0, 0, y127, (-1), 2, ([] : List (S50))⟩ : S35), (⟨3, 0, (-1), y130, 1, (-1), ([] : List (S50))⟩ : S35), (⟨1, 0, 2, ([] : List Int), (-1), (-1), ([] : List (S50))⟩ : S35), (⟨1, 0, 1, ([] : List Int), (-1), (-1), ([] : List (S50))⟩ : S35), (⟨1, 0, (-1), ([] : List Int), (-1), (-1), ([] : List (S50))⟩ : S35)] : List (S35))) := ⟨_, rfl⟩
  replace H : ((shade_Up.f y133 3).bind fun t136 => ((limelightref01_Ints.f t136 (([3, 2, 1, 0] : List Int))).bind fun t142 => (if t142 = true then ((shade_List.f k y133 0).bind fun t143 => ((limelightref01_Ints.f t143 (([0, 1, 2, 3, 4] : List Int))).bind fun t149 => (if t149 = true then ((shade_Connected.f k y133 3).bind fun t150 => (if t150 = true then ((shade_Connected.f k y133 5).bind fun t151 => (if t151 = true then (none) else ((shade_Retarget.f y133 3 0).bind fun t152 => (if t152 = 1 then ((shade_Retarget.f y133 3 3).bind fun t153 => (if t153 = 3 then ((shade_Retarget.f y133 4 3).bind fun t154 => (if t154 = 4 then ((shade_Host.f y133 3).bind fun t155 => (if t155 = 1 then ((shade_Host.f y133 4).bind fun t156 => (if t156 = (-1) then ((shade_Above.f k y133 1 3).bind fun t157 => (if t157 = true then ((shade_Up.f ([] : List (S35)) 0).bind fun t158 => (if (t158.length : Int) = 0 then ((shade_Retarget.f y133 3 9).bind fun t161 => (some (t161 == (-1)))) else (none))) else (none))) else (none))) else (none))) else (none))) else (none))) else (none))))) else (none))) else (none)))) else (none)))) = some r := by first | (rw [hy133]; with_reducible exact H) | (have H2_ := (Option.bind_some _ _).symm.trans H; rw [hy133]; with_reducible exact H2_) | (have H2_ := (Option.bind_some _ _).symm.trans H; with_reducible exact H2_) | with_reducible exact H | (rw [hy133]; exact H) | exact H
  have Ny133 := Aside0.mk hy133
  clear hy133
  replace H := Option.bind_eq_some_iff.mp H
  obtain ⟨t136, A10, H⟩ := H
  replace H : ((limelightref01_Ints.f t136 (([3, 2, 1, 0] : List Int))).bind fun t142 => (if t142 = true then ((shade_List.f k y133 0).bind fun t143 => ((limelightref01_Ints.f t143 (([0, 1, 2, 3, 4] : List Int))).bind fun t149 => (if t149 = true then ((shade_Connected.f k y133 3).bind fun t150 => (if t150 = true then ((shade_Connected.f k y133 5).bind fun t151 => (if t151 = true then (none) else ((shade_Retarget.f y133 3 0).bind fun t152 => (if t152 = 1 then ((shade_Retarget.f y133 3 3).bind fun t153 => (if t153 = 3 then ((shade_Retarget.f y133 4 3).bind fun t154 => (if t154 = 4 then ((shade_Host.f y133 3).bind fun t155 => (if t155 = 1 then ((shade_Host.f y133 4).bind fun t156 => (if t156 = (-1) then ((shade_Above.f k y133 1 3).bind fun t157 => (if t157 = true then ((shade_Up.f ([] : List (S35)) 0).bind fun t158 => (if (t158.length : Int) = 0 then ((shade_Retarget.f y133 3 9).bind fun t161 => (some (t161 == (-1)))) else (none))) else (none))) else (none))) else (none))) else (none))) else (none))) else (none))))) else (none))) else (none)))) else (none))) = some r := H
  have A1 := Aside0.mk A10
  clear A10
  obtain ⟨y139, hy139⟩ : ∃ y_ : List Int, y_ = (([3, 2, 1, 0] : List Int)) := ⟨_, rfl⟩
  replace H : ((limelightref01_Ints.f t136 y139).bind fun t142 => (if t142 = true then ((shade_List.f k y133 0).bind fun t143 => ((limelightref01_Ints.f t143 (([0, 1, 2, 3, 4] : List Int))).bind fun t149 => (if t149 = true then ((shade_Connected.f k y133 3).bind fun t150 => (if t150 = true then ((shade_Connected.f k y133 5).bind fun t151 => (if t151 = true then (none) else ((shade_Retarget.f y133 3 0).bind fun t152 => (if t152 = 1 then ((shade_Retarget.f y133 3 3).bind fun t153 => (if t153 = 3 then ((shade_Retarget.f y133 4 3).bind fun t154 => (if t154 = 4 then ((shade_Host.f y133 3).bind fun t155 => (if t155 = 1 then ((shade_Host.f y133 4).bind fun t156 => (if t156 = (-1) then ((shade_Above.f k y133 1 3).bind fun t157 => (if t157 = true then ((shade_Up.f ([] : List (S35)) 0).bind fun t158 => (if (t158.length : Int) = 0 then ((shade_Retarget.f y133 3 9).bind fun t161 => (some (t161 == (-1)))) else (none))) else (none))) else (none))) else (none))) else (none))) else (none))) else (none))))) else (none))) else (none)))) else (none))) = some r := by first | (rw [hy139]; with_reducible exact H) | (have H2_ := (Option.bind_some _ _).symm.trans H; rw [hy139]; with_reducible exact H2_) | (have H2_ := (Option.bind_some _ _).symm.trans H; with_reducible exact H2_) | with_reducible exact H | (rw [hy139]; exact H) | exact H
  have Ny139 := Aside0.mk hy139
  clear hy139
  replace H := Option.bind_eq_some_iff.mp H
  obtain ⟨t142, A20, H⟩ := H
  replace H : (if t142 = true then ((shade_List.f k y133 0).bind fun t143 => ((limelightref01_Ints.f t143 (([0, 1, 2, 3, 4] : List Int))).bind fun t149 => (if t149 = true then ((shade_Connected.f k y133 3).bind fun t150 => (if t150 = true then ((shade_Connected.f k y133 5).bind fun t151 => (if t151 = true then (none) else ((shade_Retarget.f y133 3 0).bind fun t152 => (if t152 = 1 then ((shade_Retarget.f y133 3 3).bind fun t153 => (if t153 = 3 then ((shade_Retarget.f y133 4 3).bind fun t154 => (if t154 = 4 then ((shade_Host.f y133 3).bind fun t155 => (if t155 = 1 then ((shade_Host.f y133 4).bind fun t156 => (if t156 = (-1) then ((shade_Above.f k y133 1 3).bind fun t157 => (if t157 = true then ((shade_Up.f ([] : List (S35)) 0).bind fun t158 => (if (t158.length : Int) = 0 then ((shade_Retarget.f y133 3 9).bind fun t161 => (some (t161 == (-1)))) else (none))) else (none))) else (none))) else (none))) else (none))) else (none))) else (none))))) else (none))) else (none)))) else (none)) = some r := H
  have A2 := Aside0.mk A20
  clear A20
  by_cases c3 : t142 = true
  · subst c3
    have H1 : ((shade_List.f k y133 0).bind fun t143 => ((limelightref01_Ints.f t143 (([0, 1, 2, 3, 4] : List Int))).bind fun t149 => (if t149 = true then ((shade_Connected.f k y133 3).bind fun t150 => (if t150 = true then ((shade_Connected.f k y133 5).bind fun t151 => (if t151 = true then (none) else ((shade_Retarget.f y133 3 0).bind fun t152 => (if t152 = 1 then ((shade_Retarget.f y133 3 3).bind fun t153 => (if t153 = 3 then ((shade_Retarget.f y133 4 3).bind fun t154 => (if t154 = 4 then ((shade_Host.f y133 3).bind fun t155 => (if t155 = 1 then ((shade_Host.f y133 4).bind fun t156 => (if t156 = (-1) then ((shade_Above.f k y133 1 3).bind fun t157 => (if t157 = true then ((shade_Up.f ([] : List (S35)) 0).bind fun t158 => (if (t158.length : Int) = 0 then ((shade_Retarget.f y133 3 9).bind fun t161 => (some (t161 == (-1)))) else (none))) else (none))) else (none))) else (none))) else (none))) else (none))) else (none))))) else (none))) else (none)))) = some r := by rw [if_pos rfl] at H; exact H
    clear H
    have H := H1
    clear H1
    replace H := Option.bind_eq_some_iff.mp H
    obtain ⟨t143, A40, H⟩ := H
    replace H : ((limelightref01_Ints.f t143 (([0, 1, 2, 3, 4] : List Int))).bind fun t149 => (if t149 = true then ((shade_Connected.f k y133 3).bind fun t150 => (if t150 = true then ((shade_Connected.f k y133 5).bind fun t151 => (if t151 = true then (none) else ((shade_Retarget.f y133 3 0).bind fun t152 => (if t152 = 1 then ((shade_Retarget.f y133 3 3).bind fun t153 => (if t153 = 3 then ((shade_Retarget.f y133 4 3).bind fun t154 => (if t154 = 4 then ((shade_Host.f y133 3).bind fun t155 => (if t155 = 1 then ((shade_Host.f y133 4).bind fun t156 => (if t156 = (-1) then ((shade_Above.f k y133 1 3).bind fun t157 => (if t157 = true then ((shade_Up.f ([] : List (S35)) 0).bind fun t158 => (if (t158.length : Int) = 0 then ((shade_Retarget.f y133 3 9).bind fun t161 => (some (t161 == (-1)))) else (none))) else (none))) else (none))) else (none))) else (none))) else (none))) else (none))))) else (none))) else (none))) = some r := H
    have A4 := Aside0.mk A40
    clear A40
    obtain ⟨y146, hy146⟩ : ∃ y_ : List Int, y_ = (([0, 1, 2, 3, 4] : List Int)) := ⟨_, rfl⟩
    replace H : ((limelightref01_Ints.f t143 y146).bind fun t149 => (if t149 = true then ((shade_Connected.f k y133 3).bind fun t150 => (if t150 = true then ((shade_Connected.f k y133 5).bind fun t151 => (if t151 = true then (none) else ((shade_Retarget.f y133 3 0).bind fun t152 => (if t152 = 1 then ((shade_Retarget.f y133 3 3).bind fun t153 => (if t153 = 3 then ((shade_Retarget.f y133 4 3).bind fun t154 => (if t154 = 4 then ((shade_Host.f y133 3).bind fun t155 => (if t155 = 1 then ((shade_Host.f y133 4).bind fun t156 => (if t156 = (-1) then ((shade_Above.f k y133 1 3).bind fun t157 => (if t157 = true then ((shade_Up.f ([] : List (S35)) 0).bind fun t158 => (if (t158.length : Int) = 0 then ((shade_Retarget.f y133 3 9).bind fun t161 => (some (t161 == (-1)))) else (none))) else (none))) else (none))) else (none))) else (none))) else (none))) else (none))))) else (none))) else (none))) = some r := by first | (rw [hy146]; with_reducible exact H) | (have H2_ := (Option.bind_some _ _).symm.trans H; rw [hy146]; with_reducible exact H2_) | (have H2_ := (Option.bind_some _ _).symm.trans H; with_reducible exact H2_) | with_reducible exact H | (rw [hy146]; exact H) | exact H
    have Ny146 := Aside0.mk hy146
    clear hy146
    replace H := Option.bind_eq_some_iff.mp H
    obtain ⟨t149, A50, H⟩ := H
    replace H : (if t149 = true then ((shade_Connected.f k y133 3).bind fun t150 => (if t150 = true then ((shade_Connected.f k y133 5).bind fun t151 => (if t151 = true then (none) else ((shade_Retarget.f y133 3 0).bind fun t152 => (if t152 = 1 then ((shade_Retarget.f y133 3 3).bind fun t153 => (if t153 = 3 then ((shade_Retarget.f y133 4 3).bind fun t154 => (if t154 = 4 then ((shade_Host.f y133 3).bind fun t155 => (if t155 = 1 then ((shade_Host.f y133 4).bind fun t156 => (if t156 = (-1) then ((shade_Above.f k y133 1 3).bind fun t157 => (if t157 = true then ((shade_Up.f ([] : List (S35)) 0).bind fun t158 => (if (t158.length : Int) = 0 then ((shade_Retarget.f y133 3 9).bind fun t161 => (some (t161 == (-1)))) else (none))) else (none))) else (none))) else (none))) else (none))) else (none))) else (none))))) else (none))) else (none)) = some r := H
    have A5 := Aside0.mk A50
    clear A50
    by_cases c6 : t149 = true
    · subst c6
      have H1 : ((shade_Connected.f k y133 3).bind fun t150 => (if t150 = true then ((shade_Connected.f k y133 5).bind fun t151 => (if t151 = true then (none) else ((shade_Retarget.f y133 3 0).bind fun t152 => (if t152 = 1 then ((shade_Retarget.f y133 3 3).bind fun t153 => (if t153 = 3 then ((shade_Retarget.f y133 4 3).bind fun t154 => (if t154 = 4 then ((shade_Host.f y133 3).bind fun t155 => (if t155 = 1 then ((shade_Host.f y133 4).bind fun t156 => (if t156 = (-1) then ((shade_Above.f k y133 1 3).bind fun t157 => (if t157 = true then ((shade_Up.f ([] : List (S35)) 0).bind fun t158 => (if (t158.length : Int) = 0 then ((shade_Retarget.f y133 3 9).bind fun t161 => (some (t161 == (-1)))) else (none))) else (none))) else (none))) else (none))) else (none))) else (none))) else (none))))) else (none))) = some r := by rw [if_pos rfl] at H; exact H
      clear H
      have H := H1
      clear H1
      replace H := Option.bind_eq_some_iff.mp H
      obtain ⟨t150, A70, H⟩ := H
      replace H : (if t150 = true then ((shade_Connected.f k y133 5).bind fun t151 => (if t151 = true then (none) else ((shade_Retarget.f y133 3 0).bind fun t152 => (if t152 = 1 then ((shade_Retarget.f y133 3 3).bind fun t153 => (if t153 = 3 then ((shade_Retarget.f y133 4 3).bind fun t154 => (if t154 = 4 then ((shade_Host.f y133 3).bind fun t155 => (if t155 = 1 then ((shade_Host.f y133 4).bind fun t156 => (if t156 = (-1) then ((shade_Above.f k y133 1 3).bind fun t157 => (if t157 = true then ((shade_Up.f ([] : List (S35)) 0).bind fun t158 => (if (t158.length : Int) = 0 then ((shade_Retarget.f y133 3 9).bind fun t161 => (some (t161 == (-1)))) else (none))) else (none))) else (none))) else (none))) else (none))) else (none))) else (none))))) else (none)) = some r := H
      have A7 := Aside0.mk A70
      clear A70
      by_cases c8 : t150 = true
      · subst c8
        have H1 : ((shade_Connected.f k y133 5).bind fun t151 => (if t151 = true then (none) else ((shade_Retarget.f y133 3 0).bind fun t152 => (if t152 = 1 then ((shade_Retarget.f y133 3 3).bind fun t153 => (if t153 = 3 then ((shade_Retarget.f y133 4 3).bind fun t154 => (if t154 = 4 then ((shade_Host.f y133 3).bind fun t155 => (if t155 = 1 then ((shade_Host.f y133 4).bind fun t156 => (if t156 = (-1) then ((shade_Above.f k y133 1 3).bind fun t157 => (if t157 = true then ((shade_Up.f ([] : List (S35)) 0).bind fun t158 => (if (t158.length : Int) = 0 then ((shade_Retarget.f y133 3 9).bind fun t161 => (some (t161 == (-1)))) else (none))) else (none))) else (none))) else (none))) else (none))) else (none))) else (none))))) = some r := by rw [if_pos rfl] at H; exact H
        clear H
        have H := H1
        clear H1
        replace H := Option.bind_eq_some_iff.mp H
        obtain ⟨t151, A90, H⟩ := H
        replace H : (if t151 = true then (none) else ((shade_Retarget.f y133 3 0).bind fun t152 => (if t152 = 1 then ((shade_Retarget.f y133 3 3).bind fun t153 => (if t153 = 3 then ((shade_Retarget.f y133 4 3).bind fun t154 => (if t154 = 4 then ((shade_Host.f y133 3).bind fun t155 => (if t155 = 1 then ((shade_Host.f y133 4).bind fun t156 => (if t156 = (-1) then ((shade_Above.f k y133 1 3).bind fun t157 => (if t157 = true then ((shade_Up.f ([] : List (S35)) 0).bind fun t158 => (if (t158.length : Int) = 0 then ((shade_Retarget.f y133 3 9).bind fun t161 => (some (t161 == (-1)))) else (none))) else (none))) else (none))) else (none))) else (none))) else (none))) else (none)))) = some r := H
        have A9 := Aside0.mk A90
        clear A90
        by_cases c10 : t151 = true
        · subst c10
          have H1 : (none) = some r := by rw [if_pos rfl] at H; exact H
          clear H
          have H := H1
          clear H1
          exact absurd H (by simp)
        · replace c10 := Bool.eq_false_iff.mpr c10
          subst c10
          have H1 : ((shade_Retarget.f y133 3 0).bind fun t152 => (if t152 = 1 then ((shade_Retarget.f y133 3 3).bind fun t153 => (if t153 = 3 then ((shade_Retarget.f y133 4 3).bind fun t154 => (if t154 = 4 then ((shade_Host.f y133 3).bind fun t155 => (if t155 = 1 then ((shade_Host.f y133 4).bind fun t156 => (if t156 = (-1) then ((shade_Above.f k y133 1 3).bind fun t157 => (if t157 = true then ((shade_Up.f ([] : List (S35)) 0).bind fun t158 => (if (t158.length : Int) = 0 then ((shade_Retarget.f y133 3 9).bind fun t161 => (some (t161 == (-1)))) else (none))) else (none))) else (none))) else (none))) else (none))) else (none))) else (none))) = some r := by rw [if_neg (show ¬ (false = true) by decide)] at H; exact H
          clear H
          have H := H1
          clear H1
          replace H := Option.bind_eq_some_iff.mp H
          obtain ⟨t152, A110, H⟩ := H
          replace H : (if t152 = 1 then ((shade_Retarget.f y133 3 3).bind fun t153 => (if t153 = 3 then ((shade_Retarget.f y133 4 3).bind fun t154 => (if t154 = 4 then ((shade_Host.f y133 3).bind fun t155 => (if t155 = 1 then ((shade_Host.f y133 4).bind fun t156 => (if t156 = (-1) then ((shade_Above.f k y133 1 3).bind fun t157 => (if t157 = true then ((shade_Up.f ([] : List (S35)) 0).bind fun t158 => (if (t158.length : Int) = 0 then ((shade_Retarget.f y133 3 9).bind fun t161 => (some (t161 == (-1)))) else (none))) else (none))) else (none))) else (none))) else (none))) else (none))) else (none)) = some r := H
          have A11 := Aside0.mk A110
          clear A110
          by_cases c12 : t152 = 1
          · rw [if_pos c12] at H
            have c12b0 : (t152 == 1) = true := beq_iff_eq.mpr c12
            have c12b1 : (t152 != 1) = false := bne_eq_false_iff_eq.mpr c12
            clear c12
            replace H := Option.bind_eq_some_iff.mp H
            obtain ⟨t153, A130, H⟩ := H
            replace H : (if t153 = 3 then ((shade_Retarget.f y133 4 3).bind fun t154 => (if t154 = 4 then ((shade_Host.f y133 3).bind fun t155 => (if t155 = 1 then ((shade_Host.f y133 4).bind fun t156 => (if t156 = (-1) then ((shade_Above.f k y133 1 3).bind fun t157 => (if t157 = true then ((shade_Up.f ([] : List (S35)) 0).bind fun t158 => (if (t158.length : Int) = 0 then ((shade_Retarget.f y133 3 9).bind fun t161 => (some (t161 == (-1)))) else (none))) else (none))) else (none))) else (none))) else (none))) else (none)) = some r := H
            have A13 := Aside0.mk A130
            clear A130
            by_cases c14 : t153 = 3
            · rw [if_pos c14] at H
              have c14b0 : (t153 == 3) = true := beq_iff_eq.mpr c14
              have c14b1 : (t153 != 3) = false := bne_eq_false_iff_eq.mpr c14
              clear c14
              replace H := Option.bind_eq_some_iff.mp H
              obtain ⟨t154, A150, H⟩ := H
              replace H : (if t154 = 4 then ((shade_Host.f y133 3).bind fun t155 => (if t155 = 1 then ((shade_Host.f y133 4).bind fun t156 => (if t156 = (-1) then ((shade_Above.f k y133 1 3).bind fun t157 => (if t157 = true then ((shade_Up.f ([] : List (S35)) 0).bind fun t158 => (if (t158.length : Int) = 0 then ((shade_Retarget.f y133 3 9).bind fun t161 => (some (t161 == (-1)))) else (none))) else (none))) else (none))) else (none))) else (none)) = some r := H
              have A15 := Aside0.mk A150
              clear A150
              by_cases c16 : t154 = 4
              · rw [if_pos c16] at H
                have c16b0 : (t154 == 4) = true := beq_iff_eq.mpr c16
                have c16b1 : (t154 != 4) = false := bne_eq_false_iff_eq.mpr c16
                clear c16
                replace H := Option.bind_eq_some_iff.mp H
                obtain ⟨t155, A170, H⟩ := H
                replace H : (if t155 = 1 then ((shade_Host.f y133 4).bind fun t156 => (if t156 = (-1) then ((shade_Above.f k y133 1 3).bind fun t157 => (if t157 = true then ((shade_Up.f ([] : List (S35)) 0).bind fun t158 => (if (t158.length : Int) = 0 then ((shade_Retarget.f y133 3 9).bind fun t161 => (some (t161 == (-1)))) else (none))) else (none))) else (none))) else (none)) = some r := H
                have A17 := Aside0.mk A170
                clear A170
                by_cases c18 : t155 = 1
                · rw [if_pos c18] at H
                  have c18b0 : (t155 == 1) = true := beq_iff_eq.mpr c18
                  have c18b1 : (t155 != 1) = false := bne_eq_false_iff_eq.mpr c18
                  clear c18
                  replace H := Option.bind_eq_some_iff.mp H
                  obtain ⟨t156, A190, H⟩ := H
                  replace H : (if t156 = (-1) then ((shade_Above.f k y133 1 3).bind fun t157 => (if t157 = true then ((shade_Up.f ([] : List (S35)) 0).bind fun t158 => (if (t158.length : Int) = 0 then ((shade_Retarget.f y133 3 9).bind fun t161 => (some (t161 == (-1)))) else (none))) else (none))) else (none)) = some r := H
                  have A19 := Aside0.mk A190
                  clear A190
                  by_cases c20 : t156 = (-1)
                  · rw [if_pos c20] at H
                    have c20b0 : (t156 == (-1)) = true := beq_iff_eq.mpr c20
                    have c20b1 : (t156 != (-1)) = false := bne_eq_false_iff_eq.mpr c20
                    clear c20
                    replace H := Option.bind_eq_some_iff.mp H
                    obtain ⟨t157, A210, H⟩ := H
                    replace H : (if t157 = true then ((shade_Up.f ([] : List (S35)) 0).bind fun t158 => (if (t158.length : Int) = 0 then ((shade_Retarget.f y133 3 9).bind fun t161 => (some (t161 == (-1)))) else (none))) else (none)) = some r := H
                    have A21 := Aside0.mk A210
                    clear A210
                    by_cases c22 : t157 = true
                    · subst c22
                      have H1 : ((shade_Up.f ([] : List (S35)) 0).bind fun t158 => (if (t158.length : Int) = 0 then ((shade_Retarget.f y133 3 9).bind fun t161 => (some (t161 == (-1)))) else (none))) = some r := by rw [if_pos rfl] at H; exact H
                      clear H
                      have H := H1
                      clear H1
                      replace H := Option.bind_eq_some_iff.mp H
                      obtain ⟨t158, A230, H⟩ := H
                      replace H : (if (t158.length : Int) = 0 then ((shade_Retarget.f y133 3 9).bind fun t161 => (some (t161 == (-1)))) else (none)) = some r := H
                      have A23 := Aside0.mk A230
                      clear A230
                      by_cases c24 : (t158.length : Int) = 0
                      · rw [if_pos c24] at H
                        have c24b0 : ((t158.length : Int) == 0) = true := beq_iff_eq.mpr c24
                        have c24b1 : ((t158.length : Int) != 0) = false := bne_eq_false_iff_eq.mpr c24
                        clear c24
                        replace H := Option.bind_eq_some_iff.mp H
                        obtain ⟨t161, A250, H⟩ := H
                        replace H : (some (t161 == (-1))) = some r := H
                        have A25 := Aside0.mk A250
                        clear A250
                        obtain rfl := Option.some.inj H
                        go_enter Try.func9, Try.ntmps9
                        go_wp2_with (first | ((with_reducible refine gate_dst (N := 2) rfl ?_); (try (refine gate_guard (by rfl) ?_; dsimp only)); refine Kd.R_lit (Kd.int .i64) _ 3 ?hg (N := 2) ?hd (xs := ([1] : List Int)) (inner := [.int .i64 1]) (ok := fun _ => True) (okp := fun _ => True) ?hr ?hp (fun _ hk => hk) trivial (Below.refl _ _) (Nat.le_refl _) (by simp) ?_; (case hd => rfl); (case hg => rfl); (case hr => first | (go_simp; done) | (go_simp; rfl)); (case hp => exact (Reps.one (show Kd.M (Kd.int .i64) _ _ _ 1 [.int .i64 1] from rfl) (Reps.none _ _))); intro v125 w26 ho27 hb hg_ hnew_; clear hg_ hnew_; (first | rw [← Ny124.out] at ho27 | (simp only [Int.reduceToNat] at ho27; rw [← Ny124.out] at ho27)); have n0_ := Aside0.mk (Kd.R_lower ho27 (below_size (by repeat (first | (with_reducible first | exact HB.out | apply below_alloc | apply pw_below_drewN | apply below_drew1) | exact HB.out)))); have n1_ := Aside0.mk (below_step (by repeat (first | (with_reducible first | exact HB.out | apply below_alloc | apply pw_below_drewN | apply below_drew1) | exact HB.out)) hb); clear HB; have HO126 := n0_; have HB := n1_; clear n0_ n1_; clear hb ho27; obtain ⟨Ao28, co28, eo28⟩ := Kd.R_slice HO126.out; subst eo28) | ((with_reducible refine gate_dst (N := 4) rfl ?_); (try (refine gate_guard (by rfl) ?_; dsimp only)); refine Kd.R_lit (Kd.int .i64) _ 3 ?hg (N := 4) ?hd (xs := ([4] : List Int)) (inner := [.int .i64 4]) (ok := fun _ => True) (okp := fun _ => True) ?hr ?hp (fun _ hk => hk) trivial (Below.refl _ _) (Nat.le_refl _) (by simp) ?_; (case hd => rfl); (case hg => rfl); (case hr => first | (go_simp; done) | (go_simp; rfl)); (case hp => exact (Reps.one (show Kd.M (Kd.int .i64) _ _ _ 4 [.int .i64 4] from rfl) (Reps.none _ _))); intro v128 w29 ho30 hb hg_ hnew_; clear hg_ hnew_; (first | rw [← Ny127.out] at ho30 | (simp only [Int.reduceToNat] at ho30; rw [← Ny127.out] at ho30)); have n0_ := Aside0.mk (Kd.R_elder' (by (with_reducible repeat (first | apply Kd.R_alloc | apply Kd.R_drewN | apply Kd.R_drew)); exact HO126.out) (Kd.R_base ho30) hb); have n1_ := Aside0.mk (Kd.R_lower (Kd.R_new' ho30 (Kd.R_lt (by (with_reducible repeat (first | apply Kd.R_alloc | apply Kd.R_drewN | apply Kd.R_drew)); exact HO126.out))) (below_size (by repeat (first | (with_reducible first | exact HB.out | apply below_alloc | apply pw_below_drewN | apply below_drew1) | exact HB.out)))); have n2_ := Aside0.mk (below_step (by repeat (first | (with_reducible first | exact HB.out | apply below_alloc | apply pw_below_drewN | apply below_drew1) | exact HB.out)) hb); clear HO126; clear HB; have HO126 := n0_; have HO129 := n1_; have HB := n2_; clear n0_ n1_ n2_; clear hb ho30; obtain ⟨Ao31, co31, eo31⟩ := Kd.R_slice HO129.out; subst eo31) | ((with_reducible refine gate_dst (N := 6) rfl ?_); (try (refine gate_guard (by rfl) ?_; dsimp only)); refine Kd.R_lit (Kd.int .i64) _ 3 ?hg (N := 6) ?hd (xs := ([3] : List Int)) (inner := [.int .i64 3]) (ok := fun _ => True) (okp := fun _ => True) ?hr ?hp (fun _ hk => hk) trivial (Below.refl _ _) (Nat.le_refl _) (by simp) ?_; (case hd => rfl); (case hg => rfl); (case hr => first | (go_simp; done) | (go_simp; rfl)); (case hp => exact (Reps.one (show Kd.M (Kd.int .i64) _ _ _ 3 [.int .i64 3] from rfl) (Reps.none _ _))); intro v131 w32 ho33 hb hg_ hnew_; clear hg_ hnew_; (first | rw [← Ny130.out] at ho33 | (simp only [Int.reduceToNat] at ho33; rw [← Ny130.out] at ho33)); have n0_ := Aside0.mk (Kd.R_elder' (by (with_reducible repeat (first | apply Kd.R_alloc | apply Kd.R_drewN | apply Kd.R_drew)); exact HO126.out) (Kd.R_base ho33) hb); have n1_ := Aside0.mk (Kd.R_elder' (by (with_reducible repeat (first | apply Kd.R_alloc | apply Kd.R_drewN | apply Kd.R_drew)); exact HO129.out) (Kd.R_base ho33) hb); have n2_ := Aside0.mk (Kd.R_lower (Kd.R_new' (Kd.R_new' ho33 (Kd.R_lt (by (with_reducible repeat (first | apply Kd.R_alloc | apply Kd.R_drewN | apply Kd.R_drew)); exact HO126.out))) (Kd.R_lt (by (with_reducible repeat (first | apply Kd.R_alloc | apply Kd.R_drewN | apply Kd.R_drew)); exact HO129.out))) (below_size (by repeat (first | (with_reducible first | exact HB.out | apply below_alloc | apply pw_below_drewN | apply below_drew1) | exact HB.out)))); have n3_ := Aside0.mk (below_step (by repeat (first | (with_reducible first | exact HB.out | apply below_alloc | apply pw_below_drewN | apply below_drew1) | exact HB.out)) hb); clear HO126; clear HO129; clear HB; have HO126 := n0_; have HO129 := n1_; have HO132 := n2_; have HB := n3_; clear n0_ n1_ n2_ n3_; clear hb ho33; obtain ⟨Ao34, co34, eo34⟩ := Kd.R_slice HO132.out; subst eo34) | ((with_reducible refine gate_dst (N := 11) rfl ?_); (try (refine gate_guard (by rfl) ?_; dsimp only)); refine Kd.N_lit k35 _ 35 ?hg (N' := 11) ?hd (xs := ([(⟨0, 0, (-1), y124, (-1), (-1), ([] : List (S50))⟩ : S35), (⟨1, 0, 0, y127, (-1), 2, ([] : List (S50))⟩ : S35), (⟨3, 0, (-1), y130, 1, (-1), ([] : List (S50))⟩ : S35), (⟨1, 0, 2, ([] : List Int), (-1), (-1), ([] : List (S50))⟩ : S35), (⟨1, 0, 1, ([] : List Int), (-1), (-1), ([] : List (S50))⟩ : S35), (⟨1, 0, (-1), ([] : List Int), (-1), (-1), ([] : List (S50))⟩ : S35)] : List (S35))) (inner := [.int .i64 0, .int .i64 0, .int .i64 (-1), .slice Ao28 y124.length co28, .int .i64 (-1), .int .i64 (-1), .slice none 0 0, .int .i64 1, .int .i64 0, .int .i64 0, .slice Ao31 y127.length co31, .int .i64 (-1), .int .i64 2, .slice none 0 0, .int .i64 3, .int .i64 0, .int .i64 (-1), .slice Ao34 y130.length co34, .int .i64 1, .int .i64 (-1), .slice none 0 0, .int .i64 1, .int .i64 0, .int .i64 2, .slice none 0 0, .int .i64 (-1), .int .i64 (-1), .slice none 0 0, .int .i64 1, .int .i64 0, .int .i64 1, .slice none 0 0, .int .i64 (-1), .int .i64 (-1), .slice none 0 0, .int .i64 1, .int .i64 0, .int .i64 (-1), .slice none 0 0, .int .i64 (-1), .int .i64 (-1), .slice none 0 0]) (ok := (fun _ => True)) (okp := (fun _ => True)) ?hr ?hp (fun _ hk => hk) ((show ∀ k_, w32.heap.size ≤ k_ → (fun _ => True) k_ from fun k_ hk => trivial) _ (Nat.le_refl _)) (Below.refl _ _) (Nat.le_refl _) (by simp) ?_; (case hd => rfl); (case hg => rfl); (case hr => first | (go_simp; done) | (go_simp; rfl)); (case hp => exact (Reps.c7 (show Kd.FK k35 _ _ (⟨0, 0, (-1), y124, (-1), (-1), ([] : List (S50))⟩ : S35) [.int .i64 0, .int .i64 0, .int .i64 (-1), .slice Ao28 y124.length co28, .int .i64 (-1), .int .i64 (-1), .slice none 0 0] from (k35_mkF _ _ (⟨0, 0, (-1), y124, (-1), (-1), ([] : List (S50))⟩ : S35) (Kd.R_reads' (Kd.R_mono (ok' := (fun _ => True)) (HO126.out) (fun k_ hk => trivial))).2.1 (Kd.R_F (Kd.R_mono (ok' := (fun _ => True)) (HO126.out) (fun k_ hk => trivial))) (Nat.le_refl _) (Kd.F_nil _ _ _))) (Reps.c7 (show Kd.FK k35 _ _ (⟨1, 0, 0, y127, (-1), 2, ([] : List (S50))⟩ : S35) [.int .i64 1, .int .i64 0, .int .i64 0, .slice Ao31 y127.length co31, .int .i64 (-1), .int .i64 2, .slice none 0 0] from (k35_mkF _ _ (⟨1, 0, 0, y127, (-1), 2, ([] : List (S50))⟩ : S35) (Kd.R_reads' (Kd.R_mono (ok' := (fun _ => True)) (HO129.out) (fun k_ hk => trivial))).2.1 (Kd.R_F (Kd.R_mono (ok' := (fun _ => True)) (HO129.out) (fun k_ hk => trivial))) (Nat.le_refl _) (Kd.F_nil _ _ _))) (Reps.c7 (show Kd.FK k35 _ _ (⟨3, 0, (-1), y130, 1, (-1), ([] : List (S50))⟩ : S35) [.int .i64 3, .int .i64 0, .int .i64 (-1), .slice Ao34 y130.length co34, .int .i64 1, .int .i64 (-1), .slice none 0 0] from (k35_mkF _ _ (⟨3, 0, (-1), y130, 1, (-1), ([] : List (S50))⟩ : S35) (Kd.R_reads' (Kd.R_mono (ok' := (fun _ => True)) (HO132.out) (fun k_ hk => trivial))).2.1 (Kd.R_F (Kd.R_mono (ok' := (fun _ => True)) (HO132.out) (fun k_ hk => trivial))) (Nat.le_refl _) (Kd.F_nil _ _ _))) (Reps.c7 (show Kd.FK k35 _ _ (⟨1, 0, 2, ([] : List Int), (-1), (-1), ([] : List (S50))⟩ : S35) [.int .i64 1, .int .i64 0, .int .i64 2, .slice none 0 0, .int .i64 (-1), .int .i64 (-1), .slice none 0 0] from (k35_mkF _ _ (⟨1, 0, 2, ([] : List Int), (-1), (-1), ([] : List (S50))⟩ : S35) (Nat.le_refl _) (Kd.F_nil _ _ _) (Nat.le_refl _) (Kd.F_nil _ _ _))) (Reps.c7 (show Kd.FK k35 _ _ (⟨1, 0, 1, ([] : List Int), (-1), (-1), ([] : List (S50))⟩ : S35) [.int .i64 1, .int .i64 0, .int .i64 1, .slice none 0 0, .int .i64 (-1), .int .i64 (-1), .slice none 0 0] from (k35_mkF _ _ (⟨1, 0, 1, ([] : List Int), (-1), (-1), ([] : List (S50))⟩ : S35) (Nat.le_refl _) (Kd.F_nil _ _ _) (Nat.le_refl _) (Kd.F_nil _ _ _))) (Reps.c7 (show Kd.FK k35 _ _ (⟨1, 0, (-1), ([] : List Int), (-1), (-1), ([] : List (S50))⟩ : S35) [.int .i64 1, .int .i64 0, .int .i64 (-1), .slice none 0 0, .int .i64 (-1), .int .i64 (-1), .slice none 0 0] from (k35_mkF _ _ (⟨1, 0, (-1), ([] : List Int), (-1), (-1), ([] : List (S50))⟩ : S35) (Nat.le_refl _) (Kd.F_nil _ _ _) (Nat.le_refl _) (Kd.F_nil _ _ _))) (Reps.none _ _)))))))); intro v134 w35 ho36 hb hg_ hnew_; clear hg_ hnew_; (first | rw [← Ny133.out] at ho36 | (simp only [Int.reduceToNat] at ho36; rw [← Ny133.out] at ho36)); have n0_ := Aside0.mk (Kd.N_lower ho36 (below_size (by repeat (first | (with_reducible first | exact HB.out | apply below_alloc | apply pw_below_drewN | apply below_drew1) | exact HB.out)))); have n1_ := Aside0.mk (below_step (by repeat (first | (with_reducible first | exact HB.out | apply below_alloc | apply pw_below_drewN | apply below_drew1) | exact HB.out)) hb); clear HB; clear HO126; clear HO129; clear HO132; have HO135 := n0_; have HB := n1_; clear n0_ n1_; clear hb ho36; obtain ⟨Ao37, co37, eo37⟩ := Kd.N_slice HO135.out; subst eo37) | ((with_reducible refine gate_callee (f := 13) rfl ?_); refine goesL_ (some 13) rfl rfl Try.func13 (by kernel_rfl) rfl #[.slice Ao37 y133.length co37, .int .i64 3] rfl (by (try simp only [List.map_toArray, List.map_cons, List.map_nil]); first | done | rfl | (simp only [List.length_drop, List.length_take]; rfl)) ?_; (with_reducible refine (shade_Up.calls _ _ y133 3 t136 _ ?side1 ?side2 A1.out).mono ?_); (case side1 => repeat (first | exact (Kd.N_reads' HO135.out).2.2 | (with_reducible refine Kd.C_alloc ?_ _) | (with_reducible refine Kd.C_drewN ?_ _) | (with_reducible refine Kd.C_drew ?_))); (case side2 => exact (Kd.N_reads' HO135.out).2.1); rintro e w38 ⟨v137, rfl, ho0, hb⟩; refine ⟨_, rfl, ?_⟩; have n0_ := Aside0.mk (Kd.N_elder' (by (with_reducible repeat (first | apply Kd.N_alloc | apply Kd.N_drewN | apply Kd.N_drew)); exact HO135.out) (Kd.R_base ho0) hb); have n1_ := Aside0.mk (Kd.R_lower ho0 (below_size (by repeat (first | (with_reducible first | exact HB.out | apply below_alloc | apply pw_below_drewN | apply below_drew1) | exact HB.out)))); have n2_ := Aside0.mk (below_step (by repeat (first | (with_reducible first | exact HB.out | apply below_alloc | apply pw_below_drewN | apply below_drew1) | exact HB.out)) hb); clear HO135; clear HB; have HO135 := n0_; have HO138 := n1_; have HB := n2_; clear n0_ n1_ n2_; (try clear hb); (try clear hb2); (try clear hk); (try clear hi); (try clear ho0)) | ((with_reducible refine gate_dst (N := 14) rfl ?_); (try (refine gate_guard (by rfl) ?_; dsimp only)); refine Kd.R_lit (Kd.int .i64) _ 3 ?hg (N := 14) ?hd (xs := ([3, 2, 1, 0] : List Int)) (inner := [.int .i64 3, .int .i64 2, .int .i64 1, .int .i64 0]) (ok := fun _ => True) (okp := fun _ => True) ?hr ?hp (fun _ hk => hk) trivial (Below.refl _ _) (Nat.le_refl _) (by simp) ?_; (case hd => rfl); (case hg => rfl); (case hr => first | (go_simp; done) | (go_simp; rfl)); (case hp => exact (Reps.one (show Kd.M (Kd.int .i64) _ _ _ 3 [.int .i64 3] from rfl) (Reps.one (show Kd.M (Kd.int .i64) _ _ _ 2 [.int .i64 2] from rfl) (Reps.one (show Kd.M (Kd.int .i64) _ _ _ 1 [.int .i64 1] from rfl) (Reps.one (show Kd.M (Kd.int .i64) _ _ _ 0 [.int .i64 0] from rfl) (Reps.none _ _)))))); intro v140 w39 ho40 hb hg_ hnew_; clear hg_ hnew_; (first | rw [← Ny139.out] at ho40 | (simp only [Int.reduceToNat] at ho40; rw [← Ny139.out] at ho40)); have n0_ := Aside0.mk (Kd.N_elder' (by (with_reducible repeat (first | apply Kd.N_alloc | apply Kd.N_drewN | apply Kd.N_drew)); exact HO135.out) (Kd.R_base ho40) hb); have n1_ := Aside0.mk (Kd.R_elder' (by (with_reducible repeat (first | apply Kd.R_alloc | apply Kd.R_drewN | apply Kd.R_drew)); exact HO138.out) (Kd.R_base ho40) hb); have n2_ := Aside0.mk (Kd.R_lower (Kd.R_new' ho40 (Kd.R_lt (by (with_reducible repeat (first | apply Kd.R_alloc | apply Kd.R_drewN | apply Kd.R_drew)); exact HO138.out))) (below_size (by repeat (first | (with_reducible first | exact HB.out | apply below_alloc | apply pw_below_drewN | apply below_drew1) | exact HB.out)))); have n3_ := Aside0.mk (below_step (by repeat (first | (with_reducible first | exact HB.out | apply below_alloc | apply pw_below_drewN | apply below_drew1) | exact HB.out)) hb); clear HO135; clear HO138; clear HB; have HO135 := n0_; have HO138 := n1_; have HO141 := n2_; have HB := n3_; clear n0_ n1_ n2_ n3_; clear hb ho40; obtain ⟨Ao41, co41, eo41⟩ := Kd.R_slice HO138.out; subst eo41; obtain ⟨Ao42, co42, eo42⟩ := Kd.R_slice HO141.out; subst eo42) | ((with_reducible refine gate_callee (f := 17) rfl ?_); refine goesL_ (some 15) rfl rfl Try.func17 (by kernel_rfl) rfl #[.slice Ao41 t136.length co41, .slice Ao42 y139.length co42] rfl (by (try simp only [List.map_toArray, List.map_cons, List.map_nil]); first | done | rfl | (simp only [List.length_drop, List.length_take]; rfl)) ?_; (with_reducible refine (limelightref01_Ints.calls _ _ t136 _ _ y139 true _ ?side1 ?side2 ?side3 ?side4 A2.out).mono ?_); (case side1 => repeat (first | exact (Kd.R_reads' HO138.out).2.2 | (with_reducible refine Kd.C_alloc ?_ _) | (with_reducible refine Kd.C_drewN ?_ _) | (with_reducible refine Kd.C_drew ?_))); (case side2 => exact (Kd.R_reads' HO138.out).2.1); (case side3 => repeat (first | exact (Kd.R_reads' HO141.out).2.2 | (with_reducible refine Kd.C_alloc ?_ _) | (with_reducible refine Kd.C_drewN ?_ _) | (with_reducible refine Kd.C_drew ?_))); (case side4 => exact (Kd.R_reads' HO141.out).2.1); rintro e w43 ⟨rfl, hb⟩; refine ⟨_, rfl, ?_⟩; have n0_ := Aside0.mk (Kd.N_below (by (with_reducible repeat (first | apply Kd.N_alloc | apply Kd.N_drewN | apply Kd.N_drew)); exact HO135.out) hb); have n1_ := Aside0.mk (Kd.R_below (by (with_reducible repeat (first | apply Kd.R_alloc | apply Kd.R_drewN | apply Kd.R_drew)); exact HO138.out) hb); have n2_ := Aside0.mk (Kd.R_below (by (with_reducible repeat (first | apply Kd.R_alloc | apply Kd.R_drewN | apply Kd.R_drew)); exact HO141.out) hb); have n3_ := Aside0.mk (below_step (by repeat (first | (with_reducible first | exact HB.out | apply below_alloc | apply pw_below_drewN | apply below_drew1) | exact HB.out)) hb); clear HO135; clear HO138; clear HO141; clear HB; have HO135 := n0_; have HO138 := n1_; have HO141 := n2_; have HB := n3_; clear n0_ n1_ n2_ n3_; (try clear hb); (try clear hb2); (try clear hk); (try clear hi)) | (go_at_call 14; (with_reducible refine (shade_List.calls k _ _ y133 0 t143 _ ?side1 ?side2 A4.out).mono ?_); (case side1 => repeat (first | exact (Kd.N_reads' HO135.out).2.2 | (with_reducible refine Kd.C_alloc ?_ _) | (with_reducible refine Kd.C_drewN ?_ _) | (with_reducible refine Kd.C_drew ?_))); (case side2 => exact (Kd.N_reads' HO135.out).2.1); rintro e w44 ⟨v144, rfl, ho0, hb⟩; have n0_ := Aside0.mk (Kd.N_elder' (by (with_reducible repeat (first | apply Kd.N_alloc | apply Kd.N_drewN | apply Kd.N_drew)); exact HO135.out) (Kd.R_base ho0) hb); have n1_ := Aside0.mk (Kd.R_elder' (by (with_reducible repeat (first | apply Kd.R_alloc | apply Kd.R_drewN | apply Kd.R_drew)); exact HO138.out) (Kd.R_base ho0) hb); have n2_ := Aside0.mk (Kd.R_elder' (by (with_reducible repeat (first | apply Kd.R_alloc | apply Kd.R_drewN | apply Kd.R_drew)); exact HO141.out) (Kd.R_base ho0) hb); have n3_ := Aside0.mk (Kd.R_lower (Kd.R_new' (Kd.R_new' ho0 (Kd.R_lt (by (with_reducible repeat (first | apply Kd.R_alloc | apply Kd.R_drewN | apply Kd.R_drew)); exact HO138.out))) (Kd.R_lt (by (with_reducible repeat (first | apply Kd.R_alloc | apply Kd.R_drewN | apply Kd.R_drew)); exact HO141.out))) (below_size (by repeat (first | (with_reducible first | exact HB.out | apply below_alloc | apply pw_below_drewN | apply below_drew1) | exact HB.out)))); have n4_ := Aside0.mk (below_step (by repeat (first | (with_reducible first | exact HB.out | apply below_alloc | apply pw_below_drewN | apply below_drew1) | exact HB.out)) hb); clear HO135; clear HO138; clear HO141; clear HB; have HO135 := n0_; have HO138 := n1_; have HO141 := n2_; have HO145 := n3_; have HB := n4_; clear n0_ n1_ n2_ n3_ n4_; (try clear hb); (try clear hb2); (try clear hk); (try clear hi); (try clear ho0)) | ((with_reducible refine gate_dst (N := 19) rfl ?_); (try (refine gate_guard (by rfl) ?_; dsimp only)); refine Kd.R_lit (Kd.int .i64) _ 3 ?hg (N := 19) ?hd (xs := ([0, 1, 2, 3, 4] : List Int)) (inner := [.int .i64 0, .int .i64 1, .int .i64 2, .int .i64 3, .int .i64 4]) (ok := fun _ => True) (okp := fun _ => True) ?hr ?hp (fun _ hk => hk) trivial (Below.refl _ _) (Nat.le_refl _) (by simp) ?_; (case hd => rfl); (case hg => rfl); (case hr => first | (go_simp; done) | (go_simp; rfl)); (case hp => exact (Reps.one (show Kd.M (Kd.int .i64) _ _ _ 0 [.int .i64 0] from rfl) (Reps.one (show Kd.M (Kd.int .i64) _ _ _ 1 [.int .i64 1] from rfl) (Reps.one (show Kd.M (Kd.int .i64) _ _ _ 2 [.int .i64 2] from rfl) (Reps.one (show Kd.M (Kd.int .i64) _ _ _ 3 [.int .i64 3] from rfl) (Reps.one (show Kd.M (Kd.int .i64) _ _ _ 4 [.int .i64 4] from rfl) (Reps.none _ _))))))); intro v147 w45 ho46 hb hg_ hnew_; clear hg_ hnew_; (first | rw [← Ny146.out] at ho46 | (simp only [Int.reduceToNat] at ho46; rw [← Ny146.out] at ho46)); have n0_ := Aside0.mk (Kd.N_elder' (by (with_reducible repeat (first | apply Kd.N_alloc | apply Kd.N_drewN | apply Kd.N_drew)); exact HO135.out) (Kd.R_base ho46) hb); have n1_ := Aside0.mk (Kd.R_elder' (by (with_reducible repeat (first | apply Kd.R_alloc | apply Kd.R_drewN | apply Kd.R_drew)); exact HO138.out) (Kd.R_base ho46) hb); have n2_ := Aside0.mk (Kd.R_elder' (by (with_reducible repeat (first | apply Kd.R_alloc | apply Kd.R_drewN | apply Kd.R_drew)); exact HO141.out) (Kd.R_base ho46) hb); have n3_ := Aside0.mk (Kd.R_elder' (by (with_reducible repeat (first | apply Kd.R_alloc | apply Kd.R_drewN | apply Kd.R_drew)); exact HO145.out) (Kd.R_base ho46) hb); have n4_ := Aside0.mk (Kd.R_lower (Kd.R_new' (Kd.R_new' (Kd.R_new' ho46 (Kd.R_lt (by (with_reducible repeat (first | apply Kd.R_alloc | apply Kd.R_drewN | apply Kd.R_drew)); exact HO138.out))) (Kd.R_lt (by (with_reducible repeat (first | apply Kd.R_alloc | apply Kd.R_drewN | apply Kd.R_drew)); exact HO141.out))) (Kd.R_lt (by (with_reducible repeat (first | apply Kd.R_alloc | apply Kd.R_drewN | apply Kd.R_drew)); exact HO145.out))) (below_size (by repeat (first | (with_reducible first | exact HB.out | apply below_alloc | apply pw_below_drewN | apply below_drew1) | exact HB.out)))); have n5_ := Aside0.mk (below_step (by repeat (first | (with_reducible first | exact HB.out | apply below_alloc | apply pw_below_drewN | apply below_drew1) | exact HB.out)) hb); clear HO135; clear HO138; clear HO141; clear HO145; clear HB; have HO135 := n0_; have HO138 := n1_; have HO141 := n2_; have HO145 := n3_; have HO148 := n4_; have HB := n5_; clear n0_ n1_ n2_ n3_ n4_ n5_; clear hb ho46; obtain ⟨Ao47, co47, eo47⟩ := Kd.R_slice HO145.out; subst eo47; obtain ⟨Ao48, co48, eo48⟩ := Kd.R_slice HO148.out; subst eo48) | (go_at_call 17; (with_reducible refine (limelightref01_Ints.calls _ _ t143 _ _ y146 true _ ?side1 ?side2 ?side3 ?side4 A5.out).mono ?_); (case side1 => repeat (first | exact (Kd.R_reads' HO145.out).2.2 | (with_reducible refine Kd.C_alloc ?_ _) | (with_reducible refine Kd.C_drewN ?_ _) | (with_reducible refine Kd.C_drew ?_))); (case side2 => exact (Kd.R_reads' HO145.out).2.1); (case side3 => repeat (first | exact (Kd.R_reads' HO148.out).2.2 | (with_reducible refine Kd.C_alloc ?_ _) | (with_reducible refine Kd.C_drewN ?_ _) | (with_reducible refine Kd.C_drew ?_))); (case side4 => exact (Kd.R_reads' HO148.out).2.1); rintro e w49 ⟨rfl, hb⟩; have n0_ := Aside0.mk (Kd.N_below (by (with_reducible repeat (first | apply Kd.N_alloc | apply Kd.N_drewN | apply Kd.N_drew)); exact HO135.out) hb); have n1_ := Aside0.mk (Kd.R_below (by (with_reducible repeat (first | apply Kd.R_alloc | apply Kd.R_drewN | apply Kd.R_drew)); exact HO138.out) hb); have n2_ := Aside0.mk (Kd.R_below (by (with_reducible repeat (first | apply Kd.R_alloc | apply Kd.R_drewN | apply Kd.R_drew)); exact HO141.out) hb); have n3_ := Aside0.mk (Kd.R_below (by (with_reducible repeat (first | apply Kd.R_alloc | apply Kd.R_drewN | apply Kd.R_drew)); exact HO145.out) hb); have n4_ := Aside0.mk (Kd.R_below (by (with_reducible repeat (first | apply Kd.R_alloc | apply Kd.R_drewN | apply Kd.R_drew)); exact HO148.out) hb); have n5_ := Aside0.mk (below_step (by repeat (first | (with_reducible first | exact HB.out | apply below_alloc | apply pw_below_drewN | apply below_drew1) | exact HB.out)) hb); clear HO135; clear HO138; clear HO141; clear HO145; clear HO148; clear HB; have HO135 := n0_; have HO138 := n1_; have HO141 := n2_; have HO145 := n3_; have HO148 := n4_; have HB := n5_; clear n0_ n1_ n2_ n3_ n4_ n5_; (try clear hb); (try clear hb2); (try clear hk); (try clear hi)) | (go_at_call 15; (with_reducible refine (shade_Connected.calls k _ _ y133 3 true _ ?side1 ?side2 A7.out).mono ?_); (case side1 => repeat (first | exact (Kd.N_reads' HO135.out).2.2 | (with_reducible refine Kd.C_alloc ?_ _) | (with_reducible refine Kd.C_drewN ?_ _) | (with_reducible refine Kd.C_drew ?_))); (case side2 => exact (Kd.N_reads' HO135.out).2.1); rintro e w50 ⟨rfl, hb⟩; have n0_ := Aside0.mk (Kd.N_below (by (with_reducible repeat (first | apply Kd.N_alloc | apply Kd.N_drewN | apply Kd.N_drew)); exact HO135.out) hb); have n1_ := Aside0.mk (Kd.R_below (by (with_reducible repeat (first | apply Kd.R_alloc | apply Kd.R_drewN | apply Kd.R_drew)); exact HO138.out) hb); have n2_ := Aside0.mk (Kd.R_below (by (with_reducible repeat (first | apply Kd.R_alloc | apply Kd.R_drewN | apply Kd.R_drew)); exact HO141.out) hb); have n3_ := Aside0.mk (Kd.R_below (by (with_reducible repeat (first | apply Kd.R_alloc | apply Kd.R_drewN | apply Kd.R_drew)); exact HO145.out) hb); have n4_ := Aside0.mk (Kd.R_below (by (with_reducible repeat (first | apply Kd.R_alloc | apply Kd.R_drewN | apply Kd.R_drew)); exact HO148.out) hb); have n5_ := Aside0.mk (below_step (by repeat (first | (with_reducible first | exact HB.out | apply below_alloc | apply pw_below_drewN | apply below_drew1) | exact HB.out)) hb); clear HO135; clear HO138; clear HO141; clear HO145; clear HO148; clear HB; have HO135 := n0_; have HO138 := n1_; have HO141 := n2_; have HO145 := n3_; have HO148 := n4_; have HB := n5_; clear n0_ n1_ n2_ n3_ n4_ n5_; (try clear hb); (try clear hb2); (try clear hk); (try clear hi)) | (go_at_call 15; (with_reducible refine (shade_Connected.calls k _ _ y133 5 false _ ?side1 ?side2 A9.out).mono ?_); (case side1 => repeat (first | exact (Kd.N_reads' HO135.out).2.2 | (with_reducible refine Kd.C_alloc ?_ _) | (with_reducible refine Kd.C_drewN ?_ _) | (with_reducible refine Kd.C_drew ?_))); (case side2 => exact (Kd.N_reads' HO135.out).2.1); rintro e w51 ⟨rfl, hb⟩; have n0_ := Aside0.mk (Kd.N_below (by (with_reducible repeat (first | apply Kd.N_alloc | apply Kd.N_drewN | apply Kd.N_drew)); exact HO135.out) hb); have n1_ := Aside0.mk (Kd.R_below (by (with_reducible repeat (first | apply Kd.R_alloc | apply Kd.R_drewN | apply Kd.R_drew)); exact HO138.out) hb); have n2_ := Aside0.mk (Kd.R_below (by (with_reducible repeat (first | apply Kd.R_alloc | apply Kd.R_drewN | apply Kd.R_drew)); exact HO141.out) hb); have n3_ := Aside0.mk (Kd.R_below (by (with_reducible repeat (first | apply Kd.R_alloc | apply Kd.R_drewN | apply Kd.R_drew)); exact HO145.out) hb); have n4_ := Aside0.mk (Kd.R_below (by (with_reducible repeat (first | apply Kd.R_alloc | apply Kd.R_drewN | apply Kd.R_drew)); exact HO148.out) hb); have n5_ := Aside0.mk (below_step (by repeat (first | (with_reducible first | exact HB.out | apply below_alloc | apply pw_below_drewN | apply below_drew1) | exact HB.out)) hb); clear HO135; clear HO138; clear HO141; clear HO145; clear HO148; clear HB; have HO135 := n0_; have HO138 := n1_; have HO141 := n2_; have HO145 := n3_; have HO148 := n4_; have HB := n5_; clear n0_ n1_ n2_ n3_ n4_ n5_; (try clear hb); (try clear hb2); (try clear hk); (try clear hi)) | (go_at_call 12; (with_reducible refine (shade_Retarget.calls _ _ y133 3 0 t152 _ ?side1 ?side2 A11.out).mono ?_); (case side1 => repeat (first | exact (Kd.N_reads' HO135.out).2.2 | (with_reducible refine Kd.C_alloc ?_ _) | (with_reducible refine Kd.C_drewN ?_ _) | (with_reducible refine Kd.C_drew ?_))); (case side2 => exact (Kd.N_reads' HO135.out).2.1); rintro e w52 ⟨rfl, hb⟩; have n0_ := Aside0.mk (Kd.N_below (by (with_reducible repeat (first | apply Kd.N_alloc | apply Kd.N_drewN | apply Kd.N_drew)); exact HO135.out) hb); have n1_ := Aside0.mk (Kd.R_below (by (with_reducible repeat (first | apply Kd.R_alloc | apply Kd.R_drewN | apply Kd.R_drew)); exact HO138.out) hb); have n2_ := Aside0.mk (Kd.R_below (by (with_reducible repeat (first | apply Kd.R_alloc | apply Kd.R_drewN | apply Kd.R_drew)); exact HO141.out) hb); have n3_ := Aside0.mk (Kd.R_below (by (with_reducible repeat (first | apply Kd.R_alloc | apply Kd.R_drewN | apply Kd.R_drew)); exact HO145.out) hb); have n4_ := Aside0.mk (Kd.R_below (by (with_reducible repeat (first | apply Kd.R_alloc | apply Kd.R_drewN | apply Kd.R_drew)); exact HO148.out) hb); have n5_ := Aside0.mk (below_step (by repeat (first | (with_reducible first | exact HB.out | apply below_alloc | apply pw_below_drewN | apply below_drew1) | exact HB.out)) hb); clear HO135; clear HO138; clear HO141; clear HO145; clear HO148; clear HB; have HO135 := n0_; have HO138 := n1_; have HO141 := n2_; have HO145 := n3_; have HO148 := n4_; have HB := n5_; clear n0_ n1_ n2_ n3_ n4_ n5_; (try clear hb); (try clear hb2); (try clear hk); (try clear hi)) | (go_at_call 12; (with_reducible refine (shade_Retarget.calls _ _ y133 3 3 t153 _ ?side1 ?side2 A13.out).mono ?_); (case side1 => repeat (first | exact (Kd.N_reads' HO135.out).2.2 | (with_reducible refine Kd.C_alloc ?_ _) | (with_reducible refine Kd.C_drewN ?_ _) | (with_reducible refine Kd.C_drew ?_))); (case side2 => exact (Kd.N_reads' HO135.out).2.1); rintro e w53 ⟨rfl, hb⟩; have n0_ := Aside0.mk (Kd.N_below (by (with_reducible repeat (first | apply Kd.N_alloc | apply Kd.N_drewN | apply Kd.N_drew)); exact HO135.out) hb); have n1_ := Aside0.mk (Kd.R_below (by (with_reducible repeat (first | apply Kd.R_alloc | apply Kd.R_drewN | apply Kd.R_drew)); exact HO138.out) hb); have n2_ := Aside0.mk (Kd.R_below (by (with_reducible repeat (first | apply Kd.R_alloc | apply Kd.R_drewN | apply Kd.R_drew)); exact HO141.out) hb); have n3_ := Aside0.mk (Kd.R_below (by (with_reducible repeat (first | apply Kd.R_alloc | apply Kd.R_drewN | apply Kd.R_drew)); exact HO145.out) hb); have n4_ := Aside0.mk (Kd.R_below (by (with_reducible repeat (first | apply Kd.R_alloc | apply Kd.R_drewN | apply Kd.R_drew)); exact HO148.out) hb); have n5_ := Aside0.mk (below_step (by repeat (first | (with_reducible first | exact HB.out | apply below_alloc | apply pw_below_drewN | apply below_drew1) | exact HB.out)) hb); clear HO135; clear HO138; clear HO141; clear HO145; clear HO148; clear HB; have HO135 := n0_; have HO138 := n1_; have HO141 := n2_; have HO145 := n3_; have HO148 := n4_; have HB := n5_; clear n0_ n1_ n2_ n3_ n4_ n5_; (try clear hb); (try clear hb2); (try clear hk); (try clear hi)) | (go_at_call 12; (with_reducible refine (shade_Retarget.calls _ _ y133 4 3 t154 _ ?side1 ?side2 A15.out).mono ?_); (case side1 => repeat (first | exact (Kd.N_reads' HO135.out).2.2 | (with_reducible refine Kd.C_alloc ?_ _) | (with_reducible refine Kd.C_drewN ?_ _) | (with_reducible refine Kd.C_drew ?_))); (case side2 => exact (Kd.N_reads' HO135.out).2.1); rintro e w54 ⟨rfl, hb⟩; have n0_ := Aside0.mk (Kd.N_below (by (with_reducible repeat (first | apply Kd.N_alloc | apply Kd.N_drewN | apply Kd.N_drew)); exact HO135.out) hb); have n1_ := Aside0.mk (Kd.R_below (by (with_reducible repeat (first | apply Kd.R_alloc | apply Kd.R_drewN | apply Kd.R_drew)); exact HO138.out) hb); have n2_ := Aside0.mk (Kd.R_below (by (with_reducible repeat (first | apply Kd.R_alloc | apply Kd.R_drewN | apply Kd.R_drew)); exact HO141.out) hb); have n3_ := Aside0.mk (Kd.R_below (by (with_reducible repeat (first | apply Kd.R_alloc | apply Kd.R_drewN | apply Kd.R_drew)); exact HO145.out) hb); have n4_ := Aside0.mk (Kd.R_below (by (with_reducible repeat (first | apply Kd.R_alloc | apply Kd.R_drewN | apply Kd.R_drew)); exact HO148.out) hb); have n5_ := Aside0.mk (below_step (by repeat (first | (with_reducible first | exact HB.out | apply below_alloc | apply pw_below_drewN | apply below_drew1) | exact HB.out)) hb); clear HO135; clear HO138; clear HO141; clear HO145; clear HO148; clear HB; have HO135 := n0_; have HO138 := n1_; have HO141 := n2_; have HO145 := n3_; have HO148 := n4_; have HB := n5_; clear n0_ n1_ n2_ n3_ n4_ n5_; (try clear hb); (try clear hb2); (try clear hk); (try clear hi)) | (go_at_call 16; (with_reducible refine (shade_Host.calls _ _ y133 3 t155 _ ?side1 ?side2 A17.out).mono ?_); (case side1 => repeat (first | exact (Kd.N_reads' HO135.out).2.2 | (with_reducible refine Kd.C_alloc ?_ _) | (with_reducible refine Kd.C_drewN ?_ _) | (with_reducible refine Kd.C_drew ?_))); (case side2 => exact (Kd.N_reads' HO135.out).2.1); rintro e w55 ⟨rfl, hb⟩; have n0_ := Aside0.mk (Kd.N_below (by (with_reducible repeat (first | apply Kd.N_alloc | apply Kd.N_drewN | apply Kd.N_drew)); exact HO135.out) hb); have n1_ := Aside0.mk (Kd.R_below (by (with_reducible repeat (first | apply Kd.R_alloc | apply Kd.R_drewN | apply Kd.R_drew)); exact HO138.out) hb); have n2_ := Aside0.mk (Kd.R_below (by (with_reducible repeat (first | apply Kd.R_alloc | apply Kd.R_drewN | apply Kd.R_drew)); exact HO141.out) hb); have n3_ := Aside0.mk (Kd.R_below (by (with_reducible repeat (first | apply Kd.R_alloc | apply Kd.R_drewN | apply Kd.R_drew)); exact HO145.out) hb); have n4_ := Aside0.mk (Kd.R_below (by (with_reducible repeat (first | apply Kd.R_alloc | apply Kd.R_drewN | apply Kd.R_drew)); exact HO148.out) hb); have n5_ := Aside0.mk (below_step (by repeat (first | (with_reducible first | exact HB.out | apply below_alloc | apply pw_below_drewN | apply below_drew1) | exact HB.out)) hb); clear HO135; clear HO138; clear HO141; clear HO145; clear HO148; clear HB; have HO135 := n0_; have HO138 := n1_; have HO141 := n2_; have HO145 := n3_; have HO148 := n4_; have HB := n5_; clear n0_ n1_ n2_ n3_ n4_ n5_; (try clear hb); (try clear hb2); (try clear hk); (try clear hi)) | (go_at_call 16; (with_reducible refine (shade_Host.calls _ _ y133 4 t156 _ ?side1 ?side2 A19.out).mono ?_); (case side1 => repeat (first | exact (Kd.N_reads' HO135.out).2.2 | (with_reducible refine Kd.C_alloc ?_ _) | (with_reducible refine Kd.C_drewN ?_ _) | (with_reducible refine Kd.C_drew ?_))); (case side2 => exact (Kd.N_reads' HO135.out).2.1); rintro e w56 ⟨rfl, hb⟩; have n0_ := Aside0.mk (Kd.N_below (by (with_reducible repeat (first | apply Kd.N_alloc | apply Kd.N_drewN | apply Kd.N_drew)); exact HO135.out) hb); have n1_ := Aside0.mk (Kd.R_below (by (with_reducible repeat (first | apply Kd.R_alloc | apply Kd.R_drewN | apply Kd.R_drew)); exact HO138.out) hb); have n2_ := Aside0.mk (Kd.R_below (by (with_reducible repeat (first | apply Kd.R_alloc | apply Kd.R_drewN | apply Kd.R_drew)); exact HO141.out) hb); have n3_ := Aside0.mk (Kd.R_below (by (with_reducible repeat (first | apply Kd.R_alloc | apply Kd.R_drewN | apply Kd.R_drew)); exact HO145.out) hb); have n4_ := Aside0.mk (Kd.R_below (by (with_reducible repeat (first | apply Kd.R_alloc | apply Kd.R_drewN | apply Kd.R_drew)); exact HO148.out) hb); have n5_ := Aside0.mk (below_step (by repeat (first | (with_reducible first | exact HB.out | apply below_alloc | apply pw_below_drewN | apply below_drew1) | exact HB.out)) hb); clear HO135; clear HO138; clear HO141; clear HO145; clear HO148; clear HB; have HO135 := n0_; have HO138 := n1_; have HO141 := n2_; have HO145 := n3_; have HO148 := n4_; have HB := n5_; clear n0_ n1_ n2_ n3_ n4_ n5_; (try clear hb); (try clear hb2); (try clear hk); (try clear hi)) | (go_at_call 11; (with_reducible refine (shade_Above.calls k _ _ y133 1 3 true _ ?side1 ?side2 A21.out).mono ?_); (case side1 => repeat (first | exact (Kd.N_reads' HO135.out).2.2 | (with_reducible refine Kd.C_alloc ?_ _) | (with_reducible refine Kd.C_drewN ?_ _) | (with_reducible refine Kd.C_drew ?_))); (case side2 => exact (Kd.N_reads' HO135.out).2.1); rintro e w57 ⟨rfl, hb⟩; have n0_ := Aside0.mk (Kd.N_below (by (with_reducible repeat (first | apply Kd.N_alloc | apply Kd.N_drewN | apply Kd.N_drew)); exact HO135.out) hb); have n1_ := Aside0.mk (Kd.R_below (by (with_reducible repeat (first | apply Kd.R_alloc | apply Kd.R_drewN | apply Kd.R_drew)); exact HO138.out) hb); have n2_ := Aside0.mk (Kd.R_below (by (with_reducible repeat (first | apply Kd.R_alloc | apply Kd.R_drewN | apply Kd.R_drew)); exact HO141.out) hb); have n3_ := Aside0.mk (Kd.R_below (by (with_reducible repeat (first | apply Kd.R_alloc | apply Kd.R_drewN | apply Kd.R_drew)); exact HO145.out) hb); have n4_ := Aside0.mk (Kd.R_below (by (with_reducible repeat (first | apply Kd.R_alloc | apply Kd.R_drewN | apply Kd.R_drew)); exact HO148.out) hb); have n5_ := Aside0.mk (below_step (by repeat (first | (with_reducible first | exact HB.out | apply below_alloc | apply pw_below_drewN | apply below_drew1) | exact HB.out)) hb); clear HO135; clear HO138; clear HO141; clear HO145; clear HO148; clear HB; have HO135 := n0_; have HO138 := n1_; have HO141 := n2_; have HO145 := n3_; have HO148 := n4_; have HB := n5_; clear n0_ n1_ n2_ n3_ n4_ n5_; (try clear hb); (try clear hb2); (try clear hk); (try clear hi)) | (go_at_call 13; (refine (shade_Up.calls _ _ ([] : List (S35)) 0 t158 _ ?side1 ?side2 A23.out).mono ?_); (case side1 => exact Kd.C_nil _ _); (case side2 => exact Nat.le_refl _); rintro e w58 ⟨v159, rfl, ho0, hb⟩; have n0_ := Aside0.mk (Kd.N_elder' (by (with_reducible repeat (first | apply Kd.N_alloc | apply Kd.N_drewN | apply Kd.N_drew)); exact HO135.out) (Kd.R_base ho0) hb); have n1_ := Aside0.mk (Kd.R_elder' (by (with_reducible repeat (first | apply Kd.R_alloc | apply Kd.R_drewN | apply Kd.R_drew)); exact HO138.out) (Kd.R_base ho0) hb); have n2_ := Aside0.mk (Kd.R_elder' (by (with_reducible repeat (first | apply Kd.R_alloc | apply Kd.R_drewN | apply Kd.R_drew)); exact HO141.out) (Kd.R_base ho0) hb); have n3_ := Aside0.mk (Kd.R_elder' (by (with_reducible repeat (first | apply Kd.R_alloc | apply Kd.R_drewN | apply Kd.R_drew)); exact HO145.out) (Kd.R_base ho0) hb); have n4_ := Aside0.mk (Kd.R_elder' (by (with_reducible repeat (first | apply Kd.R_alloc | apply Kd.R_drewN | apply Kd.R_drew)); exact HO148.out) (Kd.R_base ho0) hb); have n5_ := Aside0.mk (Kd.R_lower (Kd.R_new' (Kd.R_new' (Kd.R_new' (Kd.R_new' ho0 (Kd.R_lt (by (with_reducible repeat (first | apply Kd.R_alloc | apply Kd.R_drewN | apply Kd.R_drew)); exact HO138.out))) (Kd.R_lt (by (with_reducible repeat (first | apply Kd.R_alloc | apply Kd.R_drewN | apply Kd.R_drew)); exact HO141.out))) (Kd.R_lt (by (with_reducible repeat (first | apply Kd.R_alloc | apply Kd.R_drewN | apply Kd.R_drew)); exact HO145.out))) (Kd.R_lt (by (with_reducible repeat (first | apply Kd.R_alloc | apply Kd.R_drewN | apply Kd.R_drew)); exact HO148.out))) (below_size (by repeat (first | (with_reducible first | exact HB.out | apply below_alloc | apply pw_below_drewN | apply below_drew1) | exact HB.out)))); have n6_ := Aside0.mk (below_step (by repeat (first | (with_reducible first | exact HB.out | apply below_alloc | apply pw_below_drewN | apply below_drew1) | exact HB.out)) hb); clear HO135; clear HO138; clear HO141; clear HO145; clear HO148; clear HB; have HO135 := n0_; have HO138 := n1_; have HO141 := n2_; have HO145 := n3_; have HO148 := n4_; have HO160 := n5_; have HB := n6_; clear n0_ n1_ n2_ n3_ n4_ n5_ n6_; (try clear hb); (try clear hb2); (try clear hk); (try clear hi); (try clear ho0); obtain ⟨Ao59, co59, eo59⟩ := Kd.R_slice HO160.out; subst eo59) | (go_at_call 12; (with_reducible refine (shade_Retarget.calls _ _ y133 3 9 t161 _ ?side1 ?side2 A25.out).mono ?_); (case side1 => repeat (first | exact (Kd.N_reads' HO135.out).2.2 | (with_reducible refine Kd.C_alloc ?_ _) | (with_reducible refine Kd.C_drewN ?_ _) | (with_reducible refine Kd.C_drew ?_))); (case side2 => exact (Kd.N_reads' HO135.out).2.1); rintro e w60 ⟨rfl, hb⟩; have n0_ := Aside0.mk (Kd.N_below (by (with_reducible repeat (first | apply Kd.N_alloc | apply Kd.N_drewN | apply Kd.N_drew)); exact HO135.out) hb); have n1_ := Aside0.mk (Kd.R_below (by (with_reducible repeat (first | apply Kd.R_alloc | apply Kd.R_drewN | apply Kd.R_drew)); exact HO138.out) hb); have n2_ := Aside0.mk (Kd.R_below (by (with_reducible repeat (first | apply Kd.R_alloc | apply Kd.R_drewN | apply Kd.R_drew)); exact HO141.out) hb); have n3_ := Aside0.mk (Kd.R_below (by (with_reducible repeat (first | apply Kd.R_alloc | apply Kd.R_drewN | apply Kd.R_drew)); exact HO145.out) hb); have n4_ := Aside0.mk (Kd.R_below (by (with_reducible repeat (first | apply Kd.R_alloc | apply Kd.R_drewN | apply Kd.R_drew)); exact HO148.out) hb); have n5_ := Aside0.mk (Kd.R_below (by (with_reducible repeat (first | apply Kd.R_alloc | apply Kd.R_drewN | apply Kd.R_drew)); exact HO160.out) hb); have n6_ := Aside0.mk (below_step (by repeat (first | (with_reducible first | exact HB.out | apply below_alloc | apply pw_below_drewN | apply below_drew1) | exact HB.out)) hb); clear HO135; clear HO138; clear HO141; clear HO145; clear HO148; clear HO160; clear HB; have HO135 := n0_; have HO138 := n1_; have HO141 := n2_; have HO145 := n3_; have HO148 := n4_; have HO160 := n5_; have HB := n6_; clear n0_ n1_ n2_ n3_ n4_ n5_ n6_; (try clear hb); (try clear hb2); (try clear hk); (try clear hi)))
                        go_ret
                        exact ⟨by first | rfl | (simp [errW_none, errW_some] <;> rfl) | (simp [*, errW_none, errW_some] <;> rfl), by repeat (first | (with_reducible first | exact HB.out | apply below_alloc | apply pw_below_drewN | apply below_drew1) | exact HB.out)⟩
                      · rw [if_neg c24] at H
                        exact absurd H (by simp)
                    · replace c22 := Bool.eq_false_iff.mpr c22
                      subst c22
                      have H1 : (none) = some r := by rw [if_neg (show ¬ (false = true) by decide)] at H; exact H
                      clear H
                      have H := H1
                      clear H1
                      exact absurd H (by simp)
                  · rw [if_neg c20] at H
                    exact absurd H (by simp)
                · rw [if_neg c18] at H
                  exact absurd H (by simp)
              · rw [if_neg c16] at H
                exact absurd H (by simp)
            · rw [if_neg c14] at H
              exact absurd H (by simp)
          · rw [if_neg c12] at H
            exact absurd H (by simp)
      · replace c8 := Bool.eq_false_iff.mpr c8
        subst c8
        have H1 : (none) = some r := by rw [if_neg (show ¬ (false = true) by decide)] at H; exact H
        clear H
        have H := H1
        clear H1
        exact absurd H (by simp)
    · replace c6 := Bool.eq_false_iff.mpr c6
      subst c6
      have H1 : (none) = some r := by rw [if_neg (show ¬ (false = true) by decide)] at H; exact H
      clear H
      have H := H1
      clear H1
      exact absurd H (by simp)
  · replace c3 := Bool.eq_false_iff.mpr c3
    subst c3
    have H1 : (none) = some r := by rw [if_neg (show ¬ (false = true) by decide)] at H; exact H
    clear H
    have H := H1
    clear H1
    exact absurd H (by simp)

-- GIVEN: function 26 (limelightref01_May): ME

-- GIVEN: function 27 (limelightref01_Is): ME

/-! ### limelightref03_Both: function 10 -/
def limelightref03_Both.f (l0 : List (S35)) (a1 : Int) (a2 : Int) : Option (Bool) := (limelightref01_May.f l0).bind fun t162 => (if t162 = true then ((limelightref01_Is.f l0 a1).bind fun t163 => (if t163 = true then ((limelightref01_Is.f l0 a2).bind fun t164 => (some t164)) else (some false))) else (some false))
set_option maxHeartbeats 8000000 in
set_option maxRecDepth 100000 in
theorem limelightref03_Both.calls (A0 : Option Addr) (c0 : Nat) (l0 : List (S35)) (a1 : Int) (a2 : Int) (r : Bool) (w : World) (hr0 : Kd.C k35 w A0 l0.length l0) (hc0 : l0.length ≤ c0) (h : limelightref03_Both.f l0 a1 a2 = some r) :
    Calls Try.prog 10 #[.slice A0 l0.length c0, .int .i64 a1, .int .i64 a2] w fun e w' => e = .returned (.bool r) ∧ Below w.heap.size w w' := by
  have HR0 := Aside0.mk hr0
  have HC0 := Aside0.mk hc0
  clear hr0 hc0
  have HB := Aside0.mk (Below.refl w.heap.size w)
  have H : ((limelightref01_May.f l0).bind fun t162 => (if t162 = true then ((limelightref01_Is.f l0 a1).bind fun t163 => (if t163 = true then ((limelightref01_Is.f l0 a2).bind fun t164 => (some t164)) else (some false))) else (some false))) = some r := h
  clear h
  replace H := Option.bind_eq_some_iff.mp H
  obtain ⟨t162, A40, H⟩ := H
  replace H : (if t162 = true then ((limelightref01_Is.f l0 a1).bind fun t163 => (if t163 = true then ((limelightref01_Is.f l0 a2).bind fun t164 => (some t164)) else (some false))) else (some false)) = some r := H
  have A4 := Aside0.mk A40
  clear A40
  by_cases c5 : t162 = true
  · subst c5
    have H1 : ((limelightref01_Is.f l0 a1).bind fun t163 => (if t163 = true then ((limelightref01_Is.f l0 a2).bind fun t164 => (some t164)) else (some false))) = some r := by rw [if_pos rfl] at H; exact H
    clear H
    have H := H1
    clear H1
    replace H := Option.bind_eq_some_iff.mp H
    obtain ⟨t163, A60, H⟩ := H
    replace H : (if t163 = true then ((limelightref01_Is.f l0 a2).bind fun t164 => (some t164)) else (some false)) = some r := H
    have A6 := Aside0.mk A60
    clear A60
    by_cases c7 : t163 = true
    · subst c7
      have H1 : ((limelightref01_Is.f l0 a2).bind fun t164 => (some t164)) = some r := by rw [if_pos rfl] at H; exact H
      clear H
      have H := H1
      clear H1
      replace H := Option.bind_eq_some_iff.mp H
      obtain ⟨t164, A80, H⟩ := H
      replace H : (some t164) = some r := H
      have A8 := Aside0.mk A80
      clear A80
      obtain rfl := Option.some.inj H
      go_enter Try.func10, Try.ntmps10
      go_wp2_with (first | ((with_reducible refine gate_callee (f := 26) rfl ?_); refine goesL_ (some 8) rfl rfl Try.func26 (by kernel_rfl) rfl #[.slice A0 l0.length c0] rfl (by (try simp only [List.map_toArray, List.map_cons, List.map_nil]); first | done | rfl | (simp only [List.length_drop, List.length_take]; rfl)) ?_; (with_reducible refine (limelightref01_May.calls _ _ l0 true _ ?side1 ?side2 A4.out).mono ?_); (case side1 => repeat (first | exact HR0.out | (with_reducible refine Kd.C_alloc ?_ _) | (with_reducible refine Kd.C_drewN ?_ _) | (with_reducible refine Kd.C_drew ?_))); (case side2 => exact HC0.out); rintro e w9 ⟨rfl, hb⟩; refine ⟨_, rfl, ?_⟩; have n0_ := Aside0.mk (below_step (by repeat (first | (with_reducible first | exact HB.out | apply below_alloc | apply pw_below_drewN | apply below_drew1) | exact HB.out)) hb); clear HB; have HB := n0_; clear n0_; (try clear hb); (try clear hb2); (try clear hk); (try clear hi)) | (go_at_call 27; (with_reducible refine (limelightref01_Is.calls _ _ l0 a1 true _ ?side1 ?side2 A6.out).mono ?_); (case side1 => repeat (first | exact (Kd.C_below HR0.out HB.out) | (with_reducible refine Kd.C_alloc ?_ _) | (with_reducible refine Kd.C_drewN ?_ _) | (with_reducible refine Kd.C_drew ?_))); (case side2 => exact HC0.out); rintro e w10 ⟨rfl, hb⟩; have n0_ := Aside0.mk (below_step (by repeat (first | (with_reducible first | exact HB.out | apply below_alloc | apply pw_below_drewN | apply below_drew1) | exact HB.out)) hb); clear HB; have HB := n0_; clear n0_; (try clear hb); (try clear hb2); (try clear hk); (try clear hi)) | (go_at_call 27; (with_reducible refine (limelightref01_Is.calls _ _ l0 a2 t164 _ ?side1 ?side2 A8.out).mono ?_); (case side1 => repeat (first | exact (Kd.C_below HR0.out HB.out) | (with_reducible refine Kd.C_alloc ?_ _) | (with_reducible refine Kd.C_drewN ?_ _) | (with_reducible refine Kd.C_drew ?_))); (case side2 => exact HC0.out); rintro e w11 ⟨rfl, hb⟩; have n0_ := Aside0.mk (below_step (by repeat (first | (with_reducible first | exact HB.out | apply below_alloc | apply pw_below_drewN | apply below_drew1) | exact HB.out)) hb); clear HB; have HB := n0_; clear n0_; (try clear hb); (try clear hb2); (try clear hk); (try clear hi)))
      go_ret
      exact ⟨by first | rfl | (simp [errW_none, errW_some] <;> rfl) | (simp [*, errW_none, errW_some] <;> rfl), by repeat (first | (with_reducible first | exact HB.out | apply below_alloc | apply pw_below_drewN | apply below_drew1) | exact HB.out)⟩
    · replace c7 := Bool.eq_false_iff.mpr c7
      subst c7
      have H1 : (some false) = some r := by rw [if_neg (show ¬ (false = true) by decide)] at H; exact H
      clear H
      have H := H1
      clear H1
      obtain rfl := Option.some.inj H
      go_enter Try.func10, Try.ntmps10
      go_wp2_with (first | ((with_reducible refine gate_callee (f := 26) rfl ?_); refine goesL_ (some 8) rfl rfl Try.func26 (by kernel_rfl) rfl #[.slice A0 l0.length c0] rfl (by (try simp only [List.map_toArray, List.map_cons, List.map_nil]); first | done | rfl | (simp only [List.length_drop, List.length_take]; rfl)) ?_; (with_reducible refine (limelightref01_May.calls _ _ l0 true _ ?side1 ?side2 A4.out).mono ?_); (case side1 => repeat (first | exact HR0.out | (with_reducible refine Kd.C_alloc ?_ _) | (with_reducible refine Kd.C_drewN ?_ _) | (with_reducible refine Kd.C_drew ?_))); (case side2 => exact HC0.out); rintro e w12 ⟨rfl, hb⟩; refine ⟨_, rfl, ?_⟩; have n0_ := Aside0.mk (below_step (by repeat (first | (with_reducible first | exact HB.out | apply below_alloc | apply pw_below_drewN | apply below_drew1) | exact HB.out)) hb); clear HB; have HB := n0_; clear n0_; (try clear hb); (try clear hb2); (try clear hk); (try clear hi)) | (go_at_call 27; (with_reducible refine (limelightref01_Is.calls _ _ l0 a1 false _ ?side1 ?side2 A6.out).mono ?_); (case side1 => repeat (first | exact (Kd.C_below HR0.out HB.out) | (with_reducible refine Kd.C_alloc ?_ _) | (with_reducible refine Kd.C_drewN ?_ _) | (with_reducible refine Kd.C_drew ?_))); (case side2 => exact HC0.out); rintro e w13 ⟨rfl, hb⟩; have n0_ := Aside0.mk (below_step (by repeat (first | (with_reducible first | exact HB.out | apply below_alloc | apply pw_below_drewN | apply below_drew1) | exact HB.out)) hb); clear HB; have HB := n0_; clear n0_; (try clear hb); (try clear hb2); (try clear hk); (try clear hi)))
      go_ret
      exact ⟨by first | rfl | (simp [errW_none, errW_some] <;> rfl) | (simp [*, errW_none, errW_some] <;> rfl), by repeat (first | (with_reducible first | exact HB.out | apply below_alloc | apply pw_below_drewN | apply below_drew1) | exact HB.out)⟩
  · replace c5 := Bool.eq_false_iff.mpr c5
    subst c5
    have H1 : (some false) = some r := by rw [if_neg (show ¬ (false = true) by decide)] at H; exact H
    clear H
    have H := H1
    clear H1
    obtain rfl := Option.some.inj H
    go_enter Try.func10, Try.ntmps10
    go_wp2_with (first | ((with_reducible refine gate_callee (f := 26) rfl ?_); refine goesL_ (some 8) rfl rfl Try.func26 (by kernel_rfl) rfl #[.slice A0 l0.length c0] rfl (by (try simp only [List.map_toArray, List.map_cons, List.map_nil]); first | done | rfl | (simp only [List.length_drop, List.length_take]; rfl)) ?_; (with_reducible refine (limelightref01_May.calls _ _ l0 false _ ?side1 ?side2 A4.out).mono ?_); (case side1 => repeat (first | exact HR0.out | (with_reducible refine Kd.C_alloc ?_ _) | (with_reducible refine Kd.C_drewN ?_ _) | (with_reducible refine Kd.C_drew ?_))); (case side2 => exact HC0.out); rintro e w14 ⟨rfl, hb⟩; refine ⟨_, rfl, ?_⟩; have n0_ := Aside0.mk (below_step (by repeat (first | (with_reducible first | exact HB.out | apply below_alloc | apply pw_below_drewN | apply below_drew1) | exact HB.out)) hb); clear HB; have HB := n0_; clear n0_; (try clear hb); (try clear hb2); (try clear hk); (try clear hi)))
    go_ret
    exact ⟨by first | rfl | (simp [errW_none, errW_some] <;> rfl) | (simp [*, errW_none, errW_some] <;> rfl), by repeat (first | (with_reducible first | exact HB.out | apply below_alloc | apply pw_below_drewN | apply below_drew1) | exact HB.out)⟩

end Go.Proofs.Ythjpokmangbibaa.P
