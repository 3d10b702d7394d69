import Derived.Test.YtbdokcdnajdmaaaPx0
import Derived.Test.YtbdokcdnajdmaaaPx1
import Derived.Test.YtbdokcdnajdmaaaPx2
import Derived.Test.YtbdokcdnajdmaaaME
-- printed by wip/tools/pp.sh (a patched copy of the print's program), for this claim.
namespace Go.Proofs.Ytbdokcdnajdmaaa.P
open Go.RowKit Go.Proofs.YtbdokcdnajdmaaaW.PrintWords Go.Proofs.YtbdokcdnajdmaaaW.PrintLast Go.Proofs.YtbdokcdnajdmaaaW.PrintMore
attribute [local go_sem] max2_int min2_int max_two min_two max_three min_three max_four min_four   -- for this text's walks alone
set_option linter.unusedVariables false
set_option linter.unusedSimpArgs false

-- GIVEN: function 22 (limelightref01_Small): ME

/-! ### limelightref03_List: function 72 -/
mutual
def limelightref03_List.l0 : Nat → List (S53) → Int → List Int → Int → Option (List Int)
 | 0, _, _, _, _ => none
 | k + 1, x0, x1, x5, x6 => if 0 ≤ x1 then (if x1 < (x0.length : Int) then (if x6 < (((rd_T53 x0 x1).f3).length : Int) then (if 0 ≤ x6 then ((limelightref03_List.f k x0 (rd ((rd_T53 x0 x1).f3) x6)).bind fun t121 => (if x5.length + t121.length < 17592186044416 then (limelightref03_List.l0 k x0 x1 (x5 ++ t121) (wrap64 (x6 + 1))) else (none))) else (none)) else (some x5)) else (none)) else (none)
def limelightref03_List.f : Nat → List (S53) → Int → Option (List Int)
 | 0, _, _ => none
 | k + 1, l0, a1 => limelightref03_List.l0 k l0 a1 (([a1] : List Int)) 0
end
theorem limelightref03_List.mono_l : ∀ k, (∀ y0 y1, LeO (limelightref03_List.f k y0 y1) (limelightref03_List.f (k + 1) y0 y1)) ∧ (∀ y0 y1 y2 y3, LeO (limelightref03_List.l0 k y0 y1 y2 y3) (limelightref03_List.l0 (k + 1) y0 y1 y2 y3))
 | 0 => ⟨fun _ _ r h => by simp [limelightref03_List.f] at h, fun _ _ _ _ r h => by simp [limelightref03_List.l0] at h⟩
 | k + 1 => by
  obtain ⟨ih0, ih1⟩ := limelightref03_List.mono_l k
  refine ⟨?_, ?_⟩
  ·intro y0 y1
   unfold limelightref03_List.f
   repeat' first
   | (with_reducible exact ih0 _ _)
   | (with_reducible exact ih1 _ _ _ _)
   | (with_reducible exact LeO.refl _)
   | (with_reducible exact LeO.none _)
   | (with_reducible refine LeO.ite ?_ ?_)
   | (with_reducible refine LeO.bind ?_ (fun _ => ?_))
   | exact ih0 _ _
   | exact ih1 _ _ _ _
   | exact LeO.none _
   | refine LeO.ite ?_ ?_
   | refine LeO.bind ?_ (fun _ => ?_)
  ·intro y0 y1 y2 y3
   unfold limelightref03_List.l0
   repeat' first
   | (with_reducible exact ih0 _ _)
   | (with_reducible exact ih1 _ _ _ _)
   | (with_reducible exact LeO.refl _)
   | (with_reducible exact LeO.none _)
   | (with_reducible refine LeO.ite ?_ ?_)
   | (with_reducible refine LeO.bind ?_ (fun _ => ?_))
   | exact ih0 _ _
   | exact ih1 _ _ _ _
   | exact LeO.none _
   | refine LeO.ite ?_ ?_
   | refine LeO.bind ?_ (fun _ => ?_)
theorem limelightref03_List.mono : ∀ a0 a1 k, LeO (limelightref03_List.f k a0 a1) (limelightref03_List.f (k + 1) a0 a1) := by
 intro a0 a1 k
 obtain ⟨ih0, ih1⟩ := limelightref03_List.mono_l k
 exact ih0 a0 a1
set_option maxHeartbeats 8000000 in
set_option maxRecDepth 100000 in
theorem limelightref03_List.calls (k : Nat) : ∀ (A0 : Option Addr) (c0 : Nat) (l0 : List (S53)) (a1 : Int) (r : List Int) (w : World) (hr0 : Kd.C k53 w A0 l0.length l0) (hc0 : l0.length ≤ c0) (h : limelightref03_List.f k l0 a1 = some r),
  Calls Try.prog 72 #[.slice A0 l0.length c0, .int .i64 a1] w fun e w' => ∃ v0_ : Value, e = .returned (v0_) ∧ Kd.R (Kd.int .i64) 3 w' w.heap.size (fun _ => True) v0_ r ∧ Below w.heap.size w w' := by
 induction k using Nat.strongRecOn with
 | _ k ih =>
 intro A0 c0 l0 a1 r w hr0 hc0 h
 cases k with
 | zero => exact absurd h (by simp [limelightref03_List.f])
 | succ k =>
 simp only [limelightref03_List.f] at h
 have HR0 := Aside0.mk hr0
 have HC0 := Aside0.mk hc0
 clear hr0 hc0
 have HB := Aside0.mk (Below.refl w.heap.size w)
 have H : (limelightref03_List.l0 k l0 a1 (([a1] : List Int)) 0) = some r := h
 clear h
 obtain ⟨y115, hy115⟩ : ∃ y_ : List Int, y_ = (([a1] : List Int)) := ⟨_, rfl⟩
 replace H : (limelightref03_List.l0 k l0 a1 y115 0) = some r := by first | (rw [hy115]; with_reducible exact H) | (have H2_ := (Option.bind_some _ _).symm.trans H; rw [hy115]; with_reducible exact H2_) | (have H2_ := (Option.bind_some _ _).symm.trans H; with_reducible exact H2_) | with_reducible exact H | (rw [hy115]; exact H) | exact H
 have Ny115 := Aside0.mk hy115
 clear hy115
 have H' := Aside0.mk H
 clear H
 go_enter Try.func72, Try.ntmps72
 go_wp2_with (first | ((with_reducible refine gate_dst (N := 8) rfl ?_); refine Kd.R_lit (Kd.int .i64) _ 3 ?hg (N := 8) ?hd (xs := ([a1] : List Int)) (inner := [.int .i64 a1]) (ok := fun _ => True) (okp := fun _ => True) ?hr ?hp (fun _ hk => hk) trivial (Below.refl _ _) (Nat.le_refl _) (by simp) ?_; (case hd => rfl); (case hg => rfl); (case hr => first | (go_simp; done) | (go_simp; rfl)); (case hp => exact (Reps.one (show Kd.M (Kd.int .i64) _ _ _ a1 [.int .i64 a1] from rfl) (Reps.none _ _))); intro v116 w3 ho4 hb hg_ hnew_; clear hg_ hnew_; (first | rw [← Ny115.out] at ho4 | (simp only [Int.reduceToNat] at ho4; rw [← Ny115.out] at ho4)); have n0_ := Aside0.mk (Kd.R_lower ho4 (below_size bel_)); have n1_ := Aside0.mk (below_step bel_ hb); clear HB; have HO117 := n0_; have HB := n1_; clear n0_ n1_; clear hb ho4))
 go_loopg [5, 6] k (fun kq v5 v6 w' => ∃ (x5_1 : List Int) (x6_1 : Int), v6 = .int .i64 x6_1 ∧ Aside0 (limelightref03_List.l0 kq l0 a1 x5_1 x6_1 = some r) ∧ Aside0 (kq ≤ k) ∧ Aside0 (Kd.R (Kd.int .i64) 3 w' w.heap.size (fun _ => True) v5 x5_1) ∧ Aside0 (Below w.heap.size w w'))
 case atStart => exact ⟨(y115), (0), (by first | rfl | (simp; done) | (simp [*]; done)), H', ⟨Nat.le_refl _⟩, ⟨kra_ HO117.out⟩, ⟨bel_⟩⟩
 case round =>
  clear H'
  try clear p2
  obtain ⟨x5_1, x6_1, rfl, HA, HK1, HO_5, HB⟩ := hrel
  cases gk with
  | zero => exact absurd HA.out (by simp [limelightref03_List.l0])
  | succ k1 =>
   have H := HA.out
   clear HA
   simp only [limelightref03_List.l0] at H
   by_cases c5 : 0 ≤ a1
   ·rw [if_pos c5] at H
    have c5b0 : decide (0 ≤ a1) = true := decide_eq_true c5
    clear c5
    by_cases c6 : a1 < (l0.length : Int)
    ·rw [if_pos c6] at H
     have c6b0 : decide (a1 < (l0.length : Int)) = true := decide_eq_true c6
     clear c6
     by_cases c7 : x6_1 < (((rd_T53 l0 a1).f3).length : Int)
     ·rw [if_pos c7] at H
      have c7b0 : decide (x6_1 < (((rd_T53 l0 a1).f3).length : Int)) = true := decide_eq_true c7
      clear c7
      by_cases c8 : 0 ≤ x6_1
      ·rw [if_pos c8] at H
       have c8b0 : decide (0 ≤ x6_1) = true := decide_eq_true c8
       clear c8
       replace H := Option.bind_eq_some_iff.mp H
       obtain ⟨t121, A90, H⟩ := H
       replace H : (if x5_1.length + t121.length < 17592186044416 then (limelightref03_List.l0 k1 l0 a1 (x5_1 ++ t121) (wrap64 (x6_1 + 1))) else (none)) = some r := H
       have A9 := Aside0.mk A90
       clear A90
       by_cases c10 : x5_1.length + t121.length < 17592186044416
       ·rw [if_pos c10] at H
        have LMc10 := Aside0.mk c10
        clear c10
        obtain ⟨y124, hy124⟩ : ∃ y_ : List Int, y_ = (x5_1 ++ t121) := ⟨_, rfl⟩
        replace H : (limelightref03_List.l0 k1 l0 a1 y124 (wrap64 (x6_1 + 1))) = some r := by first | (rw [hy124]; with_reducible exact H) | (have H2_ := (Option.bind_some _ _).symm.trans H; rw [hy124]; with_reducible exact H2_) | (have H2_ := (Option.bind_some _ _).symm.trans H; with_reducible exact H2_) | with_reducible exact H | (rw [hy124]; exact H) | exact H
        have Ny124 := Aside0.mk hy124
        clear hy124
        have H' := Aside0.mk H
        clear H
        have p118 : 0 ≤ (a1 : Int) := of_decide_eq_true asm_
        have q118 : a1 < (l0.length : Int) := of_decide_eq_true asm_
        obtain ⟨ad118, A118_3, c118_3, A118_6, c118_6, e118, hx118_0, hx118_1, hx118_2, hx118_3, hx118_4, hx118_5, hx118_6, hl118_3, hi118_3, hl118_6, hi118_6⟩ := at_T53 HR0.out a1 p118 q118
        cases e118
        replace hx118_0 := (HB.out.cell (World.block_lt_of_cell? w _ hx118_0)).trans hx118_0
        replace hx118_1 := (HB.out.cell (World.block_lt_of_cell? w _ hx118_1)).trans hx118_1
        replace hx118_2 := (HB.out.cell (World.block_lt_of_cell? w _ hx118_2)).trans hx118_2
        replace hx118_3 := (HB.out.cell (World.block_lt_of_cell? w _ hx118_3)).trans hx118_3
        replace hx118_4 := (HB.out.cell (World.block_lt_of_cell? w _ hx118_4)).trans hx118_4
        replace hx118_5 := (HB.out.cell (World.block_lt_of_cell? w _ hx118_5)).trans hx118_5
        replace hx118_6 := (HB.out.cell (World.block_lt_of_cell? w _ hx118_6)).trans hx118_6
        have HR118_3 := Aside0.mk hi118_3
        have HC118_3 := Aside0.mk hl118_3
        clear hi118_3 hl118_3
        have HR118_6 := Aside0.mk hi118_6
        have HC118_6 := Aside0.mk hl118_6
        clear hi118_6 hl118_6
        replace p118 := eq_true p118
        replace q118 := eq_true q118
        have p119 : 0 ≤ (a1 : Int) := of_decide_eq_true asm_
        have q119 : a1 < (l0.length : Int) := of_decide_eq_true asm_
        obtain ⟨ad119, A119_3, c119_3, A119_6, c119_6, e119, hx119_0, hx119_1, hx119_2, hx119_3, hx119_4, hx119_5, hx119_6, hl119_3, hi119_3, hl119_6, hi119_6⟩ := at_T53 HR0.out a1 p119 q119
        obtain rfl : ad118 = ad119 := (by injection e119)
        replace hx119_0 := (HB.out.cell (World.block_lt_of_cell? w _ hx119_0)).trans hx119_0
        replace hx119_1 := (HB.out.cell (World.block_lt_of_cell? w _ hx119_1)).trans hx119_1
        replace hx119_2 := (HB.out.cell (World.block_lt_of_cell? w _ hx119_2)).trans hx119_2
        replace hx119_3 := (HB.out.cell (World.block_lt_of_cell? w _ hx119_3)).trans hx119_3
        replace hx119_4 := (HB.out.cell (World.block_lt_of_cell? w _ hx119_4)).trans hx119_4
        replace hx119_5 := (HB.out.cell (World.block_lt_of_cell? w _ hx119_5)).trans hx119_5
        replace hx119_6 := (HB.out.cell (World.block_lt_of_cell? w _ hx119_6)).trans hx119_6
        have HR119_3 := Aside0.mk hi119_3
        have HC119_3 := Aside0.mk hl119_3
        clear hi119_3 hl119_3
        have HR119_6 := Aside0.mk hi119_6
        have HC119_6 := Aside0.mk hl119_6
        clear hi119_6 hl119_6
        replace p119 := eq_true p119
        replace q119 := eq_true q119
        have ea_ := Option.some.inj (hx118_3.symm.trans hx119_3)
        injection ea_ with ea_ en_ ec_
        subst ea_
        subst ec_
        clear en_
        have ea_ := Option.some.inj (hx118_6.symm.trans hx119_6)
        injection ea_ with ea_ en_ ec_
        subst ea_
        subst ec_
        clear en_
        have p120 : 0 ≤ (x6_1 : Int) := of_decide_eq_true asm_
        have q120 : x6_1 < (((rd_T53 l0 a1).f3).length : Int) := of_decide_eq_true asm_
        obtain ⟨ad120, e120, hx120_0⟩ := Kd.at_int HR119_3.out x6_1 p120 q120
        cases e120
        replace hx120_0 := (HB.out.cell (World.block_lt_of_cell? w _ hx120_0)).trans hx120_0
        replace p120 := eq_true p120
        replace q120 := eq_true q120
        go_wp2_with (first | ((with_reducible refine gate_callee (f := 72) rfl ?_); refine goesL_ (some 29) rfl rfl Try.func72 (by kernel_rfl) rfl #[.slice (some ad118) l0.length c0, .int .i64 (rd ((rd_T53 l0 a1).f3) x6_1)] rfl margs_ ?_; (with_reducible refine (ih k1 (by have := HK1.out; omega) _ _ l0 (rd ((rd_T53 l0 a1).f3) x6_1) t121 _ ?side1 ?side2 A9.out).mono ?_); (case side1 => exact kcb_ ((Kd.C_below HR0.out HB.out))); (case side2 => exact HC0.out); rintro e w11 ⟨v122, rfl, ho0, hb⟩; refine ⟨_, rfl, ?_⟩; have n0_ := Aside0.mk (Kd.R_elder' (kra_ HO_5.out) (Kd.R_base ho0) hb); have n1_ := Aside0.mk (Kd.R_lower (Kd.R_new' ho0 (Kd.R_lt (kra_ HO_5.out))) (below_size bel_)); have n2_ := Aside0.mk (below_step bel_ hb); clear HO_5; clear HB; have HO_5 := n0_; have HO123 := n1_; have HB := n2_; clear n0_ n1_ n2_; (try clear hb); (try clear hb2); (try clear hk); (try clear hi); (try clear ho0); obtain ⟨Ao13, co13, eo13⟩ := Kd.R_slice HO123.out; subst eo13) | ((with_reducible refine gate_builtin (b := .append) (xs := #[.tmp 19, .tmp 29]) rfl ?_); at_builtin; refine Kd.R_append_rows (Kd.int .i64) (w0 := w) w.heap.size rfl (.tmp 19) (.tmp 29) 50 3 (.int .i64 0) 8 rfl Try.underlying50 info3 rfl (by decide) (by omega) u5 x5_1 t121 _ _ _ (fun k_ => some k_ ≠ (.slice Ao13 t121.length co13 : Value).ownBlock) (fun _ => False) rfl rfl ?aO ?aR (fun _ _ h => h) (fun _ h => h.elim) ?aF ?aB ?aS ?aL ?_; (case aR => repeat (first | exact (Kd.R_reads' HO123.out).2.2 | (with_reducible refine Kd.C_alloc ?_ _) | (with_reducible refine Kd.C_drewN ?_ _) | (with_reducible refine Kd.C_drew ?_))); (case aB => exact bel_); (case aF => exact (fun k_ hk => Kd.fresh' (Kd.R_lt (kra_ HO123.out)) k_ hk)); (case aO => exact (by (with_reducible repeat (first | apply Kd.R_alloc | apply Kd.R_drewN | apply Kd.R_drew)); exact Kd.R_mono HO_5.out (fun _ hk => hk.2))); (case aS => exact (below_size bel_)); (case aL => have := LMc10.out; omega); intro v125 w12 ho hb hg hat; rw [← Ny124.out] at ho; have n0_ := Aside0.mk (Kd.R_after (ok := (fun _ => True)) (kra_ HO123.out) hg hat); have n1_ := Aside0.mk (hb); have n2_ := Aside0.mk (ho); clear HO123; clear HB; clear HO_5; have HO123 := n0_; have HB := n1_; have HO126 := n2_; clear n0_ n1_ n2_; clear ho hb hg hat))
        go_roundg k1
        case measure => have := HK1.out; omega
        case rel => exact ⟨(y124), (wrap64 (x6_1 + 1)), (by first | rfl | (simp; done) | (simp [*]; done)), H', ⟨by have := HK1.out; omega⟩, ⟨by (with_reducible repeat (first | apply Kd.R_alloc | apply Kd.R_drewN | apply Kd.R_drew)); exact Kd.R_mono HO126.out (fun _ hk => trivial)⟩, ⟨bel_⟩⟩
       ·rw [if_neg c10] at H
        exact absurd H (by simp)
      ·rw [if_neg c8] at H
       exact absurd H (by simp)
     ·rw [if_neg c7] at H
      have c7b0 : decide (x6_1 < (((rd_T53 l0 a1).f3).length : Int)) = false := decide_eq_false c7
      clear c7
      obtain rfl := Option.some.inj H
      have p118 : 0 ≤ (a1 : Int) := of_decide_eq_true asm_
      have q118 : a1 < (l0.length : Int) := of_decide_eq_true asm_
      obtain ⟨ad118, A118_3, c118_3, A118_6, c118_6, e118, hx118_0, hx118_1, hx118_2, hx118_3, hx118_4, hx118_5, hx118_6, hl118_3, hi118_3, hl118_6, hi118_6⟩ := at_T53 HR0.out a1 p118 q118
      cases e118
      replace hx118_0 := (HB.out.cell (World.block_lt_of_cell? w _ hx118_0)).trans hx118_0
      replace hx118_1 := (HB.out.cell (World.block_lt_of_cell? w _ hx118_1)).trans hx118_1
      replace hx118_2 := (HB.out.cell (World.block_lt_of_cell? w _ hx118_2)).trans hx118_2
      replace hx118_3 := (HB.out.cell (World.block_lt_of_cell? w _ hx118_3)).trans hx118_3
      replace hx118_4 := (HB.out.cell (World.block_lt_of_cell? w _ hx118_4)).trans hx118_4
      replace hx118_5 := (HB.out.cell (World.block_lt_of_cell? w _ hx118_5)).trans hx118_5
      replace hx118_6 := (HB.out.cell (World.block_lt_of_cell? w _ hx118_6)).trans hx118_6
      have HR118_3 := Aside0.mk hi118_3
      have HC118_3 := Aside0.mk hl118_3
      clear hi118_3 hl118_3
      have HR118_6 := Aside0.mk hi118_6
      have HC118_6 := Aside0.mk hl118_6
      clear hi118_6 hl118_6
      replace p118 := eq_true p118
      replace q118 := eq_true q118
      go_wp2
      go_ret
      exact ⟨_, by first | rfl | (simp [errW_none, errW_some] <;> rfl) | (simp [*, errW_none, errW_some] <;> rfl), kra_ HO_5.out, bel_⟩
    ·rw [if_neg c6] at H
     exact absurd H (by simp)
   ·rw [if_neg c5] at H
    exact absurd H (by simp)

/-! ### limelightref05_Is: function 73 -/
def limelightref05_Is.f (k : Nat) (l0 : List (S53)) (a1 : Int) : Option (Bool) := if 0 ≤ a1 then (if a1 < (l0.length : Int) then (if ((rd_T53 l0 a1).f0) = 1 then (if ((rd_T53 l0 a1).f1) = 3 then ((limelightref03_Top.f k l0 a1).bind fun t129 => (if 0 ≤ t129 then (if t129 < (l0.length : Int) then (some (((rd_T53 l0 t129).f0) == 3)) else (none)) else (none))) else (some false)) else (some false)) else (none)) else (none)
theorem limelightref05_Is.mono : ∀ a0 a1 k, LeO (limelightref05_Is.f k a0 a1) (limelightref05_Is.f (k + 1) a0 a1) := by
 intro a0 a1 k
 unfold limelightref05_Is.f
 repeat' first
   | (with_reducible exact limelightref03_Top.mono _ _ _)
   | (with_reducible exact LeO.refl _)
   | (with_reducible exact LeO.none _)
   | (with_reducible refine LeO.ite ?_ ?_)
   | (with_reducible refine LeO.bind ?_ (fun _ => ?_))
   | exact limelightref03_Top.mono _ _ _
   | exact LeO.none _
   | refine LeO.ite ?_ ?_
   | refine LeO.bind ?_ (fun _ => ?_)
set_option maxHeartbeats 8000000 in
set_option maxRecDepth 100000 in
theorem limelightref05_Is.calls (k : Nat) (A0 : Option Addr) (c0 : Nat) (l0 : List (S53)) (a1 : Int) (r : Bool) (w : World) (hr0 : Kd.C k53 w A0 l0.length l0) (hc0 : l0.length ≤ c0) (h : limelightref05_Is.f k l0 a1 = some r) :
  Calls Try.prog 73 #[.slice A0 l0.length c0, .int .i64 a1] w fun e w' => e = .returned (.bool r) ∧ Below w.heap.size w w' := by
 have HR0 := Aside0.mk hr0
 have HC0 := Aside0.mk hc0
 clear hr0 hc0
 have HB := Aside0.mk (Below.refl w.heap.size w)
 have H : (if 0 ≤ a1 then (if a1 < (l0.length : Int) then (if ((rd_T53 l0 a1).f0) = 1 then (if ((rd_T53 l0 a1).f1) = 3 then ((limelightref03_Top.f k l0 a1).bind fun t129 => (if 0 ≤ t129 then (if t129 < (l0.length : Int) then (some (((rd_T53 l0 t129).f0) == 3)) else (none)) else (none))) else (some false)) else (some false)) else (none)) else (none)) = some r := h
 clear h
 by_cases c3 : 0 ≤ a1
 ·rw [if_pos c3] at H
  have c3b0 : decide (0 ≤ a1) = true := decide_eq_true c3
  clear c3
  by_cases c4 : a1 < (l0.length : Int)
  ·rw [if_pos c4] at H
   have c4b0 : decide (a1 < (l0.length : Int)) = true := decide_eq_true c4
   clear c4
   by_cases c5 : ((rd_T53 l0 a1).f0) = 1
   ·rw [if_pos c5] at H
    have c5b0 : (((rd_T53 l0 a1).f0) == 1) = true := beq_iff_eq.mpr c5
    have c5b1 : (((rd_T53 l0 a1).f0) != 1) = false := bne_eq_false_iff_eq.mpr c5
    clear c5
    by_cases c6 : ((rd_T53 l0 a1).f1) = 3
    ·rw [if_pos c6] at H
     have c6b0 : (((rd_T53 l0 a1).f1) == 3) = true := beq_iff_eq.mpr c6
     have c6b1 : (((rd_T53 l0 a1).f1) != 3) = false := bne_eq_false_iff_eq.mpr c6
     clear c6
     replace H := Option.bind_eq_some_iff.mp H
     obtain ⟨t129, A70, H⟩ := H
     replace H : (if 0 ≤ t129 then (if t129 < (l0.length : Int) then (some (((rd_T53 l0 t129).f0) == 3)) else (none)) else (none)) = some r := H
     have A7 := Aside0.mk A70
     clear A70
     by_cases c8 : 0 ≤ t129
     ·rw [if_pos c8] at H
      have c8b0 : decide (0 ≤ t129) = true := decide_eq_true c8
      clear c8
      by_cases c9 : t129 < (l0.length : Int)
      ·rw [if_pos c9] at H
       have c9b0 : decide (t129 < (l0.length : Int)) = true := decide_eq_true c9
       clear c9
       obtain rfl := Option.some.inj H
       have p127 : 0 ≤ (a1 : Int) := of_decide_eq_true asm_
       have q127 : a1 < (l0.length : Int) := of_decide_eq_true asm_
       obtain ⟨ad127, A127_3, c127_3, A127_6, c127_6, e127, hx127_0, hx127_1, hx127_2, hx127_3, hx127_4, hx127_5, hx127_6, hl127_3, hi127_3, hl127_6, hi127_6⟩ := at_T53 HR0.out a1 p127 q127
       cases e127
       have HR127_3 := Aside0.mk hi127_3
       have HC127_3 := Aside0.mk hl127_3
       clear hi127_3 hl127_3
       have HR127_6 := Aside0.mk hi127_6
       have HC127_6 := Aside0.mk hl127_6
       clear hi127_6 hl127_6
       replace p127 := eq_true p127
       replace q127 := eq_true q127
       have p128 : 0 ≤ (a1 : Int) := of_decide_eq_true asm_
       have q128 : a1 < (l0.length : Int) := of_decide_eq_true asm_
       obtain ⟨ad128, A128_3, c128_3, A128_6, c128_6, e128, hx128_0, hx128_1, hx128_2, hx128_3, hx128_4, hx128_5, hx128_6, hl128_3, hi128_3, hl128_6, hi128_6⟩ := at_T53 HR0.out a1 p128 q128
       obtain rfl : ad127 = ad128 := (by injection e128)
       have HR128_3 := Aside0.mk hi128_3
       have HC128_3 := Aside0.mk hl128_3
       clear hi128_3 hl128_3
       have HR128_6 := Aside0.mk hi128_6
       have HC128_6 := Aside0.mk hl128_6
       clear hi128_6 hl128_6
       replace p128 := eq_true p128
       replace q128 := eq_true q128
       have ea_ := Option.some.inj (hx127_3.symm.trans hx128_3)
       injection ea_ with ea_ en_ ec_
       subst ea_
       subst ec_
       clear en_
       have ea_ := Option.some.inj (hx127_6.symm.trans hx128_6)
       injection ea_ with ea_ en_ ec_
       subst ea_
       subst ec_
       clear en_
       go_enter Try.func73, Try.ntmps73
       go_wp2_with (first | (go_at_call 20; (with_reducible refine (limelightref03_Top.calls k _ _ l0 a1 t129 _ ?side1 ?side2 A7.out).mono ?_); (case side1 => exact kcb_ (HR0.out)); (case side2 => exact HC0.out); rintro e w10 ⟨rfl, hb⟩; have n0_ := Aside0.mk (below_step bel_ hb); clear HB; have HB := n0_; clear n0_; (try clear hb); (try clear hb2); (try clear hk); (try clear hi); have p130 : 0 ≤ (t129 : Int) := of_decide_eq_true asm_; have q130 : t129 < (l0.length : Int) := of_decide_eq_true asm_; obtain ⟨ad130, A130_3, c130_3, A130_6, c130_6, e130, hx130_0, hx130_1, hx130_2, hx130_3, hx130_4, hx130_5, hx130_6, hl130_3, hi130_3, hl130_6, hi130_6⟩ := at_T53 HR0.out t129 p130 q130; obtain rfl : ad127 = ad130 := (by injection e130); replace hx130_0 := (HB.out.cell (World.block_lt_of_cell? w _ hx130_0)).trans hx130_0; replace hx130_1 := (HB.out.cell (World.block_lt_of_cell? w _ hx130_1)).trans hx130_1; replace hx130_2 := (HB.out.cell (World.block_lt_of_cell? w _ hx130_2)).trans hx130_2; replace hx130_3 := (HB.out.cell (World.block_lt_of_cell? w _ hx130_3)).trans hx130_3; replace hx130_4 := (HB.out.cell (World.block_lt_of_cell? w _ hx130_4)).trans hx130_4; replace hx130_5 := (HB.out.cell (World.block_lt_of_cell? w _ hx130_5)).trans hx130_5; replace hx130_6 := (HB.out.cell (World.block_lt_of_cell? w _ hx130_6)).trans hx130_6; have HR130_3 := Aside0.mk hi130_3; have HC130_3 := Aside0.mk hl130_3; clear hi130_3 hl130_3; have HR130_6 := Aside0.mk hi130_6; have HC130_6 := Aside0.mk hl130_6; clear hi130_6 hl130_6; replace p130 := eq_true p130; replace q130 := eq_true q130))
       go_ret
       exact ⟨by first | rfl | (simp [errW_none, errW_some] <;> rfl) | (simp [*, errW_none, errW_some] <;> rfl), bel_⟩
      ·rw [if_neg c9] at H
       exact absurd H (by simp)
     ·rw [if_neg c8] at H
      exact absurd H (by simp)
    ·rw [if_neg c6] at H
     have c6b0 : (((rd_T53 l0 a1).f1) == 3) = false := beq_eq_false_iff_ne.mpr c6
     have c6b1 : (((rd_T53 l0 a1).f1) != 3) = true := bne_iff_ne.mpr c6
     obtain rfl := Option.some.inj H
     have p127 : 0 ≤ (a1 : Int) := of_decide_eq_true asm_
     have q127 : a1 < (l0.length : Int) := of_decide_eq_true asm_
     obtain ⟨ad127, A127_3, c127_3, A127_6, c127_6, e127, hx127_0, hx127_1, hx127_2, hx127_3, hx127_4, hx127_5, hx127_6, hl127_3, hi127_3, hl127_6, hi127_6⟩ := at_T53 HR0.out a1 p127 q127
     cases e127
     have HR127_3 := Aside0.mk hi127_3
     have HC127_3 := Aside0.mk hl127_3
     clear hi127_3 hl127_3
     have HR127_6 := Aside0.mk hi127_6
     have HC127_6 := Aside0.mk hl127_6
     clear hi127_6 hl127_6
     replace p127 := eq_true p127
     replace q127 := eq_true q127
     have p128 : 0 ≤ (a1 : Int) := of_decide_eq_true asm_
     have q128 : a1 < (l0.length : Int) := of_decide_eq_true asm_
     obtain ⟨ad128, A128_3, c128_3, A128_6, c128_6, e128, hx128_0, hx128_1, hx128_2, hx128_3, hx128_4, hx128_5, hx128_6, hl128_3, hi128_3, hl128_6, hi128_6⟩ := at_T53 HR0.out a1 p128 q128
     obtain rfl : ad127 = ad128 := (by injection e128)
     have HR128_3 := Aside0.mk hi128_3
     have HC128_3 := Aside0.mk hl128_3
     clear hi128_3 hl128_3
     have HR128_6 := Aside0.mk hi128_6
     have HC128_6 := Aside0.mk hl128_6
     clear hi128_6 hl128_6
     replace p128 := eq_true p128
     replace q128 := eq_true q128
     have ea_ := Option.some.inj (hx127_3.symm.trans hx128_3)
     injection ea_ with ea_ en_ ec_
     subst ea_
     subst ec_
     clear en_
     have ea_ := Option.some.inj (hx127_6.symm.trans hx128_6)
     injection ea_ with ea_ en_ ec_
     subst ea_
     subst ec_
     clear en_
     go_enter Try.func73, Try.ntmps73
     go_wp2
     go_ret
     exact ⟨by first | rfl | (simp [errW_none, errW_some] <;> rfl) | (simp [*, errW_none, errW_some] <;> rfl), bel_⟩
   ·rw [if_neg c5] at H
    have c5b0 : (((rd_T53 l0 a1).f0) == 1) = false := beq_eq_false_iff_ne.mpr c5
    have c5b1 : (((rd_T53 l0 a1).f0) != 1) = true := bne_iff_ne.mpr c5
    obtain rfl := Option.some.inj H
    have p127 : 0 ≤ (a1 : Int) := of_decide_eq_true asm_
    have q127 : a1 < (l0.length : Int) := of_decide_eq_true asm_
    obtain ⟨ad127, A127_3, c127_3, A127_6, c127_6, e127, hx127_0, hx127_1, hx127_2, hx127_3, hx127_4, hx127_5, hx127_6, hl127_3, hi127_3, hl127_6, hi127_6⟩ := at_T53 HR0.out a1 p127 q127
    cases e127
    have HR127_3 := Aside0.mk hi127_3
    have HC127_3 := Aside0.mk hl127_3
    clear hi127_3 hl127_3
    have HR127_6 := Aside0.mk hi127_6
    have HC127_6 := Aside0.mk hl127_6
    clear hi127_6 hl127_6
    replace p127 := eq_true p127
    replace q127 := eq_true q127
    go_enter Try.func73, Try.ntmps73
    go_wp2
    go_ret
    exact ⟨by first | rfl | (simp [errW_none, errW_some] <;> rfl) | (simp [*, errW_none, errW_some] <;> rfl), bel_⟩
  ·rw [if_neg c4] at H
   exact absurd H (by simp)
 ·rw [if_neg c3] at H
  exact absurd H (by simp)

/-! ### limelightref05_All: function 51 -/
def limelightref05_All.l0 : Nat → List (S53) → List Int → List Int → Int → Option (List Int)
 | 0, _, _, _, _ => none
 | k + 1, x0, x5, x6, x7 => if x7 < (x6.length : Int) then (if 0 ≤ x7 then ((limelightref05_Is.f k x0 (rd x6 x7)).bind fun t136 => (if t136 = true then (if x5.length < 17592186044416 then (limelightref05_All.l0 k x0 (x5 ++ [rd x6 x7]) x6 (wrap64 (x7 + 1))) else (none)) else (limelightref05_All.l0 k x0 x5 x6 (wrap64 (x7 + 1))))) else (none)) else (some x5)
def limelightref05_All.f (k : Nat) (l0 : List (S53)) (a1 : Int) : Option (List Int) := if 0 ≤ a1 then (if a1 < (l0.length : Int) then (if ((rd_T53 l0 a1).f0) = 3 then ((limelightref03_List.f k l0 a1).bind fun t132 => (limelightref05_All.l0 k l0 ([] : List Int) t132 0)) else (some ([] : List Int))) else (none)) else (none)
theorem limelightref05_All.mono_l : ∀ k, (∀ y0 y1 y2 y3, LeO (limelightref05_All.l0 k y0 y1 y2 y3) (limelightref05_All.l0 (k + 1) y0 y1 y2 y3))
 | 0 => fun _ _ _ _ r h => by simp [limelightref05_All.l0] at h
 | k + 1 => by
  have ih0 := limelightref05_All.mono_l k
  ·intro y0 y1 y2 y3
   unfold limelightref05_All.l0
   repeat' first
   | (with_reducible exact ih0 _ _ _ _)
   | (with_reducible exact limelightref03_List.mono _ _ _)
   | (with_reducible exact limelightref05_Is.mono _ _ _)
   | (with_reducible exact LeO.refl _)
   | (with_reducible exact LeO.none _)
   | (with_reducible refine LeO.ite ?_ ?_)
   | (with_reducible refine LeO.bind ?_ (fun _ => ?_))
   | exact ih0 _ _ _ _
   | exact limelightref03_List.mono _ _ _
   | exact limelightref05_Is.mono _ _ _
   | exact LeO.none _
   | refine LeO.ite ?_ ?_
   | refine LeO.bind ?_ (fun _ => ?_)
theorem limelightref05_All.mono : ∀ a0 a1 k, LeO (limelightref05_All.f k a0 a1) (limelightref05_All.f (k + 1) a0 a1) := by
 intro a0 a1 k
 have ih0 := limelightref05_All.mono_l k
 unfold limelightref05_All.f
 repeat' first
   | (with_reducible exact ih0 _ _ _ _)
   | (with_reducible exact limelightref03_List.mono _ _ _)
   | (with_reducible exact limelightref05_Is.mono _ _ _)
   | (with_reducible exact LeO.refl _)
   | (with_reducible exact LeO.none _)
   | (with_reducible refine LeO.ite ?_ ?_)
   | (with_reducible refine LeO.bind ?_ (fun _ => ?_))
   | exact ih0 _ _ _ _
   | exact limelightref03_List.mono _ _ _
   | exact limelightref05_Is.mono _ _ _
   | exact LeO.none _
   | refine LeO.ite ?_ ?_
   | refine LeO.bind ?_ (fun _ => ?_)
set_option maxHeartbeats 8000000 in
set_option maxRecDepth 100000 in
theorem limelightref05_All.calls (k : Nat) (A0 : Option Addr) (c0 : Nat) (l0 : List (S53)) (a1 : Int) (r : List Int) (w : World) (hr0 : Kd.C k53 w A0 l0.length l0) (hc0 : l0.length ≤ c0) (h : limelightref05_All.f k l0 a1 = some r) :
  Calls Try.prog 51 #[.slice A0 l0.length c0, .int .i64 a1] w fun e w' => ∃ v0_ : Value, e = .returned (v0_) ∧ Kd.R (Kd.int .i64) 3 w' w.heap.size (fun _ => True) v0_ r ∧ Below w.heap.size w w' := by
 have HR0 := Aside0.mk hr0
 have HC0 := Aside0.mk hc0
 clear hr0 hc0
 have HB := Aside0.mk (Below.refl w.heap.size w)
 have H : (if 0 ≤ a1 then (if a1 < (l0.length : Int) then (if ((rd_T53 l0 a1).f0) = 3 then ((limelightref03_List.f k l0 a1).bind fun t132 => (limelightref05_All.l0 k l0 ([] : List Int) t132 0)) else (some ([] : List Int))) else (none)) else (none)) = some r := h
 clear h
 by_cases c3 : 0 ≤ a1
 ·rw [if_pos c3] at H
  have c3b0 : decide (0 ≤ a1) = true := decide_eq_true c3
  clear c3
  by_cases c4 : a1 < (l0.length : Int)
  ·rw [if_pos c4] at H
   have c4b0 : decide (a1 < (l0.length : Int)) = true := decide_eq_true c4
   clear c4
   by_cases c5 : ((rd_T53 l0 a1).f0) = 3
   ·rw [if_pos c5] at H
    have c5b0 : (((rd_T53 l0 a1).f0) == 3) = true := beq_iff_eq.mpr c5
    have c5b1 : (((rd_T53 l0 a1).f0) != 3) = false := bne_eq_false_iff_eq.mpr c5
    clear c5
    replace H := Option.bind_eq_some_iff.mp H
    obtain ⟨t132, A60, H⟩ := H
    replace H : (limelightref05_All.l0 k l0 ([] : List Int) t132 0) = some r := H
    have A6 := Aside0.mk A60
    clear A60
    have H' := Aside0.mk H
    clear H
    have p131 : 0 ≤ (a1 : Int) := of_decide_eq_true asm_
    have q131 : a1 < (l0.length : Int) := of_decide_eq_true asm_
    obtain ⟨ad131, A131_3, c131_3, A131_6, c131_6, e131, hx131_0, hx131_1, hx131_2, hx131_3, hx131_4, hx131_5, hx131_6, hl131_3, hi131_3, hl131_6, hi131_6⟩ := at_T53 HR0.out a1 p131 q131
    cases e131
    have HR131_3 := Aside0.mk hi131_3
    have HC131_3 := Aside0.mk hl131_3
    clear hi131_3 hl131_3
    have HR131_6 := Aside0.mk hi131_6
    have HC131_6 := Aside0.mk hl131_6
    clear hi131_6 hl131_6
    replace p131 := eq_true p131
    replace q131 := eq_true q131
    go_enter Try.func51, Try.ntmps51
    go_wp2_with (first | ((with_reducible refine gate_callee (f := 72) rfl ?_); refine goesL_ (some 17) rfl rfl Try.func72 (by kernel_rfl) rfl #[.slice (some ad131) l0.length c0, .int .i64 a1] rfl margs_ ?_; (with_reducible refine (limelightref03_List.calls k _ _ l0 a1 t132 _ ?side1 ?side2 A6.out).mono ?_); (case side1 => exact kcb_ (HR0.out)); (case side2 => exact HC0.out); rintro e w7 ⟨v133, rfl, ho0, hb⟩; refine ⟨_, rfl, ?_⟩; have n0_ := Aside0.mk (Kd.R_lower ho0 (below_size bel_)); have n1_ := Aside0.mk (below_step bel_ hb); clear HB; have HO134 := n0_; have HB := n1_; clear n0_ n1_; (try clear hb); (try clear hb2); (try clear hk); (try clear hi); (try clear ho0)))
    go_loopg [5, 7] k (fun kq v5 v7 w' => ∃ (x5_1 : List Int) (x7_1 : Int), v7 = .int .i64 x7_1 ∧ Aside0 (limelightref05_All.l0 kq l0 x5_1 t132 x7_1 = some r) ∧ Aside0 (kq ≤ k) ∧ Aside0 (Kd.R (Kd.int .i64) 3 w' w.heap.size (fun k_ => some k_ ≠ (v133 : Value).ownBlock) v5 x5_1) ∧ Aside0 (Kd.R (Kd.int .i64) 3 w' w.heap.size (fun k_ => some k_ ≠ (v5 : Value).ownBlock) v133 t132) ∧ Aside0 (Below w.heap.size w w'))
    case atStart => exact ⟨(([] : List Int)), (0), (by first | rfl | (simp; done) | (simp [*]; done)), H', ⟨Nat.le_refl _⟩, ⟨by first | exact Kd.R_nil _ _ _ _ _ | exact Kd.N_nil _ _ _ _ _ | exact Kd.V_nil _ _ _ _ _ | exact Kd.Q_nil _ _ _ _ _ | exact Kd.S_nil _ _ _ _ _⟩, ⟨by (with_reducible repeat (first | apply Kd.R_alloc | apply Kd.R_drewN | apply Kd.R_drew)); exact Kd.R_mono HO134.out (fun _ hk => (by simp [Value.ownBlock]))⟩, ⟨bel_⟩⟩
    case round =>
     clear H'
     try clear c1
     try clear p1
     try clear q1
     try clear hx1
     try clear p2
     try clear c3
     try clear c3b0
     try clear c4
     try clear c4b0
     try clear c5
     try clear c5b0
     try clear c5b1
     try clear c7
     try clear hx131_0
     try clear hx131_1
     try clear hx131_2
     try clear hx131_3
     try clear hx131_4
     try clear hx131_5
     try clear hx131_6
     try clear p131
     try clear q131
     obtain ⟨x5_1, x7_1, rfl, HA, HK1, HO_5, HO_6, HB⟩ := hrel
     cases gk with
     | zero => exact absurd HA.out (by simp [limelightref05_All.l0])
     | succ k1 =>
      have H := HA.out
      clear HA
      simp only [limelightref05_All.l0] at H
      by_cases c8 : x7_1 < (t132.length : Int)
      ·rw [if_pos c8] at H
       have c8b0 : decide (x7_1 < (t132.length : Int)) = true := decide_eq_true c8
       clear c8
       by_cases c9 : 0 ≤ x7_1
       ·rw [if_pos c9] at H
        have c9b0 : decide (0 ≤ x7_1) = true := decide_eq_true c9
        clear c9
        replace H := Option.bind_eq_some_iff.mp H
        obtain ⟨t136, A100, H⟩ := H
        replace H : (if t136 = true then (if x5_1.length < 17592186044416 then (limelightref05_All.l0 k1 l0 (x5_1 ++ [rd t132 x7_1]) t132 (wrap64 (x7_1 + 1))) else (none)) else (limelightref05_All.l0 k1 l0 x5_1 t132 (wrap64 (x7_1 + 1)))) = some r := H
        have A10 := Aside0.mk A100
        clear A100
        by_cases c11 : t136 = true
        ·subst c11
         have H1 : (if x5_1.length < 17592186044416 then (limelightref05_All.l0 k1 l0 (x5_1 ++ [rd t132 x7_1]) t132 (wrap64 (x7_1 + 1))) else (none)) = some r := by rw [if_pos rfl] at H; exact H
         clear H
         have H := H1
         clear H1
         by_cases c12 : x5_1.length < 17592186044416
         ·rw [if_pos c12] at H
          have LMc12 := Aside0.mk c12
          clear c12
          obtain ⟨y138, hy138⟩ : ∃ y_ : List Int, y_ = (x5_1 ++ [rd t132 x7_1]) := ⟨_, rfl⟩
          replace H : (limelightref05_All.l0 k1 l0 y138 t132 (wrap64 (x7_1 + 1))) = some r := by first | (rw [hy138]; with_reducible exact H) | (have H2_ := (Option.bind_some _ _).symm.trans H; rw [hy138]; with_reducible exact H2_) | (have H2_ := (Option.bind_some _ _).symm.trans H; with_reducible exact H2_) | with_reducible exact H | (rw [hy138]; exact H) | exact H
          have Ny138 := Aside0.mk hy138
          clear hy138
          have H' := Aside0.mk H
          clear H
          obtain ⟨Ao13, co13, eo13⟩ := Kd.R_slice HO_6.out
          subst eo13
          have p135 : 0 ≤ (x7_1 : Int) := of_decide_eq_true asm_
          have q135 : x7_1 < (t132.length : Int) := of_decide_eq_true asm_
          obtain ⟨ad135, e135, hx135_0⟩ := Kd.at_int (Kd.R_reads' HO_6.out).2.2 x7_1 p135 q135
          cases e135
          replace p135 := eq_true p135
          replace q135 := eq_true q135
          go_wp2_with (first | ((with_reducible refine gate_callee (f := 73) rfl ?_); refine goesL_ (some 29) rfl rfl Try.func73 (by kernel_rfl) rfl #[.slice (some ad131) l0.length c0, .int .i64 (rd t132 x7_1)] rfl margs_ ?_; (with_reducible refine (limelightref05_Is.calls k1 _ _ l0 (rd t132 x7_1) true _ ?side1 ?side2 A10.out).mono ?_); (case side1 => exact kcb_ ((Kd.C_below HR0.out HB.out))); (case side2 => exact HC0.out); rintro e w14 ⟨rfl, hb⟩; refine ⟨_, rfl, ?_⟩; have n0_ := Aside0.mk (Kd.R_below (kra_ HO_5.out) hb); have n1_ := Aside0.mk (Kd.R_below (kra_ HO_6.out) hb); have n2_ := Aside0.mk (below_step bel_ hb); clear HO_5; clear HO_6; clear HB; have HO_5 := n0_; have HO_6 := n1_; have HB := n2_; clear n0_ n1_ n2_; (try clear hb); (try clear hb2); (try clear hk); (try clear hi); have p137 : 0 ≤ (x7_1 : Int) := of_decide_eq_true asm_; have q137 : x7_1 < (t132.length : Int) := of_decide_eq_true asm_; obtain ⟨ad137, e137, hx137_0⟩ := Kd.at_int (Kd.R_reads' HO_6.out).2.2 x7_1 p137 q137; obtain rfl : ad135 = ad137 := (by injection e137); replace p137 := eq_true p137; replace q137 := eq_true q137) | ((with_reducible refine gate_builtin (b := .append) (xs := #[.tmp 30, .tmp 35]) rfl ?_); at_builtin; refine Kd.R_append (Kd.int .i64) (w0 := w) w.heap.size rfl (.tmp 30) (.tmp 35) 50 3 (.int .i64 0) 8 rfl Try.underlying50 info3 rfl (by decide) (by omega) u5 x5_1 (rd t132 x7_1) [.int .i64 (rd t132 x7_1)] (fun k_ => some k_ ≠ (.slice (some ad135) t132.length co13 : Value).ownBlock) (fun _ => False) rfl rfl ?aP (fun _ hk => hk.elim) ?aF ?aO ?aB ?aS ?aL ?_; (case aP => exact rfl); (case aB => exact bel_); (case aF => exact (fun k_ hk => Kd.fresh' (Kd.R_lt (kra_ HO_6.out)) k_ hk)); (case aO => exact (kra_ HO_5.out)); (case aS => exact (below_size bel_)); (case aL => have := LMc12.out; omega); intro v139 w15 ho hb hg hat; rw [← Ny138.out] at ho; have n0_ := Aside0.mk (Kd.R_after (ok := (fun _ => True)) (by (with_reducible repeat (first | apply Kd.R_alloc | apply Kd.R_drewN | apply Kd.R_drew)); exact Kd.R_mono HO_6.out (fun _ hk => ⟨trivial, hk⟩)) hg hat); have n1_ := Aside0.mk (hb); have n2_ := Aside0.mk (ho); clear HO_6; clear HB; clear HO_5; have HO_6 := n0_; have HB := n1_; have HO140 := n2_; clear n0_ n1_ n2_; clear ho hb hg hat))
          go_roundg k1
          case measure => have := HK1.out; omega
          case rel => exact ⟨(y138), (wrap64 (x7_1 + 1)), (by first | rfl | (simp; done) | (simp [*]; done)), H', ⟨by have := HK1.out; omega⟩, ⟨kra_ HO140.out⟩, ⟨by (with_reducible repeat (first | apply Kd.R_alloc | apply Kd.R_drewN | apply Kd.R_drew)); exact Kd.R_mono HO_6.out (fun _ hk => hk.2)⟩, ⟨bel_⟩⟩
         ·rw [if_neg c12] at H
          exact absurd H (by simp)
        ·replace c11 := Bool.eq_false_iff.mpr c11
         subst c11
         have H1 : (limelightref05_All.l0 k1 l0 x5_1 t132 (wrap64 (x7_1 + 1))) = some r := by rw [if_neg (show ¬ (false = true) by decide)] at H; exact H
         clear H
         have H := H1
         clear H1
         have H' := Aside0.mk H
         clear H
         obtain ⟨Ao16, co16, eo16⟩ := Kd.R_slice HO_6.out
         subst eo16
         have p135 : 0 ≤ (x7_1 : Int) := of_decide_eq_true asm_
         have q135 : x7_1 < (t132.length : Int) := of_decide_eq_true asm_
         obtain ⟨ad135, e135, hx135_0⟩ := Kd.at_int (Kd.R_reads' HO_6.out).2.2 x7_1 p135 q135
         cases e135
         replace p135 := eq_true p135
         replace q135 := eq_true q135
         go_wp2_with (first | ((with_reducible refine gate_callee (f := 73) rfl ?_); refine goesL_ (some 29) rfl rfl Try.func73 (by kernel_rfl) rfl #[.slice (some ad131) l0.length c0, .int .i64 (rd t132 x7_1)] rfl margs_ ?_; (with_reducible refine (limelightref05_Is.calls k1 _ _ l0 (rd t132 x7_1) false _ ?side1 ?side2 A10.out).mono ?_); (case side1 => exact kcb_ ((Kd.C_below HR0.out HB.out))); (case side2 => exact HC0.out); rintro e w17 ⟨rfl, hb⟩; refine ⟨_, rfl, ?_⟩; have n0_ := Aside0.mk (Kd.R_below (kra_ HO_5.out) hb); have n1_ := Aside0.mk (Kd.R_below (kra_ HO_6.out) hb); have n2_ := Aside0.mk (below_step bel_ hb); clear HO_5; clear HO_6; clear HB; have HO_5 := n0_; have HO_6 := n1_; have HB := n2_; clear n0_ n1_ n2_; (try clear hb); (try clear hb2); (try clear hk); (try clear hi)))
         go_roundg k1
         case measure => have := HK1.out; omega
         case rel => exact ⟨(x5_1), (wrap64 (x7_1 + 1)), (by first | rfl | (simp; done) | (simp [*]; done)), H', ⟨by have := HK1.out; omega⟩, ⟨kra_ HO_5.out⟩, ⟨kra_ HO_6.out⟩, ⟨bel_⟩⟩
       ·rw [if_neg c9] at H
        exact absurd H (by simp)
      ·rw [if_neg c8] at H
       have c8b0 : decide (x7_1 < (t132.length : Int)) = false := decide_eq_false c8
       clear c8
       obtain rfl := Option.some.inj H
       obtain ⟨Ao18, co18, eo18⟩ := Kd.R_slice HO_6.out
       subst eo18
       go_wp2
       go_ret
       exact ⟨_, by first | rfl | (simp [errW_none, errW_some] <;> rfl) | (simp [*, errW_none, errW_some] <;> rfl), by (with_reducible repeat (first | apply Kd.R_alloc | apply Kd.R_drewN | apply Kd.R_drew)); exact Kd.R_mono HO_5.out (fun _ hk => trivial), bel_⟩
   ·rw [if_neg c5] at H
    have c5b0 : (((rd_T53 l0 a1).f0) == 3) = false := beq_eq_false_iff_ne.mpr c5
    have c5b1 : (((rd_T53 l0 a1).f0) != 3) = true := bne_iff_ne.mpr c5
    obtain rfl := Option.some.inj H
    have p131 : 0 ≤ (a1 : Int) := of_decide_eq_true asm_
    have q131 : a1 < (l0.length : Int) := of_decide_eq_true asm_
    obtain ⟨ad131, A131_3, c131_3, A131_6, c131_6, e131, hx131_0, hx131_1, hx131_2, hx131_3, hx131_4, hx131_5, hx131_6, hl131_3, hi131_3, hl131_6, hi131_6⟩ := at_T53 HR0.out a1 p131 q131
    cases e131
    have HR131_3 := Aside0.mk hi131_3
    have HC131_3 := Aside0.mk hl131_3
    clear hi131_3 hl131_3
    have HR131_6 := Aside0.mk hi131_6
    have HC131_6 := Aside0.mk hl131_6
    clear hi131_6 hl131_6
    replace p131 := eq_true p131
    replace q131 := eq_true q131
    go_enter Try.func51, Try.ntmps51
    go_wp2
    go_ret
    exact ⟨_, by first | rfl | (simp [errW_none, errW_some] <;> rfl) | (simp [*, errW_none, errW_some] <;> rfl), by first | exact Kd.R_nil _ _ _ _ _ | exact Kd.N_nil _ _ _ _ _ | exact Kd.V_nil _ _ _ _ _ | exact Kd.Q_nil _ _ _ _ _ | exact Kd.S_nil _ _ _ _ _, bel_⟩
  ·rw [if_neg c4] at H
   exact absurd H (by simp)
 ·rw [if_neg c3] at H
  exact absurd H (by simp)

/-! ### limelightref02_Get: function 53 -/
def limelightref02_Get.l0 : Nat → List (S53) → Int → Int → Int → Option (Int × Bool)
 | 0, _, _, _, _ => none
 | k + 1, x0, x1, x2, x8 => if 0 ≤ x1 then (if x1 < (x0.length : Int) then (if x8 < (((rd_T53 x0 x1).f6).length : Int) then (if 0 ≤ x8 then (if ((rd_T73 ((rd_T53 x0 x1).f6) x8).f0) = x2 then (some ((rd_T73 ((rd_T53 x0 x1).f6) x8).f1, true)) else (limelightref02_Get.l0 k x0 x1 x2 (wrap64 (x8 + 1)))) else (none)) else (some (0, false))) else (none)) else (none)
def limelightref02_Get.f (k : Nat) (l0 : List (S53)) (a1 : Int) (a2 : Int) : Option (Int × Bool) := (limelightref01_Is.f l0 a1).bind fun t141 => (if t141 = true then (limelightref02_Get.l0 k l0 a1 a2 0) else (some (0, false)))
theorem limelightref02_Get.mono_l : ∀ k, (∀ y0 y1 y2 y3, LeO (limelightref02_Get.l0 k y0 y1 y2 y3) (limelightref02_Get.l0 (k + 1) y0 y1 y2 y3))
 | 0 => fun _ _ _ _ r h => by simp [limelightref02_Get.l0] at h
 | k + 1 => by
  have ih0 := limelightref02_Get.mono_l k
  ·intro y0 y1 y2 y3
   unfold limelightref02_Get.l0
   repeat' first
   | (with_reducible exact ih0 _ _ _ _)
   | (with_reducible exact LeO.refl _)
   | (with_reducible exact LeO.none _)
   | (with_reducible refine LeO.ite ?_ ?_)
   | (with_reducible refine LeO.bind ?_ (fun _ => ?_))
   | exact ih0 _ _ _ _
   | exact LeO.none _
   | refine LeO.ite ?_ ?_
   | refine LeO.bind ?_ (fun _ => ?_)
theorem limelightref02_Get.mono : ∀ a0 a1 a2 k, LeO (limelightref02_Get.f k a0 a1 a2) (limelightref02_Get.f (k + 1) a0 a1 a2) := by
 intro a0 a1 a2 k
 have ih0 := limelightref02_Get.mono_l k
 unfold limelightref02_Get.f
 repeat' first
   | (with_reducible exact ih0 _ _ _ _)
   | (with_reducible exact LeO.refl _)
   | (with_reducible exact LeO.none _)
   | (with_reducible refine LeO.ite ?_ ?_)
   | (with_reducible refine LeO.bind ?_ (fun _ => ?_))
   | exact ih0 _ _ _ _
   | exact LeO.none _
   | refine LeO.ite ?_ ?_
   | refine LeO.bind ?_ (fun _ => ?_)
set_option maxHeartbeats 8000000 in
set_option maxRecDepth 100000 in
theorem limelightref02_Get.calls (k : Nat) (A0 : Option Addr) (c0 : Nat) (l0 : List (S53)) (a1 : Int) (a2 : Int) (r1 : Int) (r2 : Bool) (w : World) (hr0 : Kd.C k53 w A0 l0.length l0) (hc0 : l0.length ≤ c0) (h : limelightref02_Get.f k l0 a1 a2 = some (r1, r2)) :
  Calls Try.prog 53 #[.slice A0 l0.length c0, .int .i64 a1, .int .i64 a2] w fun e w' => e = .returned (.tuple #[.int .i64 r1, .bool r2]) ∧ Below w.heap.size w w' := by
 have HR0 := Aside0.mk hr0
 have HC0 := Aside0.mk hc0
 clear hr0 hc0
 have HB := Aside0.mk (Below.refl w.heap.size w)
 have H : ((limelightref01_Is.f l0 a1).bind fun t141 => (if t141 = true then (limelightref02_Get.l0 k l0 a1 a2 0) else (some (0, false)))) = some (r1, r2) := h
 clear h
 replace H := Option.bind_eq_some_iff.mp H
 obtain ⟨t141, A40, H⟩ := H
 replace H : (if t141 = true then (limelightref02_Get.l0 k l0 a1 a2 0) else (some (0, false))) = some (r1, r2) := H
 have A4 := Aside0.mk A40
 clear A40
 by_cases c5 : t141 = true
 ·subst c5
  have H1 : (limelightref02_Get.l0 k l0 a1 a2 0) = some (r1, r2) := by rw [if_pos rfl] at H; exact H
  clear H
  have H := H1
  clear H1
  have H' := Aside0.mk H
  clear H
  go_enter Try.func53, Try.ntmps53
  go_wp2_with (first | ((with_reducible refine gate_callee (f := 14) rfl ?_); refine goesL_ (some 11) rfl rfl Try.func14 (by kernel_rfl) rfl #[.slice A0 l0.length c0, .int .i64 a1] rfl margs_ ?_; (with_reducible refine (limelightref01_Is.calls _ _ l0 a1 true _ ?side1 ?side2 A4.out).mono ?_); (case side1 => exact kcb_ (HR0.out)); (case side2 => exact HC0.out); rintro e w6 ⟨rfl, hb⟩; refine ⟨_, rfl, ?_⟩; have n0_ := Aside0.mk (below_step bel_ hb); clear HB; have HB := n0_; clear n0_; (try clear hb); (try clear hb2); (try clear hk); (try clear hi)))
  go_loopg [8] k (fun kq v8 w' => ∃ (x8_1 : Int), v8 = .int .i64 x8_1 ∧ Aside0 (limelightref02_Get.l0 kq l0 a1 a2 x8_1 = some (r1, r2)) ∧ Aside0 (kq ≤ k) ∧ Aside0 (Below w.heap.size w w'))
  case atStart => exact ⟨(0), (by first | rfl | (simp; done) | (simp [*]; done)), H', ⟨Nat.le_refl _⟩, ⟨bel_⟩⟩
  case round =>
   clear H'
   try clear c1
   try clear p2
   try clear c5
   obtain ⟨x8_1, rfl, HA, HK1, HB⟩ := hrel
   cases gk with
   | zero => exact absurd HA.out (by simp [limelightref02_Get.l0])
   | succ k1 =>
    have H := HA.out
    clear HA
    simp only [limelightref02_Get.l0] at H
    by_cases c7 : 0 ≤ a1
    ·rw [if_pos c7] at H
     have c7b0 : decide (0 ≤ a1) = true := decide_eq_true c7
     clear c7
     by_cases c8 : a1 < (l0.length : Int)
     ·rw [if_pos c8] at H
      have c8b0 : decide (a1 < (l0.length : Int)) = true := decide_eq_true c8
      clear c8
      by_cases c9 : x8_1 < (((rd_T53 l0 a1).f6).length : Int)
      ·rw [if_pos c9] at H
       have c9b0 : decide (x8_1 < (((rd_T53 l0 a1).f6).length : Int)) = true := decide_eq_true c9
       clear c9
       by_cases c10 : 0 ≤ x8_1
       ·rw [if_pos c10] at H
        have c10b0 : decide (0 ≤ x8_1) = true := decide_eq_true c10
        clear c10
        by_cases c11 : ((rd_T73 ((rd_T53 l0 a1).f6) x8_1).f0) = a2
        ·rw [if_pos c11] at H
         have c11b0 : (((rd_T73 ((rd_T53 l0 a1).f6) x8_1).f0) == a2) = true := beq_iff_eq.mpr c11
         have c11b1 : (((rd_T73 ((rd_T53 l0 a1).f6) x8_1).f0) != a2) = false := bne_eq_false_iff_eq.mpr c11
         clear c11
         simp only [Option.some.injEq, Prod.mk.injEq] at H
         obtain ⟨rfl, rfl⟩ := H
         have p142 : 0 ≤ (a1 : Int) := of_decide_eq_true asm_
         have q142 : a1 < (l0.length : Int) := of_decide_eq_true asm_
         obtain ⟨ad142, A142_3, c142_3, A142_6, c142_6, e142, hx142_0, hx142_1, hx142_2, hx142_3, hx142_4, hx142_5, hx142_6, hl142_3, hi142_3, hl142_6, hi142_6⟩ := at_T53 HR0.out a1 p142 q142
         cases e142
         replace hx142_0 := (HB.out.cell (World.block_lt_of_cell? w _ hx142_0)).trans hx142_0
         replace hx142_1 := (HB.out.cell (World.block_lt_of_cell? w _ hx142_1)).trans hx142_1
         replace hx142_2 := (HB.out.cell (World.block_lt_of_cell? w _ hx142_2)).trans hx142_2
         replace hx142_3 := (HB.out.cell (World.block_lt_of_cell? w _ hx142_3)).trans hx142_3
         replace hx142_4 := (HB.out.cell (World.block_lt_of_cell? w _ hx142_4)).trans hx142_4
         replace hx142_5 := (HB.out.cell (World.block_lt_of_cell? w _ hx142_5)).trans hx142_5
         replace hx142_6 := (HB.out.cell (World.block_lt_of_cell? w _ hx142_6)).trans hx142_6
         have HR142_3 := Aside0.mk hi142_3
         have HC142_3 := Aside0.mk hl142_3
         clear hi142_3 hl142_3
         have HR142_6 := Aside0.mk hi142_6
         have HC142_6 := Aside0.mk hl142_6
         clear hi142_6 hl142_6
         replace p142 := eq_true p142
         replace q142 := eq_true q142
         have p143 : 0 ≤ (a1 : Int) := of_decide_eq_true asm_
         have q143 : a1 < (l0.length : Int) := of_decide_eq_true asm_
         obtain ⟨ad143, A143_3, c143_3, A143_6, c143_6, e143, hx143_0, hx143_1, hx143_2, hx143_3, hx143_4, hx143_5, hx143_6, hl143_3, hi143_3, hl143_6, hi143_6⟩ := at_T53 HR0.out a1 p143 q143
         obtain rfl : ad142 = ad143 := (by injection e143)
         replace hx143_0 := (HB.out.cell (World.block_lt_of_cell? w _ hx143_0)).trans hx143_0
         replace hx143_1 := (HB.out.cell (World.block_lt_of_cell? w _ hx143_1)).trans hx143_1
         replace hx143_2 := (HB.out.cell (World.block_lt_of_cell? w _ hx143_2)).trans hx143_2
         replace hx143_3 := (HB.out.cell (World.block_lt_of_cell? w _ hx143_3)).trans hx143_3
         replace hx143_4 := (HB.out.cell (World.block_lt_of_cell? w _ hx143_4)).trans hx143_4
         replace hx143_5 := (HB.out.cell (World.block_lt_of_cell? w _ hx143_5)).trans hx143_5
         replace hx143_6 := (HB.out.cell (World.block_lt_of_cell? w _ hx143_6)).trans hx143_6
         have HR143_3 := Aside0.mk hi143_3
         have HC143_3 := Aside0.mk hl143_3
         clear hi143_3 hl143_3
         have HR143_6 := Aside0.mk hi143_6
         have HC143_6 := Aside0.mk hl143_6
         clear hi143_6 hl143_6
         replace p143 := eq_true p143
         replace q143 := eq_true q143
         have ea_ := Option.some.inj (hx142_3.symm.trans hx143_3)
         injection ea_ with ea_ en_ ec_
         subst ea_
         subst ec_
         clear en_
         have ea_ := Option.some.inj (hx142_6.symm.trans hx143_6)
         injection ea_ with ea_ en_ ec_
         subst ea_
         subst ec_
         clear en_
         have p144 : 0 ≤ (x8_1 : Int) := of_decide_eq_true asm_
         have q144 : x8_1 < (((rd_T53 l0 a1).f6).length : Int) := of_decide_eq_true asm_
         obtain ⟨ad144, e144, hx144_0, hx144_1⟩ := at_T73 HR143_6.out x8_1 p144 q144
         cases e144
         replace hx144_0 := (HB.out.cell (World.block_lt_of_cell? w _ hx144_0)).trans hx144_0
         replace hx144_1 := (HB.out.cell (World.block_lt_of_cell? w _ hx144_1)).trans hx144_1
         replace p144 := eq_true p144
         replace q144 := eq_true q144
         have p145 : 0 ≤ (a1 : Int) := of_decide_eq_true asm_
         have q145 : a1 < (l0.length : Int) := of_decide_eq_true asm_
         obtain ⟨ad145, A145_3, c145_3, A145_6, c145_6, e145, hx145_0, hx145_1, hx145_2, hx145_3, hx145_4, hx145_5, hx145_6, hl145_3, hi145_3, hl145_6, hi145_6⟩ := at_T53 HR0.out a1 p145 q145
         obtain rfl : ad142 = ad145 := (by injection e145)
         replace hx145_0 := (HB.out.cell (World.block_lt_of_cell? w _ hx145_0)).trans hx145_0
         replace hx145_1 := (HB.out.cell (World.block_lt_of_cell? w _ hx145_1)).trans hx145_1
         replace hx145_2 := (HB.out.cell (World.block_lt_of_cell? w _ hx145_2)).trans hx145_2
         replace hx145_3 := (HB.out.cell (World.block_lt_of_cell? w _ hx145_3)).trans hx145_3
         replace hx145_4 := (HB.out.cell (World.block_lt_of_cell? w _ hx145_4)).trans hx145_4
         replace hx145_5 := (HB.out.cell (World.block_lt_of_cell? w _ hx145_5)).trans hx145_5
         replace hx145_6 := (HB.out.cell (World.block_lt_of_cell? w _ hx145_6)).trans hx145_6
         have HR145_3 := Aside0.mk hi145_3
         have HC145_3 := Aside0.mk hl145_3
         clear hi145_3 hl145_3
         have HR145_6 := Aside0.mk hi145_6
         have HC145_6 := Aside0.mk hl145_6
         clear hi145_6 hl145_6
         replace p145 := eq_true p145
         replace q145 := eq_true q145
         have ea_ := Option.some.inj (hx142_3.symm.trans hx145_3)
         injection ea_ with ea_ en_ ec_
         subst ea_
         subst ec_
         clear en_
         have ea_ := Option.some.inj (hx142_6.symm.trans hx145_6)
         injection ea_ with ea_ en_ ec_
         subst ea_
         subst ec_
         clear en_
         have p146 : 0 ≤ (x8_1 : Int) := of_decide_eq_true asm_
         have q146 : x8_1 < (((rd_T53 l0 a1).f6).length : Int) := of_decide_eq_true asm_
         obtain ⟨ad146, e146, hx146_0, hx146_1⟩ := at_T73 HR145_6.out x8_1 p146 q146
         cases e146
         replace hx146_0 := (HB.out.cell (World.block_lt_of_cell? w _ hx146_0)).trans hx146_0
         replace hx146_1 := (HB.out.cell (World.block_lt_of_cell? w _ hx146_1)).trans hx146_1
         replace p146 := eq_true p146
         replace q146 := eq_true q146
         go_wp2
         go_ret2
         exact ⟨by first | rfl | (simp [errW_none, errW_some] <;> rfl) | (simp [*, errW_none, errW_some] <;> rfl), bel_⟩
        ·rw [if_neg c11] at H
         have c11b0 : (((rd_T73 ((rd_T53 l0 a1).f6) x8_1).f0) == a2) = false := beq_eq_false_iff_ne.mpr c11
         have c11b1 : (((rd_T73 ((rd_T53 l0 a1).f6) x8_1).f0) != a2) = true := bne_iff_ne.mpr c11
         have H' := Aside0.mk H
         clear H
         have p142 : 0 ≤ (a1 : Int) := of_decide_eq_true asm_
         have q142 : a1 < (l0.length : Int) := of_decide_eq_true asm_
         obtain ⟨ad142, A142_3, c142_3, A142_6, c142_6, e142, hx142_0, hx142_1, hx142_2, hx142_3, hx142_4, hx142_5, hx142_6, hl142_3, hi142_3, hl142_6, hi142_6⟩ := at_T53 HR0.out a1 p142 q142
         cases e142
         replace hx142_0 := (HB.out.cell (World.block_lt_of_cell? w _ hx142_0)).trans hx142_0
         replace hx142_1 := (HB.out.cell (World.block_lt_of_cell? w _ hx142_1)).trans hx142_1
         replace hx142_2 := (HB.out.cell (World.block_lt_of_cell? w _ hx142_2)).trans hx142_2
         replace hx142_3 := (HB.out.cell (World.block_lt_of_cell? w _ hx142_3)).trans hx142_3
         replace hx142_4 := (HB.out.cell (World.block_lt_of_cell? w _ hx142_4)).trans hx142_4
         replace hx142_5 := (HB.out.cell (World.block_lt_of_cell? w _ hx142_5)).trans hx142_5
         replace hx142_6 := (HB.out.cell (World.block_lt_of_cell? w _ hx142_6)).trans hx142_6
         have HR142_3 := Aside0.mk hi142_3
         have HC142_3 := Aside0.mk hl142_3
         clear hi142_3 hl142_3
         have HR142_6 := Aside0.mk hi142_6
         have HC142_6 := Aside0.mk hl142_6
         clear hi142_6 hl142_6
         replace p142 := eq_true p142
         replace q142 := eq_true q142
         have p143 : 0 ≤ (a1 : Int) := of_decide_eq_true asm_
         have q143 : a1 < (l0.length : Int) := of_decide_eq_true asm_
         obtain ⟨ad143, A143_3, c143_3, A143_6, c143_6, e143, hx143_0, hx143_1, hx143_2, hx143_3, hx143_4, hx143_5, hx143_6, hl143_3, hi143_3, hl143_6, hi143_6⟩ := at_T53 HR0.out a1 p143 q143
         obtain rfl : ad142 = ad143 := (by injection e143)
         replace hx143_0 := (HB.out.cell (World.block_lt_of_cell? w _ hx143_0)).trans hx143_0
         replace hx143_1 := (HB.out.cell (World.block_lt_of_cell? w _ hx143_1)).trans hx143_1
         replace hx143_2 := (HB.out.cell (World.block_lt_of_cell? w _ hx143_2)).trans hx143_2
         replace hx143_3 := (HB.out.cell (World.block_lt_of_cell? w _ hx143_3)).trans hx143_3
         replace hx143_4 := (HB.out.cell (World.block_lt_of_cell? w _ hx143_4)).trans hx143_4
         replace hx143_5 := (HB.out.cell (World.block_lt_of_cell? w _ hx143_5)).trans hx143_5
         replace hx143_6 := (HB.out.cell (World.block_lt_of_cell? w _ hx143_6)).trans hx143_6
         have HR143_3 := Aside0.mk hi143_3
         have HC143_3 := Aside0.mk hl143_3
         clear hi143_3 hl143_3
         have HR143_6 := Aside0.mk hi143_6
         have HC143_6 := Aside0.mk hl143_6
         clear hi143_6 hl143_6
         replace p143 := eq_true p143
         replace q143 := eq_true q143
         have ea_ := Option.some.inj (hx142_3.symm.trans hx143_3)
         injection ea_ with ea_ en_ ec_
         subst ea_
         subst ec_
         clear en_
         have ea_ := Option.some.inj (hx142_6.symm.trans hx143_6)
         injection ea_ with ea_ en_ ec_
         subst ea_
         subst ec_
         clear en_
         have p144 : 0 ≤ (x8_1 : Int) := of_decide_eq_true asm_
         have q144 : x8_1 < (((rd_T53 l0 a1).f6).length : Int) := of_decide_eq_true asm_
         obtain ⟨ad144, e144, hx144_0, hx144_1⟩ := at_T73 HR143_6.out x8_1 p144 q144
         cases e144
         replace hx144_0 := (HB.out.cell (World.block_lt_of_cell? w _ hx144_0)).trans hx144_0
         replace hx144_1 := (HB.out.cell (World.block_lt_of_cell? w _ hx144_1)).trans hx144_1
         replace p144 := eq_true p144
         replace q144 := eq_true q144
         go_wp2
         go_roundg k1
         case measure => have := HK1.out; omega
         case rel => exact ⟨(wrap64 (x8_1 + 1)), (by first | rfl | (simp; done) | (simp [*]; done)), H', ⟨by have := HK1.out; omega⟩, ⟨bel_⟩⟩
       ·rw [if_neg c10] at H
        exact absurd H (by simp)
      ·rw [if_neg c9] at H
       have c9b0 : decide (x8_1 < (((rd_T53 l0 a1).f6).length : Int)) = false := decide_eq_false c9
       clear c9
       simp only [Option.some.injEq, Prod.mk.injEq] at H
       obtain ⟨rfl, rfl⟩ := H
       have p142 : 0 ≤ (a1 : Int) := of_decide_eq_true asm_
       have q142 : a1 < (l0.length : Int) := of_decide_eq_true asm_
       obtain ⟨ad142, A142_3, c142_3, A142_6, c142_6, e142, hx142_0, hx142_1, hx142_2, hx142_3, hx142_4, hx142_5, hx142_6, hl142_3, hi142_3, hl142_6, hi142_6⟩ := at_T53 HR0.out a1 p142 q142
       cases e142
       replace hx142_0 := (HB.out.cell (World.block_lt_of_cell? w _ hx142_0)).trans hx142_0
       replace hx142_1 := (HB.out.cell (World.block_lt_of_cell? w _ hx142_1)).trans hx142_1
       replace hx142_2 := (HB.out.cell (World.block_lt_of_cell? w _ hx142_2)).trans hx142_2
       replace hx142_3 := (HB.out.cell (World.block_lt_of_cell? w _ hx142_3)).trans hx142_3
       replace hx142_4 := (HB.out.cell (World.block_lt_of_cell? w _ hx142_4)).trans hx142_4
       replace hx142_5 := (HB.out.cell (World.block_lt_of_cell? w _ hx142_5)).trans hx142_5
       replace hx142_6 := (HB.out.cell (World.block_lt_of_cell? w _ hx142_6)).trans hx142_6
       have HR142_3 := Aside0.mk hi142_3
       have HC142_3 := Aside0.mk hl142_3
       clear hi142_3 hl142_3
       have HR142_6 := Aside0.mk hi142_6
       have HC142_6 := Aside0.mk hl142_6
       clear hi142_6 hl142_6
       replace p142 := eq_true p142
       replace q142 := eq_true q142
       go_wp2
       go_ret2
       exact ⟨by first | rfl | (simp [errW_none, errW_some] <;> rfl) | (simp [*, errW_none, errW_some] <;> rfl), bel_⟩
     ·rw [if_neg c8] at H
      exact absurd H (by simp)
    ·rw [if_neg c7] at H
     exact absurd H (by simp)
 ·replace c5 := Bool.eq_false_iff.mpr c5
  subst c5
  have H1 : (some (0, false)) = some (r1, r2) := by rw [if_neg (show ¬ (false = true) by decide)] at H; exact H
  clear H
  have H := H1
  clear H1
  simp only [Option.some.injEq, Prod.mk.injEq] at H
  obtain ⟨rfl, rfl⟩ := H
  go_enter Try.func53, Try.ntmps53
  go_wp2_with (first | ((with_reducible refine gate_callee (f := 14) rfl ?_); refine goesL_ (some 11) rfl rfl Try.func14 (by kernel_rfl) rfl #[.slice A0 l0.length c0, .int .i64 a1] rfl margs_ ?_; (with_reducible refine (limelightref01_Is.calls _ _ l0 a1 false _ ?side1 ?side2 A4.out).mono ?_); (case side1 => exact kcb_ (HR0.out)); (case side2 => exact HC0.out); rintro e w12 ⟨rfl, hb⟩; refine ⟨_, rfl, ?_⟩; have n0_ := Aside0.mk (below_step bel_ hb); clear HB; have HB := n0_; clear n0_; (try clear hb); (try clear hb2); (try clear hk); (try clear hi)))
  go_ret2
  exact ⟨by first | rfl | (simp [errW_none, errW_some] <;> rfl) | (simp [*, errW_none, errW_some] <;> rfl), bel_⟩

/-! ### limelightref02_Has: function 52 -/
def limelightref02_Has.f (k : Nat) (l0 : List (S53)) (a1 : Int) (a2 : Int) : Option (Bool) := (limelightref02_Get.f k l0 a1 a2).bind fun bt147 => (some bt147.2)
theorem limelightref02_Has.mono : ∀ a0 a1 a2 k, LeO (limelightref02_Has.f k a0 a1 a2) (limelightref02_Has.f (k + 1) a0 a1 a2) := by
 intro a0 a1 a2 k
 unfold limelightref02_Has.f
 repeat' first
   | (with_reducible exact limelightref02_Get.mono _ _ _ _)
   | (with_reducible exact LeO.refl _)
   | (with_reducible exact LeO.none _)
   | (with_reducible refine LeO.ite ?_ ?_)
   | (with_reducible refine LeO.bind ?_ (fun _ => ?_))
   | exact limelightref02_Get.mono _ _ _ _
   | exact LeO.none _
   | refine LeO.ite ?_ ?_
   | refine LeO.bind ?_ (fun _ => ?_)
set_option maxHeartbeats 8000000 in
set_option maxRecDepth 100000 in
theorem limelightref02_Has.calls (k : Nat) (A0 : Option Addr) (c0 : Nat) (l0 : List (S53)) (a1 : Int) (a2 : Int) (r : Bool) (w : World) (hr0 : Kd.C k53 w A0 l0.length l0) (hc0 : l0.length ≤ c0) (h : limelightref02_Has.f k l0 a1 a2 = some r) :
  Calls Try.prog 52 #[.slice A0 l0.length c0, .int .i64 a1, .int .i64 a2] w fun e w' => e = .returned (.bool r) ∧ Below w.heap.size w w' := by
 have HR0 := Aside0.mk hr0
 have HC0 := Aside0.mk hc0
 clear hr0 hc0
 have HB := Aside0.mk (Below.refl w.heap.size w)
 have H : ((limelightref02_Get.f k l0 a1 a2).bind fun bt147 => (some bt147.2)) = some r := h
 clear h
 replace H := Option.bind_eq_some_iff.mp H
 obtain ⟨⟨t147, t148⟩, A40, H⟩ := H
 replace H : (some t148) = some r := H
 have A4 := Aside0.mk A40
 clear A40
 obtain rfl := Option.some.inj H
 go_enter Try.func52, Try.ntmps52
 go_wp2_with (first | ((with_reducible refine gate_callee (f := 53) rfl ?_); refine goesL_ (some 13) rfl rfl Try.func53 (by kernel_rfl) rfl #[.slice A0 l0.length c0, .int .i64 a1, .int .i64 a2] rfl margs_ ?_; (with_reducible refine (limelightref02_Get.calls k _ _ l0 a1 a2 t147 t148 _ ?side1 ?side2 A4.out).mono ?_); (case side1 => exact kcb_ (HR0.out)); (case side2 => exact HC0.out); rintro e w5 ⟨rfl, hb⟩; refine ⟨_, rfl, ?_⟩; have n0_ := Aside0.mk (below_step bel_ hb); clear HB; have HB := n0_; clear n0_; (try clear hb); (try clear hb2); (try clear hk); (try clear hi)))
 go_ret
 exact ⟨by first | rfl | (simp [errW_none, errW_some] <;> rfl) | (simp [*, errW_none, errW_some] <;> rfl), bel_⟩

/-! ### limelightref05_name: function 54 -/
def limelightref05_name.f (k : Nat) (l0 : List (S53)) (a1 : Int) : Option (Int) := (limelightref02_Get.f k l0 a1 4).bind fun bt149 => (some bt149.1)
theorem limelightref05_name.mono : ∀ a0 a1 k, LeO (limelightref05_name.f k a0 a1) (limelightref05_name.f (k + 1) a0 a1) := by
 intro a0 a1 k
 unfold limelightref05_name.f
 repeat' first
   | (with_reducible exact limelightref02_Get.mono _ _ _ _)
   | (with_reducible exact LeO.refl _)
   | (with_reducible exact LeO.none _)
   | (with_reducible refine LeO.ite ?_ ?_)
   | (with_reducible refine LeO.bind ?_ (fun _ => ?_))
   | exact limelightref02_Get.mono _ _ _ _
   | exact LeO.none _
   | refine LeO.ite ?_ ?_
   | refine LeO.bind ?_ (fun _ => ?_)
set_option maxHeartbeats 8000000 in
set_option maxRecDepth 100000 in
theorem limelightref05_name.calls (k : Nat) (A0 : Option Addr) (c0 : Nat) (l0 : List (S53)) (a1 : Int) (r : Int) (w : World) (hr0 : Kd.C k53 w A0 l0.length l0) (hc0 : l0.length ≤ c0) (h : limelightref05_name.f k l0 a1 = some r) :
  Calls Try.prog 54 #[.slice A0 l0.length c0, .int .i64 a1] w fun e w' => e = .returned (.int .i64 r) ∧ Below w.heap.size w w' := by
 have HR0 := Aside0.mk hr0
 have HC0 := Aside0.mk hc0
 clear hr0 hc0
 have HB := Aside0.mk (Below.refl w.heap.size w)
 have H : ((limelightref02_Get.f k l0 a1 4).bind fun bt149 => (some bt149.1)) = some r := h
 clear h
 replace H := Option.bind_eq_some_iff.mp H
 obtain ⟨⟨t149, t150⟩, A30, H⟩ := H
 replace H : (some t149) = some r := H
 have A3 := Aside0.mk A30
 clear A30
 obtain rfl := Option.some.inj H
 go_enter Try.func54, Try.ntmps54
 go_wp2_with (first | ((with_reducible refine gate_callee (f := 53) rfl ?_); refine goesL_ (some 10) rfl rfl Try.func53 (by kernel_rfl) rfl #[.slice A0 l0.length c0, .int .i64 a1, .int .i64 4] rfl margs_ ?_; (with_reducible refine (limelightref02_Get.calls k _ _ l0 a1 4 t149 t150 _ ?side1 ?side2 A3.out).mono ?_); (case side1 => exact kcb_ (HR0.out)); (case side2 => exact HC0.out); rintro e w4 ⟨rfl, hb⟩; refine ⟨_, rfl, ?_⟩; have n0_ := Aside0.mk (below_step bel_ hb); clear HB; have HB := n0_; clear n0_; (try clear hb); (try clear hb2); (try clear hk); (try clear hi)))
 go_ret
 exact ⟨by first | rfl | (simp [errW_none, errW_some] <;> rfl) | (simp [*, errW_none, errW_some] <;> rfl), bel_⟩

end Go.Proofs.Ytbdokcdnajdmaaa.P
