import Derived.Test.YtclhmgchllenlaaPx0
import Derived.Test.YtclhmgchllenlaaPx1
import Derived.Test.YtclhmgchllenlaaPx6
import Derived.Test.YtclhmgchllenlaaGMk
import Derived.Test.YtclhmgchllenlaaLiv01
import Derived.Test.YtclhmgchllenlaaME
-- printed by wip/tools/pp.sh (a patched copy of the print's program), for this claim.
namespace Go.Proofs.Ytclhmgchllenlaa.P
open Go.RowKit Go.Proofs.YtclhmgchllenlaaW.PrintWords Go.Proofs.YtclhmgchllenlaaW.PrintLast Go.Proofs.YtclhmgchllenlaaW.PrintMore
attribute [local go_sem] max2_int min2_int max_two min_two max_three min_three max_four min_four   -- for this text's walks alone
set_option linter.unusedVariables false
set_option linter.unusedSimpArgs false

-- GIVEN: function 20 (tree_Remove): GMk|S

/-! ### limelightlaw01_TreeStays: function 5 -/
def limelightlaw01_TreeStays.l0 : Nat → List (S33) → List (S49) → Int → Option (Bool)
 | 0, _, _, _ => none
 | k + 1, x0, x3, x4 => if x4 < (x0.length : Int) then (if 0 ≤ x4 then (if ((rd_T33 x0 x4).f2) = (-2) then ((tree_Make.f x3 ((rd_T33 x0 x4).f0) ((rd_T33 x0 x4).f1)).bind fun bt275 => ((limelightref01_May.f bt275.1).bind fun t280 => (if t280 = true then (if (bt275.1.length : Int) > (wrap64 ((wrap64 (1 + x4)) + 1)) then (none) else (limelightlaw01_TreeStays.l0 k x0 bt275.1 (wrap64 (x4 + 1)))) else (none)))) else (if ((rd_T33 x0 x4).f2) = (-3) then ((tree_Attach.f x3 ((rd_T33 x0 x4).f1)).bind fun bt281 => ((limelightref01_May.f bt281.1).bind fun t286 => (if t286 = true then (if (bt281.1.length : Int) > (wrap64 ((wrap64 (1 + x4)) + 1)) then (none) else (limelightlaw01_TreeStays.l0 k x0 bt281.1 (wrap64 (x4 + 1)))) else (none)))) else (if ((rd_T33 x0 x4).f2) = (-4) then ((tree_Remove.f x3 ((rd_T33 x0 x4).f1)).bind fun bt287 => ((limelightref01_May.f bt287.1).bind fun t291 => (if t291 = true then (if (bt287.1.length : Int) > (wrap64 ((wrap64 (1 + x4)) + 1)) then (none) else (limelightlaw01_TreeStays.l0 k x0 bt287.1 (wrap64 (x4 + 1)))) else (none)))) else ((limelightlaw01_own.f ((rd_T33 x0 x4).f0) ((rd_T33 x0 x4).f1) ((rd_T33 x0 x4).f2)).bind fun bt292 => ((tree_Insert.f x3 bt292.1 bt292.2.1 bt292.2.2).bind fun bt295 => ((limelightref01_May.f bt295.1).bind fun t299 => (if t299 = true then (if (bt295.1.length : Int) > (wrap64 ((wrap64 (1 + x4)) + 1)) then (none) else (limelightlaw01_TreeStays.l0 k x0 bt295.1 (wrap64 (x4 + 1)))) else (none)))))))) else (none)) else ((limelightlaw01_live.f).bind fun t272 => (some t272))
def limelightlaw01_TreeStays.f (k : Nat) (l0 : List (S33)) : Option (Bool) := if (l0.length : Int) > 30 then ((limelightlaw01_live.f).bind fun t268 => (some t268)) else ((tree_New.f).bind fun t269 => (limelightlaw01_TreeStays.l0 k l0 t269 0))
theorem limelightlaw01_TreeStays.mono_l : ∀ k, (∀ y0 y1 y2, LeO (limelightlaw01_TreeStays.l0 k y0 y1 y2) (limelightlaw01_TreeStays.l0 (k + 1) y0 y1 y2))
 | 0 => fun _ _ _ r h => by simp [limelightlaw01_TreeStays.l0] at h
 | k + 1 => by
  have ih0 := limelightlaw01_TreeStays.mono_l k
  ·intro y0 y1 y2
   unfold limelightlaw01_TreeStays.l0
   repeat' first
   | (with_reducible exact ih0 _ _ _)
   | (with_reducible exact LeO.refl _)
   | (with_reducible exact LeO.none _)
   | (with_reducible refine LeO.ite ?_ ?_)
   | (with_reducible refine LeO.bind ?_ (fun _ => ?_))
   | exact ih0 _ _ _
   | exact LeO.none _
   | refine LeO.ite ?_ ?_
   | refine LeO.bind ?_ (fun _ => ?_)
theorem limelightlaw01_TreeStays.mono : ∀ a0 k, LeO (limelightlaw01_TreeStays.f k a0) (limelightlaw01_TreeStays.f (k + 1) a0) := by
 intro a0 k
 have ih0 := limelightlaw01_TreeStays.mono_l k
 unfold limelightlaw01_TreeStays.f
 repeat' first
   | (with_reducible exact ih0 _ _ _)
   | (with_reducible exact LeO.refl _)
   | (with_reducible exact LeO.none _)
   | (with_reducible refine LeO.ite ?_ ?_)
   | (with_reducible refine LeO.bind ?_ (fun _ => ?_))
   | exact ih0 _ _ _
   | exact LeO.none _
   | refine LeO.ite ?_ ?_
   | refine LeO.bind ?_ (fun _ => ?_)
set_option maxHeartbeats 8000000 in
set_option maxRecDepth 100000 in
theorem limelightlaw01_TreeStays.calls (k : Nat) (A0 : Option Addr) (c0 : Nat) (l0 : List (S33)) (r : Bool) (w : World) (hr0 : Kd.C k33 w A0 l0.length l0) (hc0 : l0.length ≤ c0) (h : limelightlaw01_TreeStays.f k l0 = some r) :
  Calls Try.prog 5 #[.slice A0 l0.length c0] w fun e w' => e = .returned (.bool r) ∧ Below w.heap.size w w' := by
 have hu33 := Try.underlying33
 have HR0 := Aside0.mk hr0
 have HC0 := Aside0.mk hc0
 clear hr0 hc0
 have HB := Aside0.mk (Below.refl w.heap.size w)
 have H : (if (l0.length : Int) > 30 then ((limelightlaw01_live.f).bind fun t268 => (some t268)) else ((tree_New.f).bind fun t269 => (limelightlaw01_TreeStays.l0 k l0 t269 0))) = some r := h
 clear h
 by_cases c2 : (l0.length : Int) > 30
 ·rw [if_pos c2] at H
  have c2b0 : decide (30 < (l0.length : Int)) = true := decide_eq_true c2
  have c2b1 : decide (30 < l0.length) = true := decide_eq_true (by omega)
  clear c2
  replace H := Option.bind_eq_some_iff.mp H
  obtain ⟨t268, A30, H⟩ := H
  replace H : (some t268) = some r := H
  have A3 := Aside0.mk A30
  clear A30
  obtain rfl := Option.some.inj H
  go_enter Try.func5, Try.ntmps5
  go_wp2_with (first | ((with_reducible refine gate_callee (f := 10) rfl ?_); refine goesL_ (some 19) rfl rfl Try.func10 (by kernel_rfl) rfl #[] rfl margs_ ?_; (with_reducible refine (limelightlaw01_live.calls  t268 _ A3.out).mono ?_); rintro e w4 ⟨rfl, hb⟩; refine ⟨_, rfl, ?_⟩; have n0_ := Aside0.mk (below_step bel_ hb); clear HB; have HB := n0_; clear n0_; (try clear hb); (try clear hb2); (try clear hk); (try clear hi)))
  go_ret
  exact ⟨by first | rfl | (simp [errW_none, errW_some] <;> rfl) | (simp [*, errW_none, errW_some] <;> rfl), bel_⟩
 ·rw [if_neg c2] at H
  have c2b0 : decide (30 < (l0.length : Int)) = false := decide_eq_false c2
  have c2b1 : decide (30 < l0.length) = false := decide_eq_false (by omega)
  clear c2
  replace H := Option.bind_eq_some_iff.mp H
  obtain ⟨t269, A50, H⟩ := H
  replace H : (limelightlaw01_TreeStays.l0 k l0 t269 0) = some r := H
  have A5 := Aside0.mk A50
  clear A50
  have H' := Aside0.mk H
  clear H
  go_enter Try.func5, Try.ntmps5
  go_wp2_with (first | ((with_reducible refine gate_callee (f := 22) rfl ?_); refine goesL_ (some 20) rfl rfl Try.func22 (by kernel_rfl) rfl #[] rfl margs_ ?_; (with_reducible refine (tree_New.calls  t269 _ A5.out).mono ?_); rintro e w6 ⟨v270, rfl, ho0, hb⟩; refine ⟨_, rfl, ?_⟩; have n0_ := Aside0.mk (Kd.V_lower (Kd.V_mono (ok' := fun k_ => True) ho0 (fun k_ hk_ => trivial)) (below_size bel_)); have n1_ := Aside0.mk (below_step bel_ hb); clear HB; have HO271 := n0_; have HB := n1_; clear n0_ n1_; (try clear hb); (try clear hb2); (try clear hk); (try clear hi); (try clear ho0)))
  go_loopg [3, 4] k (fun kq v3 v4 w' => ∃ (x3_1 : List (S49)) (x4_1 : Int), v4 = .int .i64 x4_1 ∧ Aside0 (limelightlaw01_TreeStays.l0 kq l0 x3_1 x4_1 = some r) ∧ Aside0 (kq ≤ k) ∧ Aside0 (Kd.V k49 49 w' w.heap.size (fun _ => True) v3 x3_1) ∧ Aside0 (Below w.heap.size w w'))
  case atStart => exact ⟨(t269), (0), (by first | rfl | (simp; done) | (simp [*]; done)), H', ⟨Nat.le_refl _⟩, ⟨by (with_reducible repeat (first | apply Kd.V_alloc | apply Kd.V_drewN | apply Kd.V_drew)); exact HO271.out⟩, ⟨bel_⟩⟩
  case round =>
   clear H'
   try clear c1
   try clear c2
   try clear c2b0
   try clear c2b1
   try clear p2
   try clear c5
   obtain ⟨x3_1, x4_1, rfl, HA, HK1, HO_3, HB⟩ := hrel
   cases gk with
   | zero => exact absurd HA.out (by simp [limelightlaw01_TreeStays.l0])
   | succ k1 =>
    have H := HA.out
    clear HA
    simp only [limelightlaw01_TreeStays.l0] at H
    by_cases c7 : x4_1 < (l0.length : Int)
    ·rw [if_pos c7] at H
     have c7b0 : decide (x4_1 < (l0.length : Int)) = true := decide_eq_true c7
     clear c7
     by_cases c8 : 0 ≤ x4_1
     ·rw [if_pos c8] at H
      have c8b0 : decide (0 ≤ x4_1) = true := decide_eq_true c8
      clear c8
      by_cases c9 : ((rd_T33 l0 x4_1).f2) = (-2)
      ·rw [if_pos c9] at H
       have c9b0 : (((rd_T33 l0 x4_1).f2) == (-2)) = true := beq_iff_eq.mpr c9
       have c9b1 : (((rd_T33 l0 x4_1).f2) != (-2)) = false := bne_eq_false_iff_eq.mpr c9
       clear c9
       replace H := Option.bind_eq_some_iff.mp H
       obtain ⟨⟨t275, t278, t279⟩, A100, H⟩ := H
       replace H : ((limelightref01_May.f t275).bind fun t280 => (if t280 = true then (if (t275.length : Int) > (wrap64 ((wrap64 (1 + x4_1)) + 1)) then (none) else (limelightlaw01_TreeStays.l0 k1 l0 t275 (wrap64 (x4_1 + 1)))) else (none))) = some r := H
       have A10 := Aside0.mk A100
       clear A100
       replace H := Option.bind_eq_some_iff.mp H
       obtain ⟨t280, A110, H⟩ := H
       replace H : (if t280 = true then (if (t275.length : Int) > (wrap64 ((wrap64 (1 + x4_1)) + 1)) then (none) else (limelightlaw01_TreeStays.l0 k1 l0 t275 (wrap64 (x4_1 + 1)))) else (none)) = some r := H
       have A11 := Aside0.mk A110
       clear A110
       by_cases c12 : t280 = true
       ·subst c12
        have H1 : (if (t275.length : Int) > (wrap64 ((wrap64 (1 + x4_1)) + 1)) then (none) else (limelightlaw01_TreeStays.l0 k1 l0 t275 (wrap64 (x4_1 + 1)))) = some r := by rw [if_pos rfl] at H; exact H
        clear H
        have H := H1
        clear H1
        by_cases c13 : (t275.length : Int) > (wrap64 ((wrap64 (1 + x4_1)) + 1))
        ·rw [if_pos c13] at H
         exact absurd H (by simp)
        ·rw [if_neg c13] at H
         have c13b0 : decide ((wrap64 ((wrap64 (1 + x4_1)) + 1)) < (t275.length : Int)) = false := decide_eq_false c13
         clear c13
         have H' := Aside0.mk H
         clear H
         have p273 : 0 ≤ (x4_1 : Int) := of_decide_eq_true asm_
         have q273 : x4_1 < (l0.length : Int) := of_decide_eq_true asm_
         obtain ⟨ad273, e273, hx273_0, hx273_1, hx273_2⟩ := at_T33 HR0.out x4_1 p273 q273
         cases e273
         replace hx273_0 := (HB.out.cell (World.block_lt_of_cell? w _ hx273_0)).trans hx273_0
         replace hx273_1 := (HB.out.cell (World.block_lt_of_cell? w _ hx273_1)).trans hx273_1
         replace hx273_2 := (HB.out.cell (World.block_lt_of_cell? w _ hx273_2)).trans hx273_2
         replace p273 := eq_true p273
         replace q273 := eq_true q273
         go_wp2_with (first | ((with_reducible refine gate_dst (N := 5) rfl ?_); (try (refine gate_guard (by rfl) ?_; dsimp only)); refine box_event ?hg (N := 5) ?hd (cs := #[.int .i64 0, .int .i64 0, .int .i64 0]) (t := 33) ?hr ?_; (case hd => rfl); (case hg => rfl); (case hr => first | (go_simp; done) | (go_simp; rfl)); intro gb274 hg w14 hbox hb; have n0_ := Aside0.mk (Kd.V_below (Kd.V_elderB (by (with_reducible repeat (first | apply Kd.V_alloc | apply Kd.V_drewN | apply Kd.V_drew)); exact HO_3.out) gb274 (Nat.le_of_eq hg.symm)) hb); have n1_ := Aside0.mk (below_step bel_ hb); have n2_ := Aside0.mk (hbox); have n3_ := Aside0.mk ((by rw [hg]; exact (below_size bel_) : w.heap.size ≤ gb274)); have n4_ := Aside0.mk ((by rw [hg]; exact (below_size bel_) : w.heap.size ≤ gb274)); clear HO_3; clear HB; have HO_3 := n0_; have HB := n1_; have BK274 := n2_; have GW274 := n3_; have GE274 := n4_; clear n0_ n1_ n2_ n3_ n4_; clear hb hbox hg; have hcz15_0 : w14.cell? ⟨gb274, 0, none⟩ = some (.int .i64 0) := (blk_cell BK274.out 0).trans rfl; have hcz15_1 : w14.cell? ⟨gb274, 1, none⟩ = some (.int .i64 0) := (blk_cell BK274.out 1).trans rfl; have hcz15_2 : w14.cell? ⟨gb274, 2, none⟩ = some (.int .i64 0) := (blk_cell BK274.out 2).trans rfl; have hfz15_0 := blk_frozen BK274.out 0; have hfz15_1 := blk_frozen BK274.out 1; have hfz15_2 := blk_frozen BK274.out 2) | ((with_reducible refine gate_store (t := 33) (p := 5) rfl ?_); refine store_event (t := 33) (p := 5) (v := ?vo_w16) (w1 := (((w14.setCell ⟨gb274, 0, none⟩ (.int .i64 ((rd_T33 l0 x4_1).f0))).setCell ⟨gb274, 1, none⟩ (.int .i64 ((rd_T33 l0 x4_1).f1))).setCell ⟨gb274, 2, none⟩ (.int .i64 ((rd_T33 l0 x4_1).f2)))) ?hg ?ho ?hn ?hr ?_; (case ho => rfl); (case hg => rfl); (case hn => rfl); (case hr => first | (go_simp; done) | (go_simp; rfl)); intro w16 hw; have n0_ : Aside0 (Kd.V k49 49 w16 w.heap.size (fun k_ => k_ ≠ gb274) u3 x3_1) := ⟨(by rw [hw]; exact (by (with_reducible repeat (first | apply Kd.V_alloc | apply Kd.V_drewN | apply Kd.V_drew)); exact Kd.V_mono (Kd.V_far (p := ⟨gb274, 2, none⟩) (Kd.V_far (p := ⟨gb274, 1, none⟩) (Kd.V_far (p := ⟨gb274, 0, none⟩) (Kd.V_mono HO_3.out (fun k_ hk => (⟨hk, hk.2⟩ : _ ∧ k_ ≠ gb274))) (fun _ hk => hk.2) (.int .i64 ((rd_T33 l0 x4_1).f0))) (fun _ hk => hk.2) (.int .i64 ((rd_T33 l0 x4_1).f1))) (fun _ hk => hk.2) (.int .i64 ((rd_T33 l0 x4_1).f2))) (fun _ hk => hk.1.2)))⟩; have n1_ : Aside0 (w16.heap[gb274]? = some (.cells #[.int .i64 ((rd_T33 l0 x4_1).f0), .int .i64 ((rd_T33 l0 x4_1).f1), .int .i64 ((rd_T33 l0 x4_1).f2)] 33 (0, 0))) := ⟨(by rw [hw]; exact (by (with_reducible repeat (first | refine blk_drewN ?_ _ | refine blk_drew ?_ | refine blk_alloc ?_ _)); refine blk_put (cs := #[.int .i64 ((rd_T33 l0 x4_1).f0), .int .i64 ((rd_T33 l0 x4_1).f1), .int .i64 0]) ?_ 2 _ rfl; (with_reducible repeat (first | refine blk_drewN ?_ _ | refine blk_drew ?_ | refine blk_alloc ?_ _)); refine blk_put (cs := #[.int .i64 ((rd_T33 l0 x4_1).f0), .int .i64 0, .int .i64 0]) ?_ 1 _ rfl; (with_reducible repeat (first | refine blk_drewN ?_ _ | refine blk_drew ?_ | refine blk_alloc ?_ _)); refine blk_put (cs := #[.int .i64 0, .int .i64 0, .int .i64 0]) ?_ 0 _ rfl; (with_reducible repeat (first | refine blk_drewN ?_ _ | refine blk_drew ?_ | refine blk_alloc ?_ _)); exact BK274.out))⟩; have n2_ : Aside0 (Below w.heap.size w w16) := ⟨(by rw [hw]; exact (belg_ GE274.out))⟩; clear hw; clear HO_3; clear BK274; clear HB; have HO_3 := n0_; have BK274 := n1_; have HB := n2_; clear n0_ n1_ n2_; have hcz17_0 : w16.cell? ⟨gb274, 0, none⟩ = some (.int .i64 ((rd_T33 l0 x4_1).f0)) := (blk_cell BK274.out 0).trans rfl; have hcz17_1 : w16.cell? ⟨gb274, 1, none⟩ = some (.int .i64 ((rd_T33 l0 x4_1).f1)) := (blk_cell BK274.out 1).trans rfl; have hcz17_2 : w16.cell? ⟨gb274, 2, none⟩ = some (.int .i64 ((rd_T33 l0 x4_1).f2)) := (blk_cell BK274.out 2).trans rfl; have hfz17_0 := blk_frozen BK274.out 0; have hfz17_1 := blk_frozen BK274.out 1; have hfz17_2 := blk_frozen BK274.out 2; obtain ⟨Ao18, co18, eo18⟩ := Kd.V_slice HO_3.out; subst eo18) | ((with_reducible refine gate_callee (f := 11) rfl ?_); refine goesL_ (some 49) rfl rfl Try.func11 (by kernel_rfl) rfl #[.slice Ao18 x3_1.length co18, .int .i64 ((rd_T33 l0 x4_1).f0), .int .i64 ((rd_T33 l0 x4_1).f1)] rfl margs_ ?_; (with_reducible refine (tree_Make.calls (fun k_ => k_ ≠ gb274) _ _ x3_1 ((rd_T33 l0 x4_1).f0) ((rd_T33 l0 x4_1).f1) t275 t278 t279 _ ?side1 A10.out).mono ?_); (case side1 => exact HO_3.out); rintro e w19 ⟨v276, rfl, ho0, hb⟩; refine ⟨_, rfl, ?_⟩; have n0_ := Aside0.mk (Kd.V_below (by (with_reducible repeat (first | apply Kd.V_alloc | apply Kd.V_drewN | apply Kd.V_drew)); exact HO_3.out) hb); have n1_ := Aside0.mk (Kd.V_lower (Kd.V_mono (ok' := fun k_ => k_ ≠ gb274) ho0 (fun k_ hk_ => Or.elim hk_ (fun hs_ => hs_) (fun hn_ => (Kd.freshB (g := gb274) (o := .cells #[.int .i64 ((rd_T33 l0 x4_1).f0), .int .i64 ((rd_T33 l0 x4_1).f1), .int .i64 ((rd_T33 l0 x4_1).f2)] 33 (0, 0)) (blkx_ BK274.out) k_ hn_)))) (below_size (belg_ GE274.out))); have n2_ := Aside0.mk (blk_below (g := gb274) (o := .cells #[.int .i64 ((rd_T33 l0 x4_1).f0), .int .i64 ((rd_T33 l0 x4_1).f1), .int .i64 ((rd_T33 l0 x4_1).f2)] 33 (0, 0)) (blkx_ BK274.out) hb); have n3_ := Aside0.mk (below_step (belg_ GE274.out) hb); clear HO_3; clear BK274; clear HB; have HO_3 := n0_; have HO277 := n1_; have BK274 := n2_; have HB := n3_; clear n0_ n1_ n2_ n3_; (try clear hb); (try clear hb2); (try clear hk); (try clear hi); (try clear ho0); obtain ⟨Ao20, co20, eo20⟩ := Kd.V_slice HO277.out; subst eo20) | ((with_reducible refine gate_callee (f := 23) rfl ?_); refine goesL_ (some 76) rfl rfl Try.func23 (by kernel_rfl) rfl #[.slice Ao20 t275.length co20] rfl margs_ ?_; (with_reducible refine (limelightref01_May.calls _ _ t275 true _ ?side1 ?side2 A11.out).mono ?_); (case side1 => exact kcb_ ((Kd.V_reads' HO277.out).2.2)); (case side2 => exact (Kd.V_reads' HO277.out).2.1); rintro e w21 ⟨rfl, hb⟩; refine ⟨_, rfl, ?_⟩; have n0_ := Aside0.mk (Kd.V_below (by (with_reducible repeat (first | apply Kd.V_alloc | apply Kd.V_drewN | apply Kd.V_drew)); exact HO_3.out) hb); have n1_ := Aside0.mk (Kd.V_below (by (with_reducible repeat (first | apply Kd.V_alloc | apply Kd.V_drewN | apply Kd.V_drew)); exact HO277.out) hb); have n2_ := Aside0.mk (blk_below (g := gb274) (o := .cells #[.int .i64 ((rd_T33 l0 x4_1).f0), .int .i64 ((rd_T33 l0 x4_1).f1), .int .i64 ((rd_T33 l0 x4_1).f2)] 33 (0, 0)) (blkx_ BK274.out) hb); have n3_ := Aside0.mk (below_step (belg_ GE274.out) hb); clear HO_3; clear HO277; clear BK274; clear HB; have HO_3 := n0_; have HO277 := n1_; have BK274 := n2_; have HB := n3_; clear n0_ n1_ n2_ n3_; (try clear hb); (try clear hb2); (try clear hk); (try clear hi)))
         go_roundg k1
         case measure => have := HK1.out; omega
         case rel => exact ⟨(t275), (wrap64 (x4_1 + 1)), (by first | rfl | (simp; done) | (simp [*]; done)), H', ⟨by have := HK1.out; omega⟩, ⟨by (with_reducible repeat (first | apply Kd.V_alloc | apply Kd.V_drewN | apply Kd.V_drew)); exact Kd.V_mono HO277.out (fun _ hk => trivial)⟩, ⟨belg_ GE274.out⟩⟩
       ·replace c12 := Bool.eq_false_iff.mpr c12
        subst c12
        have H1 : (none) = some r := by rw [if_neg (show ¬ (false = true) by decide)] at H; exact H
        clear H
        have H := H1
        clear H1
        exact absurd H (by simp)
      ·rw [if_neg c9] at H
       have c9b0 : (((rd_T33 l0 x4_1).f2) == (-2)) = false := beq_eq_false_iff_ne.mpr c9
       have c9b1 : (((rd_T33 l0 x4_1).f2) != (-2)) = true := bne_iff_ne.mpr c9
       by_cases c22 : ((rd_T33 l0 x4_1).f2) = (-3)
       ·rw [if_pos c22] at H
        have c22b0 : (((rd_T33 l0 x4_1).f2) == (-3)) = true := beq_iff_eq.mpr c22
        have c22b1 : (((rd_T33 l0 x4_1).f2) != (-3)) = false := bne_eq_false_iff_eq.mpr c22
        clear c22
        replace H := Option.bind_eq_some_iff.mp H
        obtain ⟨⟨t281, t284, t285⟩, A230, H⟩ := H
        replace H : ((limelightref01_May.f t281).bind fun t286 => (if t286 = true then (if (t281.length : Int) > (wrap64 ((wrap64 (1 + x4_1)) + 1)) then (none) else (limelightlaw01_TreeStays.l0 k1 l0 t281 (wrap64 (x4_1 + 1)))) else (none))) = some r := H
        have A23 := Aside0.mk A230
        clear A230
        replace H := Option.bind_eq_some_iff.mp H
        obtain ⟨t286, A240, H⟩ := H
        replace H : (if t286 = true then (if (t281.length : Int) > (wrap64 ((wrap64 (1 + x4_1)) + 1)) then (none) else (limelightlaw01_TreeStays.l0 k1 l0 t281 (wrap64 (x4_1 + 1)))) else (none)) = some r := H
        have A24 := Aside0.mk A240
        clear A240
        by_cases c25 : t286 = true
        ·subst c25
         have H1 : (if (t281.length : Int) > (wrap64 ((wrap64 (1 + x4_1)) + 1)) then (none) else (limelightlaw01_TreeStays.l0 k1 l0 t281 (wrap64 (x4_1 + 1)))) = some r := by rw [if_pos rfl] at H; exact H
         clear H
         have H := H1
         clear H1
         by_cases c26 : (t281.length : Int) > (wrap64 ((wrap64 (1 + x4_1)) + 1))
         ·rw [if_pos c26] at H
          exact absurd H (by simp)
         ·rw [if_neg c26] at H
          have c26b0 : decide ((wrap64 ((wrap64 (1 + x4_1)) + 1)) < (t281.length : Int)) = false := decide_eq_false c26
          clear c26
          have H' := Aside0.mk H
          clear H
          have p273 : 0 ≤ (x4_1 : Int) := of_decide_eq_true asm_
          have q273 : x4_1 < (l0.length : Int) := of_decide_eq_true asm_
          obtain ⟨ad273, e273, hx273_0, hx273_1, hx273_2⟩ := at_T33 HR0.out x4_1 p273 q273
          cases e273
          replace hx273_0 := (HB.out.cell (World.block_lt_of_cell? w _ hx273_0)).trans hx273_0
          replace hx273_1 := (HB.out.cell (World.block_lt_of_cell? w _ hx273_1)).trans hx273_1
          replace hx273_2 := (HB.out.cell (World.block_lt_of_cell? w _ hx273_2)).trans hx273_2
          replace p273 := eq_true p273
          replace q273 := eq_true q273
          go_wp2_with (first | ((with_reducible refine gate_dst (N := 5) rfl ?_); (try (refine gate_guard (by rfl) ?_; dsimp only)); refine box_event ?hg (N := 5) ?hd (cs := #[.int .i64 0, .int .i64 0, .int .i64 0]) (t := 33) ?hr ?_; (case hd => rfl); (case hg => rfl); (case hr => first | (go_simp; done) | (go_simp; rfl)); intro gb274 hg w27 hbox hb; have n0_ := Aside0.mk (Kd.V_below (Kd.V_elderB (by (with_reducible repeat (first | apply Kd.V_alloc | apply Kd.V_drewN | apply Kd.V_drew)); exact HO_3.out) gb274 (Nat.le_of_eq hg.symm)) hb); have n1_ := Aside0.mk (below_step bel_ hb); have n2_ := Aside0.mk (hbox); have n3_ := Aside0.mk ((by rw [hg]; exact (below_size bel_) : w.heap.size ≤ gb274)); have n4_ := Aside0.mk ((by rw [hg]; exact (below_size bel_) : w.heap.size ≤ gb274)); clear HO_3; clear HB; have HO_3 := n0_; have HB := n1_; have BK274 := n2_; have GW274 := n3_; have GE274 := n4_; clear n0_ n1_ n2_ n3_ n4_; clear hb hbox hg; have hcz28_0 : w27.cell? ⟨gb274, 0, none⟩ = some (.int .i64 0) := (blk_cell BK274.out 0).trans rfl; have hcz28_1 : w27.cell? ⟨gb274, 1, none⟩ = some (.int .i64 0) := (blk_cell BK274.out 1).trans rfl; have hcz28_2 : w27.cell? ⟨gb274, 2, none⟩ = some (.int .i64 0) := (blk_cell BK274.out 2).trans rfl; have hfz28_0 := blk_frozen BK274.out 0; have hfz28_1 := blk_frozen BK274.out 1; have hfz28_2 := blk_frozen BK274.out 2) | ((with_reducible refine gate_store (t := 33) (p := 5) rfl ?_); refine store_event (t := 33) (p := 5) (v := ?vo_w29) (w1 := (((w27.setCell ⟨gb274, 0, none⟩ (.int .i64 ((rd_T33 l0 x4_1).f0))).setCell ⟨gb274, 1, none⟩ (.int .i64 ((rd_T33 l0 x4_1).f1))).setCell ⟨gb274, 2, none⟩ (.int .i64 ((rd_T33 l0 x4_1).f2)))) ?hg ?ho ?hn ?hr ?_; (case ho => rfl); (case hg => rfl); (case hn => rfl); (case hr => first | (go_simp; done) | (go_simp; rfl)); intro w29 hw; have n0_ : Aside0 (Kd.V k49 49 w29 w.heap.size (fun k_ => k_ ≠ gb274) u3 x3_1) := ⟨(by rw [hw]; exact (by (with_reducible repeat (first | apply Kd.V_alloc | apply Kd.V_drewN | apply Kd.V_drew)); exact Kd.V_mono (Kd.V_far (p := ⟨gb274, 2, none⟩) (Kd.V_far (p := ⟨gb274, 1, none⟩) (Kd.V_far (p := ⟨gb274, 0, none⟩) (Kd.V_mono HO_3.out (fun k_ hk => (⟨hk, hk.2⟩ : _ ∧ k_ ≠ gb274))) (fun _ hk => hk.2) (.int .i64 ((rd_T33 l0 x4_1).f0))) (fun _ hk => hk.2) (.int .i64 ((rd_T33 l0 x4_1).f1))) (fun _ hk => hk.2) (.int .i64 ((rd_T33 l0 x4_1).f2))) (fun _ hk => hk.1.2)))⟩; have n1_ : Aside0 (w29.heap[gb274]? = some (.cells #[.int .i64 ((rd_T33 l0 x4_1).f0), .int .i64 ((rd_T33 l0 x4_1).f1), .int .i64 ((rd_T33 l0 x4_1).f2)] 33 (0, 0))) := ⟨(by rw [hw]; exact (by (with_reducible repeat (first | refine blk_drewN ?_ _ | refine blk_drew ?_ | refine blk_alloc ?_ _)); refine blk_put (cs := #[.int .i64 ((rd_T33 l0 x4_1).f0), .int .i64 ((rd_T33 l0 x4_1).f1), .int .i64 0]) ?_ 2 _ rfl; (with_reducible repeat (first | refine blk_drewN ?_ _ | refine blk_drew ?_ | refine blk_alloc ?_ _)); refine blk_put (cs := #[.int .i64 ((rd_T33 l0 x4_1).f0), .int .i64 0, .int .i64 0]) ?_ 1 _ rfl; (with_reducible repeat (first | refine blk_drewN ?_ _ | refine blk_drew ?_ | refine blk_alloc ?_ _)); refine blk_put (cs := #[.int .i64 0, .int .i64 0, .int .i64 0]) ?_ 0 _ rfl; (with_reducible repeat (first | refine blk_drewN ?_ _ | refine blk_drew ?_ | refine blk_alloc ?_ _)); exact BK274.out))⟩; have n2_ : Aside0 (Below w.heap.size w w29) := ⟨(by rw [hw]; exact (belg_ GE274.out))⟩; clear hw; clear HO_3; clear BK274; clear HB; have HO_3 := n0_; have BK274 := n1_; have HB := n2_; clear n0_ n1_ n2_; have hcz30_0 : w29.cell? ⟨gb274, 0, none⟩ = some (.int .i64 ((rd_T33 l0 x4_1).f0)) := (blk_cell BK274.out 0).trans rfl; have hcz30_1 : w29.cell? ⟨gb274, 1, none⟩ = some (.int .i64 ((rd_T33 l0 x4_1).f1)) := (blk_cell BK274.out 1).trans rfl; have hcz30_2 : w29.cell? ⟨gb274, 2, none⟩ = some (.int .i64 ((rd_T33 l0 x4_1).f2)) := (blk_cell BK274.out 2).trans rfl; have hfz30_0 := blk_frozen BK274.out 0; have hfz30_1 := blk_frozen BK274.out 1; have hfz30_2 := blk_frozen BK274.out 2; obtain ⟨Ao31, co31, eo31⟩ := Kd.V_slice HO_3.out; subst eo31) | ((with_reducible refine gate_callee (f := 13) rfl ?_); refine goesL_ (some 60) rfl rfl Try.func13 (by kernel_rfl) rfl #[.slice Ao31 x3_1.length co31, .int .i64 ((rd_T33 l0 x4_1).f1)] rfl margs_ ?_; (with_reducible refine (tree_Attach.calls (fun k_ => k_ ≠ gb274) _ _ x3_1 ((rd_T33 l0 x4_1).f1) t281 t284 t285 _ ?side1 A23.out).mono ?_); (case side1 => exact HO_3.out); rintro e w32 ⟨v282, rfl, ho0, hb⟩; refine ⟨_, rfl, ?_⟩; have n0_ := Aside0.mk (Kd.V_below (by (with_reducible repeat (first | apply Kd.V_alloc | apply Kd.V_drewN | apply Kd.V_drew)); exact HO_3.out) hb); have n1_ := Aside0.mk (Kd.V_lower (Kd.V_mono (ok' := fun k_ => k_ ≠ gb274) ho0 (fun k_ hk_ => Or.elim hk_ (fun hs_ => hs_) (fun hn_ => (Kd.freshB (g := gb274) (o := .cells #[.int .i64 ((rd_T33 l0 x4_1).f0), .int .i64 ((rd_T33 l0 x4_1).f1), .int .i64 ((rd_T33 l0 x4_1).f2)] 33 (0, 0)) (blkx_ BK274.out) k_ hn_)))) (below_size (belg_ GE274.out))); have n2_ := Aside0.mk (blk_below (g := gb274) (o := .cells #[.int .i64 ((rd_T33 l0 x4_1).f0), .int .i64 ((rd_T33 l0 x4_1).f1), .int .i64 ((rd_T33 l0 x4_1).f2)] 33 (0, 0)) (blkx_ BK274.out) hb); have n3_ := Aside0.mk (below_step (belg_ GE274.out) hb); clear HO_3; clear BK274; clear HB; have HO_3 := n0_; have HO283 := n1_; have BK274 := n2_; have HB := n3_; clear n0_ n1_ n2_ n3_; (try clear hb); (try clear hb2); (try clear hk); (try clear hi); (try clear ho0); obtain ⟨Ao33, co33, eo33⟩ := Kd.V_slice HO283.out; subst eo33) | ((with_reducible refine gate_callee (f := 23) rfl ?_); refine goesL_ (some 76) rfl rfl Try.func23 (by kernel_rfl) rfl #[.slice Ao33 t281.length co33] rfl margs_ ?_; (with_reducible refine (limelightref01_May.calls _ _ t281 true _ ?side1 ?side2 A24.out).mono ?_); (case side1 => exact kcb_ ((Kd.V_reads' HO283.out).2.2)); (case side2 => exact (Kd.V_reads' HO283.out).2.1); rintro e w34 ⟨rfl, hb⟩; refine ⟨_, rfl, ?_⟩; have n0_ := Aside0.mk (Kd.V_below (by (with_reducible repeat (first | apply Kd.V_alloc | apply Kd.V_drewN | apply Kd.V_drew)); exact HO_3.out) hb); have n1_ := Aside0.mk (Kd.V_below (by (with_reducible repeat (first | apply Kd.V_alloc | apply Kd.V_drewN | apply Kd.V_drew)); exact HO283.out) hb); have n2_ := Aside0.mk (blk_below (g := gb274) (o := .cells #[.int .i64 ((rd_T33 l0 x4_1).f0), .int .i64 ((rd_T33 l0 x4_1).f1), .int .i64 ((rd_T33 l0 x4_1).f2)] 33 (0, 0)) (blkx_ BK274.out) hb); have n3_ := Aside0.mk (below_step (belg_ GE274.out) hb); clear HO_3; clear HO283; clear BK274; clear HB; have HO_3 := n0_; have HO283 := n1_; have BK274 := n2_; have HB := n3_; clear n0_ n1_ n2_ n3_; (try clear hb); (try clear hb2); (try clear hk); (try clear hi)))
          go_roundg k1
          case measure => have := HK1.out; omega
          case rel => exact ⟨(t281), (wrap64 (x4_1 + 1)), (by first | rfl | (simp; done) | (simp [*]; done)), H', ⟨by have := HK1.out; omega⟩, ⟨by (with_reducible repeat (first | apply Kd.V_alloc | apply Kd.V_drewN | apply Kd.V_drew)); exact Kd.V_mono HO283.out (fun _ hk => trivial)⟩, ⟨belg_ GE274.out⟩⟩
        ·replace c25 := Bool.eq_false_iff.mpr c25
         subst c25
         have H1 : (none) = some r := by rw [if_neg (show ¬ (false = true) by decide)] at H; exact H
         clear H
         have H := H1
         clear H1
         exact absurd H (by simp)
       ·rw [if_neg c22] at H
        have c22b0 : (((rd_T33 l0 x4_1).f2) == (-3)) = false := beq_eq_false_iff_ne.mpr c22
        have c22b1 : (((rd_T33 l0 x4_1).f2) != (-3)) = true := bne_iff_ne.mpr c22
        by_cases c35 : ((rd_T33 l0 x4_1).f2) = (-4)
        ·rw [if_pos c35] at H
         have c35b0 : (((rd_T33 l0 x4_1).f2) == (-4)) = true := beq_iff_eq.mpr c35
         have c35b1 : (((rd_T33 l0 x4_1).f2) != (-4)) = false := bne_eq_false_iff_eq.mpr c35
         clear c35
         replace H := Option.bind_eq_some_iff.mp H
         obtain ⟨⟨t287, t290⟩, A360, H⟩ := H
         replace H : ((limelightref01_May.f t287).bind fun t291 => (if t291 = true then (if (t287.length : Int) > (wrap64 ((wrap64 (1 + x4_1)) + 1)) then (none) else (limelightlaw01_TreeStays.l0 k1 l0 t287 (wrap64 (x4_1 + 1)))) else (none))) = some r := H
         have A36 := Aside0.mk A360
         clear A360
         replace H := Option.bind_eq_some_iff.mp H
         obtain ⟨t291, A370, H⟩ := H
         replace H : (if t291 = true then (if (t287.length : Int) > (wrap64 ((wrap64 (1 + x4_1)) + 1)) then (none) else (limelightlaw01_TreeStays.l0 k1 l0 t287 (wrap64 (x4_1 + 1)))) else (none)) = some r := H
         have A37 := Aside0.mk A370
         clear A370
         by_cases c38 : t291 = true
         ·subst c38
          have H1 : (if (t287.length : Int) > (wrap64 ((wrap64 (1 + x4_1)) + 1)) then (none) else (limelightlaw01_TreeStays.l0 k1 l0 t287 (wrap64 (x4_1 + 1)))) = some r := by rw [if_pos rfl] at H; exact H
          clear H
          have H := H1
          clear H1
          by_cases c39 : (t287.length : Int) > (wrap64 ((wrap64 (1 + x4_1)) + 1))
          ·rw [if_pos c39] at H
           exact absurd H (by simp)
          ·rw [if_neg c39] at H
           have c39b0 : decide ((wrap64 ((wrap64 (1 + x4_1)) + 1)) < (t287.length : Int)) = false := decide_eq_false c39
           clear c39
           have H' := Aside0.mk H
           clear H
           have p273 : 0 ≤ (x4_1 : Int) := of_decide_eq_true asm_
           have q273 : x4_1 < (l0.length : Int) := of_decide_eq_true asm_
           obtain ⟨ad273, e273, hx273_0, hx273_1, hx273_2⟩ := at_T33 HR0.out x4_1 p273 q273
           cases e273
           replace hx273_0 := (HB.out.cell (World.block_lt_of_cell? w _ hx273_0)).trans hx273_0
           replace hx273_1 := (HB.out.cell (World.block_lt_of_cell? w _ hx273_1)).trans hx273_1
           replace hx273_2 := (HB.out.cell (World.block_lt_of_cell? w _ hx273_2)).trans hx273_2
           replace p273 := eq_true p273
           replace q273 := eq_true q273
           go_wp2_with (first | ((with_reducible refine gate_dst (N := 5) rfl ?_); (try (refine gate_guard (by rfl) ?_; dsimp only)); refine box_event ?hg (N := 5) ?hd (cs := #[.int .i64 0, .int .i64 0, .int .i64 0]) (t := 33) ?hr ?_; (case hd => rfl); (case hg => rfl); (case hr => first | (go_simp; done) | (go_simp; rfl)); intro gb274 hg w40 hbox hb; have n0_ := Aside0.mk (Kd.V_below (Kd.V_elderB (by (with_reducible repeat (first | apply Kd.V_alloc | apply Kd.V_drewN | apply Kd.V_drew)); exact HO_3.out) gb274 (Nat.le_of_eq hg.symm)) hb); have n1_ := Aside0.mk (below_step bel_ hb); have n2_ := Aside0.mk (hbox); have n3_ := Aside0.mk ((by rw [hg]; exact (below_size bel_) : w.heap.size ≤ gb274)); have n4_ := Aside0.mk ((by rw [hg]; exact (below_size bel_) : w.heap.size ≤ gb274)); clear HO_3; clear HB; have HO_3 := n0_; have HB := n1_; have BK274 := n2_; have GW274 := n3_; have GE274 := n4_; clear n0_ n1_ n2_ n3_ n4_; clear hb hbox hg; have hcz41_0 : w40.cell? ⟨gb274, 0, none⟩ = some (.int .i64 0) := (blk_cell BK274.out 0).trans rfl; have hcz41_1 : w40.cell? ⟨gb274, 1, none⟩ = some (.int .i64 0) := (blk_cell BK274.out 1).trans rfl; have hcz41_2 : w40.cell? ⟨gb274, 2, none⟩ = some (.int .i64 0) := (blk_cell BK274.out 2).trans rfl; have hfz41_0 := blk_frozen BK274.out 0; have hfz41_1 := blk_frozen BK274.out 1; have hfz41_2 := blk_frozen BK274.out 2) | ((with_reducible refine gate_store (t := 33) (p := 5) rfl ?_); refine store_event (t := 33) (p := 5) (v := ?vo_w42) (w1 := (((w40.setCell ⟨gb274, 0, none⟩ (.int .i64 ((rd_T33 l0 x4_1).f0))).setCell ⟨gb274, 1, none⟩ (.int .i64 ((rd_T33 l0 x4_1).f1))).setCell ⟨gb274, 2, none⟩ (.int .i64 ((rd_T33 l0 x4_1).f2)))) ?hg ?ho ?hn ?hr ?_; (case ho => rfl); (case hg => rfl); (case hn => rfl); (case hr => first | (go_simp; done) | (go_simp; rfl)); intro w42 hw; have n0_ : Aside0 (Kd.V k49 49 w42 w.heap.size (fun k_ => k_ ≠ gb274) u3 x3_1) := ⟨(by rw [hw]; exact (by (with_reducible repeat (first | apply Kd.V_alloc | apply Kd.V_drewN | apply Kd.V_drew)); exact Kd.V_mono (Kd.V_far (p := ⟨gb274, 2, none⟩) (Kd.V_far (p := ⟨gb274, 1, none⟩) (Kd.V_far (p := ⟨gb274, 0, none⟩) (Kd.V_mono HO_3.out (fun k_ hk => (⟨hk, hk.2⟩ : _ ∧ k_ ≠ gb274))) (fun _ hk => hk.2) (.int .i64 ((rd_T33 l0 x4_1).f0))) (fun _ hk => hk.2) (.int .i64 ((rd_T33 l0 x4_1).f1))) (fun _ hk => hk.2) (.int .i64 ((rd_T33 l0 x4_1).f2))) (fun _ hk => hk.1.2)))⟩; have n1_ : Aside0 (w42.heap[gb274]? = some (.cells #[.int .i64 ((rd_T33 l0 x4_1).f0), .int .i64 ((rd_T33 l0 x4_1).f1), .int .i64 ((rd_T33 l0 x4_1).f2)] 33 (0, 0))) := ⟨(by rw [hw]; exact (by (with_reducible repeat (first | refine blk_drewN ?_ _ | refine blk_drew ?_ | refine blk_alloc ?_ _)); refine blk_put (cs := #[.int .i64 ((rd_T33 l0 x4_1).f0), .int .i64 ((rd_T33 l0 x4_1).f1), .int .i64 0]) ?_ 2 _ rfl; (with_reducible repeat (first | refine blk_drewN ?_ _ | refine blk_drew ?_ | refine blk_alloc ?_ _)); refine blk_put (cs := #[.int .i64 ((rd_T33 l0 x4_1).f0), .int .i64 0, .int .i64 0]) ?_ 1 _ rfl; (with_reducible repeat (first | refine blk_drewN ?_ _ | refine blk_drew ?_ | refine blk_alloc ?_ _)); refine blk_put (cs := #[.int .i64 0, .int .i64 0, .int .i64 0]) ?_ 0 _ rfl; (with_reducible repeat (first | refine blk_drewN ?_ _ | refine blk_drew ?_ | refine blk_alloc ?_ _)); exact BK274.out))⟩; have n2_ : Aside0 (Below w.heap.size w w42) := ⟨(by rw [hw]; exact (belg_ GE274.out))⟩; clear hw; clear HO_3; clear BK274; clear HB; have HO_3 := n0_; have BK274 := n1_; have HB := n2_; clear n0_ n1_ n2_; have hcz43_0 : w42.cell? ⟨gb274, 0, none⟩ = some (.int .i64 ((rd_T33 l0 x4_1).f0)) := (blk_cell BK274.out 0).trans rfl; have hcz43_1 : w42.cell? ⟨gb274, 1, none⟩ = some (.int .i64 ((rd_T33 l0 x4_1).f1)) := (blk_cell BK274.out 1).trans rfl; have hcz43_2 : w42.cell? ⟨gb274, 2, none⟩ = some (.int .i64 ((rd_T33 l0 x4_1).f2)) := (blk_cell BK274.out 2).trans rfl; have hfz43_0 := blk_frozen BK274.out 0; have hfz43_1 := blk_frozen BK274.out 1; have hfz43_2 := blk_frozen BK274.out 2; obtain ⟨Ao44, co44, eo44⟩ := Kd.V_slice HO_3.out; subst eo44) | ((with_reducible refine gate_callee (f := 20) rfl ?_); refine goesL_ (some 71) rfl rfl Try.func20 (by kernel_rfl) rfl #[.slice Ao44 x3_1.length co44, .int .i64 ((rd_T33 l0 x4_1).f1)] rfl margs_ ?_; (with_reducible refine (tree_Remove.calls (fun k_ => k_ ≠ gb274) _ _ x3_1 ((rd_T33 l0 x4_1).f1) t287 t290 _ ?side1 A36.out).mono ?_); (case side1 => exact HO_3.out); rintro e w45 ⟨v288, rfl, ho0, hb⟩; refine ⟨_, rfl, ?_⟩; have n0_ := Aside0.mk (Kd.V_below (by (with_reducible repeat (first | apply Kd.V_alloc | apply Kd.V_drewN | apply Kd.V_drew)); exact HO_3.out) hb); have n1_ := Aside0.mk (Kd.V_lower (Kd.V_mono (ok' := fun k_ => k_ ≠ gb274) ho0 (fun k_ hk_ => Or.elim hk_ (fun hs_ => hs_) (fun hn_ => (Kd.freshB (g := gb274) (o := .cells #[.int .i64 ((rd_T33 l0 x4_1).f0), .int .i64 ((rd_T33 l0 x4_1).f1), .int .i64 ((rd_T33 l0 x4_1).f2)] 33 (0, 0)) (blkx_ BK274.out) k_ hn_)))) (below_size (belg_ GE274.out))); have n2_ := Aside0.mk (blk_below (g := gb274) (o := .cells #[.int .i64 ((rd_T33 l0 x4_1).f0), .int .i64 ((rd_T33 l0 x4_1).f1), .int .i64 ((rd_T33 l0 x4_1).f2)] 33 (0, 0)) (blkx_ BK274.out) hb); have n3_ := Aside0.mk (below_step (belg_ GE274.out) hb); clear HO_3; clear BK274; clear HB; have HO_3 := n0_; have HO289 := n1_; have BK274 := n2_; have HB := n3_; clear n0_ n1_ n2_ n3_; (try clear hb); (try clear hb2); (try clear hk); (try clear hi); (try clear ho0); obtain ⟨Ao46, co46, eo46⟩ := Kd.V_slice HO289.out; subst eo46) | ((with_reducible refine gate_callee (f := 23) rfl ?_); refine goesL_ (some 76) rfl rfl Try.func23 (by kernel_rfl) rfl #[.slice Ao46 t287.length co46] rfl margs_ ?_; (with_reducible refine (limelightref01_May.calls _ _ t287 true _ ?side1 ?side2 A37.out).mono ?_); (case side1 => exact kcb_ ((Kd.V_reads' HO289.out).2.2)); (case side2 => exact (Kd.V_reads' HO289.out).2.1); rintro e w47 ⟨rfl, hb⟩; refine ⟨_, rfl, ?_⟩; have n0_ := Aside0.mk (Kd.V_below (by (with_reducible repeat (first | apply Kd.V_alloc | apply Kd.V_drewN | apply Kd.V_drew)); exact HO_3.out) hb); have n1_ := Aside0.mk (Kd.V_below (by (with_reducible repeat (first | apply Kd.V_alloc | apply Kd.V_drewN | apply Kd.V_drew)); exact HO289.out) hb); have n2_ := Aside0.mk (blk_below (g := gb274) (o := .cells #[.int .i64 ((rd_T33 l0 x4_1).f0), .int .i64 ((rd_T33 l0 x4_1).f1), .int .i64 ((rd_T33 l0 x4_1).f2)] 33 (0, 0)) (blkx_ BK274.out) hb); have n3_ := Aside0.mk (below_step (belg_ GE274.out) hb); clear HO_3; clear HO289; clear BK274; clear HB; have HO_3 := n0_; have HO289 := n1_; have BK274 := n2_; have HB := n3_; clear n0_ n1_ n2_ n3_; (try clear hb); (try clear hb2); (try clear hk); (try clear hi)))
           go_roundg k1
           case measure => have := HK1.out; omega
           case rel => exact ⟨(t287), (wrap64 (x4_1 + 1)), (by first | rfl | (simp; done) | (simp [*]; done)), H', ⟨by have := HK1.out; omega⟩, ⟨by (with_reducible repeat (first | apply Kd.V_alloc | apply Kd.V_drewN | apply Kd.V_drew)); exact Kd.V_mono HO289.out (fun _ hk => trivial)⟩, ⟨belg_ GE274.out⟩⟩
         ·replace c38 := Bool.eq_false_iff.mpr c38
          subst c38
          have H1 : (none) = some r := by rw [if_neg (show ¬ (false = true) by decide)] at H; exact H
          clear H
          have H := H1
          clear H1
          exact absurd H (by simp)
        ·rw [if_neg c35] at H
         have c35b0 : (((rd_T33 l0 x4_1).f2) == (-4)) = false := beq_eq_false_iff_ne.mpr c35
         have c35b1 : (((rd_T33 l0 x4_1).f2) != (-4)) = true := bne_iff_ne.mpr c35
         replace H := Option.bind_eq_some_iff.mp H
         obtain ⟨⟨t292, t293, t294⟩, A480, H⟩ := H
         replace H : ((tree_Insert.f x3_1 t292 t293 t294).bind fun bt295 => ((limelightref01_May.f bt295.1).bind fun t299 => (if t299 = true then (if (bt295.1.length : Int) > (wrap64 ((wrap64 (1 + x4_1)) + 1)) then (none) else (limelightlaw01_TreeStays.l0 k1 l0 bt295.1 (wrap64 (x4_1 + 1)))) else (none)))) = some r := H
         have A48 := Aside0.mk A480
         clear A480
         replace H := Option.bind_eq_some_iff.mp H
         obtain ⟨⟨t295, t298⟩, A490, H⟩ := H
         replace H : ((limelightref01_May.f t295).bind fun t299 => (if t299 = true then (if (t295.length : Int) > (wrap64 ((wrap64 (1 + x4_1)) + 1)) then (none) else (limelightlaw01_TreeStays.l0 k1 l0 t295 (wrap64 (x4_1 + 1)))) else (none))) = some r := H
         have A49 := Aside0.mk A490
         clear A490
         replace H := Option.bind_eq_some_iff.mp H
         obtain ⟨t299, A500, H⟩ := H
         replace H : (if t299 = true then (if (t295.length : Int) > (wrap64 ((wrap64 (1 + x4_1)) + 1)) then (none) else (limelightlaw01_TreeStays.l0 k1 l0 t295 (wrap64 (x4_1 + 1)))) else (none)) = some r := H
         have A50 := Aside0.mk A500
         clear A500
         by_cases c51 : t299 = true
         ·subst c51
          have H1 : (if (t295.length : Int) > (wrap64 ((wrap64 (1 + x4_1)) + 1)) then (none) else (limelightlaw01_TreeStays.l0 k1 l0 t295 (wrap64 (x4_1 + 1)))) = some r := by rw [if_pos rfl] at H; exact H
          clear H
          have H := H1
          clear H1
          by_cases c52 : (t295.length : Int) > (wrap64 ((wrap64 (1 + x4_1)) + 1))
          ·rw [if_pos c52] at H
           exact absurd H (by simp)
          ·rw [if_neg c52] at H
           have c52b0 : decide ((wrap64 ((wrap64 (1 + x4_1)) + 1)) < (t295.length : Int)) = false := decide_eq_false c52
           clear c52
           have H' := Aside0.mk H
           clear H
           have p273 : 0 ≤ (x4_1 : Int) := of_decide_eq_true asm_
           have q273 : x4_1 < (l0.length : Int) := of_decide_eq_true asm_
           obtain ⟨ad273, e273, hx273_0, hx273_1, hx273_2⟩ := at_T33 HR0.out x4_1 p273 q273
           cases e273
           replace hx273_0 := (HB.out.cell (World.block_lt_of_cell? w _ hx273_0)).trans hx273_0
           replace hx273_1 := (HB.out.cell (World.block_lt_of_cell? w _ hx273_1)).trans hx273_1
           replace hx273_2 := (HB.out.cell (World.block_lt_of_cell? w _ hx273_2)).trans hx273_2
           replace p273 := eq_true p273
           replace q273 := eq_true q273
           go_wp2_with (first | ((with_reducible refine gate_dst (N := 5) rfl ?_); (try (refine gate_guard (by rfl) ?_; dsimp only)); refine box_event ?hg (N := 5) ?hd (cs := #[.int .i64 0, .int .i64 0, .int .i64 0]) (t := 33) ?hr ?_; (case hd => rfl); (case hg => rfl); (case hr => first | (go_simp; done) | (go_simp; rfl)); intro gb274 hg w53 hbox hb; have n0_ := Aside0.mk (Kd.V_below (Kd.V_elderB (by (with_reducible repeat (first | apply Kd.V_alloc | apply Kd.V_drewN | apply Kd.V_drew)); exact HO_3.out) gb274 (Nat.le_of_eq hg.symm)) hb); have n1_ := Aside0.mk (below_step bel_ hb); have n2_ := Aside0.mk (hbox); have n3_ := Aside0.mk ((by rw [hg]; exact (below_size bel_) : w.heap.size ≤ gb274)); have n4_ := Aside0.mk ((by rw [hg]; exact (below_size bel_) : w.heap.size ≤ gb274)); clear HO_3; clear HB; have HO_3 := n0_; have HB := n1_; have BK274 := n2_; have GW274 := n3_; have GE274 := n4_; clear n0_ n1_ n2_ n3_ n4_; clear hb hbox hg; have hcz54_0 : w53.cell? ⟨gb274, 0, none⟩ = some (.int .i64 0) := (blk_cell BK274.out 0).trans rfl; have hcz54_1 : w53.cell? ⟨gb274, 1, none⟩ = some (.int .i64 0) := (blk_cell BK274.out 1).trans rfl; have hcz54_2 : w53.cell? ⟨gb274, 2, none⟩ = some (.int .i64 0) := (blk_cell BK274.out 2).trans rfl; have hfz54_0 := blk_frozen BK274.out 0; have hfz54_1 := blk_frozen BK274.out 1; have hfz54_2 := blk_frozen BK274.out 2) | ((with_reducible refine gate_callee (f := 18) rfl ?_); refine goesL_ (some 36) rfl rfl Try.func18 (by kernel_rfl) rfl #[.agg #[.int .i64 ((rd_T33 l0 x4_1).f0), .int .i64 ((rd_T33 l0 x4_1).f1), .int .i64 ((rd_T33 l0 x4_1).f2)]] rfl margs_ ?_; (with_reducible refine (limelightlaw01_own.calls ((rd_T33 l0 x4_1).f0) ((rd_T33 l0 x4_1).f1) ((rd_T33 l0 x4_1).f2) t292 t293 t294 _ A48.out).mono ?_); rintro e w55 ⟨rfl, hb⟩; refine ⟨_, rfl, ?_⟩; have n0_ := Aside0.mk (Kd.V_below (by (with_reducible repeat (first | apply Kd.V_alloc | apply Kd.V_drewN | apply Kd.V_drew)); exact (Kd.V_mono (Kd.V_far (p := ⟨gb274, 2, none⟩) (Kd.V_far (p := ⟨gb274, 1, none⟩) (Kd.V_far (p := ⟨gb274, 0, none⟩) (Kd.V_mono HO_3.out (fun k_ hk => (⟨hk, hk.2⟩ : _ ∧ k_ ≠ gb274))) (fun _ hk => hk.2) (.int .i64 ((rd_T33 l0 x4_1).f0))) (fun _ hk => hk.2) (.int .i64 ((rd_T33 l0 x4_1).f1))) (fun _ hk => hk.2) (.int .i64 ((rd_T33 l0 x4_1).f2))) (fun _ h_ => h_.1))) hb); have n1_ := Aside0.mk (blk_below (g := gb274) (o := .cells #[.int .i64 ((rd_T33 l0 x4_1).f0), .int .i64 ((rd_T33 l0 x4_1).f1), .int .i64 ((rd_T33 l0 x4_1).f2)] 33 (0, 0)) (by (with_reducible repeat (first | refine blk_drewN ?_ _ | refine blk_drew ?_ | refine blk_alloc ?_ _)); refine blk_put (cs := #[.int .i64 ((rd_T33 l0 x4_1).f0), .int .i64 ((rd_T33 l0 x4_1).f1), .int .i64 0]) ?_ 2 _ rfl; (with_reducible repeat (first | refine blk_drewN ?_ _ | refine blk_drew ?_ | refine blk_alloc ?_ _)); refine blk_put (cs := #[.int .i64 ((rd_T33 l0 x4_1).f0), .int .i64 0, .int .i64 0]) ?_ 1 _ rfl; (with_reducible repeat (first | refine blk_drewN ?_ _ | refine blk_drew ?_ | refine blk_alloc ?_ _)); refine blk_put (cs := #[.int .i64 0, .int .i64 0, .int .i64 0]) ?_ 0 _ rfl; (with_reducible repeat (first | refine blk_drewN ?_ _ | refine blk_drew ?_ | refine blk_alloc ?_ _)); exact BK274.out) hb); have n2_ := Aside0.mk (below_step (belg_ GE274.out) hb); clear HO_3; clear BK274; clear HB; have HO_3 := n0_; have BK274 := n1_; have HB := n2_; clear n0_ n1_ n2_; (try clear hb); (try clear hb2); (try clear hk); (try clear hi); obtain ⟨Ao56, co56, eo56⟩ := Kd.V_slice HO_3.out; subst eo56) | ((with_reducible refine gate_callee (f := 17) rfl ?_); refine goesL_ (some 37) rfl rfl Try.func17 (by kernel_rfl) rfl #[.slice Ao56 x3_1.length co56, .agg #[.int .i64 t292, .int .i64 t293, .int .i64 t294]] rfl margs_ ?_; (with_reducible refine (tree_Insert.calls (fun k_ => (True ∧ k_ ≠ gb274)) _ _ x3_1 t292 t293 t294 t295 t298 _ ?side1 A49.out).mono ?_); (case side1 => exact HO_3.out); rintro e w57 ⟨v296, rfl, ho0, hb⟩; refine ⟨_, rfl, ?_⟩; have n0_ := Aside0.mk (Kd.V_below (by (with_reducible repeat (first | apply Kd.V_alloc | apply Kd.V_drewN | apply Kd.V_drew)); exact HO_3.out) hb); have n1_ := Aside0.mk (Kd.V_lower (Kd.V_mono (ok' := fun k_ => k_ ≠ gb274) ho0 (fun k_ hk_ => Or.elim hk_ (fun hs_ => hs_.2) (fun hn_ => (Kd.freshB (g := gb274) (o := .cells #[.int .i64 ((rd_T33 l0 x4_1).f0), .int .i64 ((rd_T33 l0 x4_1).f1), .int .i64 ((rd_T33 l0 x4_1).f2)] 33 (0, 0)) (blkx_ BK274.out) k_ hn_)))) (below_size (belg_ GE274.out))); have n2_ := Aside0.mk (blk_below (g := gb274) (o := .cells #[.int .i64 ((rd_T33 l0 x4_1).f0), .int .i64 ((rd_T33 l0 x4_1).f1), .int .i64 ((rd_T33 l0 x4_1).f2)] 33 (0, 0)) (blkx_ BK274.out) hb); have n3_ := Aside0.mk (below_step (belg_ GE274.out) hb); clear HO_3; clear BK274; clear HB; have HO_3 := n0_; have HO297 := n1_; have BK274 := n2_; have HB := n3_; clear n0_ n1_ n2_ n3_; (try clear hb); (try clear hb2); (try clear hk); (try clear hi); (try clear ho0); obtain ⟨Ao58, co58, eo58⟩ := Kd.V_slice HO297.out; subst eo58) | ((with_reducible refine gate_callee (f := 23) rfl ?_); refine goesL_ (some 76) rfl rfl Try.func23 (by kernel_rfl) rfl #[.slice Ao58 t295.length co58] rfl margs_ ?_; (with_reducible refine (limelightref01_May.calls _ _ t295 true _ ?side1 ?side2 A50.out).mono ?_); (case side1 => exact kcb_ ((Kd.V_reads' HO297.out).2.2)); (case side2 => exact (Kd.V_reads' HO297.out).2.1); rintro e w59 ⟨rfl, hb⟩; refine ⟨_, rfl, ?_⟩; have n0_ := Aside0.mk (Kd.V_below (by (with_reducible repeat (first | apply Kd.V_alloc | apply Kd.V_drewN | apply Kd.V_drew)); exact HO_3.out) hb); have n1_ := Aside0.mk (Kd.V_below (by (with_reducible repeat (first | apply Kd.V_alloc | apply Kd.V_drewN | apply Kd.V_drew)); exact HO297.out) hb); have n2_ := Aside0.mk (blk_below (g := gb274) (o := .cells #[.int .i64 ((rd_T33 l0 x4_1).f0), .int .i64 ((rd_T33 l0 x4_1).f1), .int .i64 ((rd_T33 l0 x4_1).f2)] 33 (0, 0)) (blkx_ BK274.out) hb); have n3_ := Aside0.mk (below_step (belg_ GE274.out) hb); clear HO_3; clear HO297; clear BK274; clear HB; have HO_3 := n0_; have HO297 := n1_; have BK274 := n2_; have HB := n3_; clear n0_ n1_ n2_ n3_; (try clear hb); (try clear hb2); (try clear hk); (try clear hi)))
           go_roundg k1
           case measure => have := HK1.out; omega
           case rel => exact ⟨(t295), (wrap64 (x4_1 + 1)), (by first | rfl | (simp; done) | (simp [*]; done)), H', ⟨by have := HK1.out; omega⟩, ⟨by (with_reducible repeat (first | apply Kd.V_alloc | apply Kd.V_drewN | apply Kd.V_drew)); exact Kd.V_mono HO297.out (fun _ hk => trivial)⟩, ⟨belg_ GE274.out⟩⟩
         ·replace c51 := Bool.eq_false_iff.mpr c51
          subst c51
          have H1 : (none) = some r := by rw [if_neg (show ¬ (false = true) by decide)] at H; exact H
          clear H
          have H := H1
          clear H1
          exact absurd H (by simp)
     ·rw [if_neg c8] at H
      exact absurd H (by simp)
    ·rw [if_neg c7] at H
     have c7b0 : decide (x4_1 < (l0.length : Int)) = false := decide_eq_false c7
     clear c7
     replace H := Option.bind_eq_some_iff.mp H
     obtain ⟨t272, A600, H⟩ := H
     replace H : (some t272) = some r := H
     have A60 := Aside0.mk A600
     clear A600
     obtain rfl := Option.some.inj H
     go_wp2_with (first | ((with_reducible refine gate_callee (f := 10) rfl ?_); refine goesL_ (some 86) rfl rfl Try.func10 (by kernel_rfl) rfl #[] rfl margs_ ?_; (with_reducible refine (limelightlaw01_live.calls  t272 _ A60.out).mono ?_); rintro e w61 ⟨rfl, hb⟩; refine ⟨_, rfl, ?_⟩; have n0_ := Aside0.mk (Kd.V_below (by (with_reducible repeat (first | apply Kd.V_alloc | apply Kd.V_drewN | apply Kd.V_drew)); exact HO_3.out) hb); have n1_ := Aside0.mk (below_step bel_ hb); clear HO_3; clear HB; have HO_3 := n0_; have HB := n1_; clear n0_ n1_; (try clear hb); (try clear hb2); (try clear hk); (try clear hi)))
     go_ret
     exact ⟨by first | rfl | (simp [errW_none, errW_some] <;> rfl) | (simp [*, errW_none, errW_some] <;> rfl), bel_⟩

end Go.Proofs.Ytclhmgchllenlaa.P
