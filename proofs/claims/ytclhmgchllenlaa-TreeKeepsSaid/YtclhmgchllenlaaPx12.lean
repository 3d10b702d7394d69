import Derived.Test.YtclhmgchllenlaaPx0
import Derived.Test.YtclhmgchllenlaaPx1
import Derived.Test.YtclhmgchllenlaaPx4
import Derived.Test.YtclhmgchllenlaaPx6
import Derived.Test.YtclhmgchllenlaaGMk
import Derived.Test.YtclhmgchllenlaaLiv01
import Derived.Test.YtclhmgchllenlaaME
-- printed by wip/tools/pp.sh (a patched copy of the print's program), for this claim.
namespace Go.Proofs.Ytclhmgchllenlaa.P
open Go.RowKit Go.Proofs.YtclhmgchllenlaaW.PrintWords Go.Proofs.YtclhmgchllenlaaW.PrintLast Go.Proofs.YtclhmgchllenlaaW.PrintMore
attribute [local go_sem] max2_int min2_int max_two min_two max_three min_three max_four min_four   -- for this text's walks alone
set_option linter.unusedVariables false
set_option linter.unusedSimpArgs false

/-! ### limelightlaw01_TreeKeeps: function 8 -/
mutual
def limelightlaw01_TreeKeeps.l0 : Nat → List (S49) → List (List (S49)) → Int → Option (Bool)
 | 0, _, _, _ => none
 | k + 1, x0, x12, x13 => if x13 < 3 then (if 0 ≤ x13 then (if x13 < (x12.length : Int) then (if ((rd_L5 x12 x13).length : Int) = 0 then (limelightlaw01_TreeKeeps.l0 k x0 x12 (wrap64 (x13 + 1))) else (if ((rd_L5 x12 x13).length : Int) < (x0.length : Int) then (none) else (limelightlaw01_TreeKeeps.l1 k x0 x12 x13 0))) else (none)) else (none)) else ((limelightlaw01_live.f).bind fun t359 => (some t359))
def limelightlaw01_TreeKeeps.l1 : Nat → List (S49) → List (List (S49)) → Int → Int → Option (Bool)
 | 0, _, _, _, _ => none
 | k + 1, x0, x12, x13, x14 => if x14 < (x0.length : Int) then (if 0 ≤ x13 then (if x13 < (x12.length : Int) then (if 0 ≤ x14 then (if x14 < ((rd_L5 x12 x13).length : Int) then ((limelightref01_One.f k ((rd_T49 (rd_L5 x12 x13) x14).f0) ((rd_T49 (rd_L5 x12 x13) x14).f1) ((rd_T49 x0 x14).f2) ((rd_T49 x0 x14).f3) ((rd_T49 (rd_L5 x12 x13) x14).f4) ((rd_T49 (rd_L5 x12 x13) x14).f5) ((rd_T49 (rd_L5 x12 x13) x14).f6) ((rd_T49 x0 x14).f0) ((rd_T49 x0 x14).f1) ((rd_T49 x0 x14).f2) ((rd_T49 x0 x14).f3) ((rd_T49 x0 x14).f4) ((rd_T49 x0 x14).f5) ((rd_T49 x0 x14).f6)).bind fun t368 => (if t368 = true then (limelightlaw01_TreeKeeps.l1 k x0 x12 x13 (wrap64 (x14 + 1))) else (none))) else (none)) else (none)) else (none)) else (none)) else (limelightlaw01_TreeKeeps.l0 k x0 x12 (wrap64 (x13 + 1)))
end
def limelightlaw01_TreeKeeps.f (k : Nat) (l0 : List (S49)) (a1_0 : Int) (a1_1 : Int) (a1_2 : Int) : Option (Bool) := (limelightref01_Small.f l0).bind fun t338 => (if t338 = true then ((limelightlaw01_own.f a1_0 a1_1 a1_2).bind fun bt340 => ((tree_Insert.f l0 bt340.1 bt340.2.1 bt340.2.2).bind fun bt343 => ((tree_Remove.f l0 a1_1).bind fun bt347 => ((tree_Make.f l0 a1_0 a1_1).bind fun bt351 => (limelightlaw01_TreeKeeps.l0 k l0 (([bt343.1, bt347.1, bt351.1] : List (List (S49)))) 0))))) else ((limelightlaw01_live.f).bind fun t339 => (some t339)))
theorem limelightlaw01_TreeKeeps.mono_l : ∀ k, (∀ y0 y1 y2, LeO (limelightlaw01_TreeKeeps.l0 k y0 y1 y2) (limelightlaw01_TreeKeeps.l0 (k + 1) y0 y1 y2)) ∧ (∀ y0 y1 y2 y3, LeO (limelightlaw01_TreeKeeps.l1 k y0 y1 y2 y3) (limelightlaw01_TreeKeeps.l1 (k + 1) y0 y1 y2 y3))
 | 0 => ⟨fun _ _ _ r h => by simp [limelightlaw01_TreeKeeps.l0] at h, fun _ _ _ _ r h => by simp [limelightlaw01_TreeKeeps.l1] at h⟩
 | k + 1 => by
  obtain ⟨ih0, ih1⟩ := limelightlaw01_TreeKeeps.mono_l k
  refine ⟨?_, ?_⟩
  ·intro y0 y1 y2
   unfold limelightlaw01_TreeKeeps.l0
   repeat' first
   | (with_reducible exact ih0 _ _ _)
   | (with_reducible exact ih1 _ _ _ _)
   | (with_reducible exact limelightref01_One.mono _ _ _ _ _ _ _ _ _ _ _ _ _ _ _)
   | (with_reducible exact LeO.refl _)
   | (with_reducible exact LeO.none _)
   | (with_reducible refine LeO.ite ?_ ?_)
   | (with_reducible refine LeO.bind ?_ (fun _ => ?_))
   | exact ih0 _ _ _
   | exact ih1 _ _ _ _
   | exact limelightref01_One.mono _ _ _ _ _ _ _ _ _ _ _ _ _ _ _
   | exact LeO.none _
   | refine LeO.ite ?_ ?_
   | refine LeO.bind ?_ (fun _ => ?_)
  ·intro y0 y1 y2 y3
   unfold limelightlaw01_TreeKeeps.l1
   repeat' first
   | (with_reducible exact ih0 _ _ _)
   | (with_reducible exact ih1 _ _ _ _)
   | (with_reducible exact limelightref01_One.mono _ _ _ _ _ _ _ _ _ _ _ _ _ _ _)
   | (with_reducible exact LeO.refl _)
   | (with_reducible exact LeO.none _)
   | (with_reducible refine LeO.ite ?_ ?_)
   | (with_reducible refine LeO.bind ?_ (fun _ => ?_))
   | exact ih0 _ _ _
   | exact ih1 _ _ _ _
   | exact limelightref01_One.mono _ _ _ _ _ _ _ _ _ _ _ _ _ _ _
   | exact LeO.none _
   | refine LeO.ite ?_ ?_
   | refine LeO.bind ?_ (fun _ => ?_)
theorem limelightlaw01_TreeKeeps.mono : ∀ a0 a1 a2 a3 k, LeO (limelightlaw01_TreeKeeps.f k a0 a1 a2 a3) (limelightlaw01_TreeKeeps.f (k + 1) a0 a1 a2 a3) := by
 intro a0 a1 a2 a3 k
 obtain ⟨ih0, ih1⟩ := limelightlaw01_TreeKeeps.mono_l k
 unfold limelightlaw01_TreeKeeps.f
 repeat' first
   | (with_reducible exact ih0 _ _ _)
   | (with_reducible exact ih1 _ _ _ _)
   | (with_reducible exact limelightref01_One.mono _ _ _ _ _ _ _ _ _ _ _ _ _ _ _)
   | (with_reducible exact LeO.refl _)
   | (with_reducible exact LeO.none _)
   | (with_reducible refine LeO.ite ?_ ?_)
   | (with_reducible refine LeO.bind ?_ (fun _ => ?_))
   | exact ih0 _ _ _
   | exact ih1 _ _ _ _
   | exact limelightref01_One.mono _ _ _ _ _ _ _ _ _ _ _ _ _ _ _
   | exact LeO.none _
   | refine LeO.ite ?_ ?_
   | refine LeO.bind ?_ (fun _ => ?_)
set_option maxHeartbeats 8000000 in
set_option maxRecDepth 100000 in
theorem limelightlaw01_TreeKeeps.calls (k : Nat) (A0 : Option Addr) (c0 : Nat) (l0 : List (S49)) (a1_0 : Int) (a1_1 : Int) (a1_2 : Int) (r : Bool) (w : World) (hr0 : Kd.C k49 w A0 l0.length l0) (hc0 : l0.length ≤ c0) (h : limelightlaw01_TreeKeeps.f k l0 a1_0 a1_1 a1_2 = some r) :
  Calls Try.prog 8 #[.slice A0 l0.length c0, .agg #[.int .i64 a1_0, .int .i64 a1_1, .int .i64 a1_2]] w fun e w' => e = .returned (.bool r) ∧ Below w.heap.size w w' := by
 have hu33 := Try.underlying33
 have hu49 := Try.underlying49
 have HR0 := Aside0.mk hr0
 have HC0 := Aside0.mk hc0
 clear hr0 hc0
 have HB := Aside0.mk (Below.refl w.heap.size w)
 have H : ((limelightref01_Small.f l0).bind fun t338 => (if t338 = true then ((limelightlaw01_own.f a1_0 a1_1 a1_2).bind fun bt340 => ((tree_Insert.f l0 bt340.1 bt340.2.1 bt340.2.2).bind fun bt343 => ((tree_Remove.f l0 a1_1).bind fun bt347 => ((tree_Make.f l0 a1_0 a1_1).bind fun bt351 => (limelightlaw01_TreeKeeps.l0 k l0 (([bt343.1, bt347.1, bt351.1] : List (List (S49)))) 0))))) else ((limelightlaw01_live.f).bind fun t339 => (some t339)))) = some r := h
 clear h
 replace H := Option.bind_eq_some_iff.mp H
 obtain ⟨t338, A30, H⟩ := H
 replace H : (if t338 = true then ((limelightlaw01_own.f a1_0 a1_1 a1_2).bind fun bt340 => ((tree_Insert.f l0 bt340.1 bt340.2.1 bt340.2.2).bind fun bt343 => ((tree_Remove.f l0 a1_1).bind fun bt347 => ((tree_Make.f l0 a1_0 a1_1).bind fun bt351 => (limelightlaw01_TreeKeeps.l0 k l0 (([bt343.1, bt347.1, bt351.1] : List (List (S49)))) 0))))) else ((limelightlaw01_live.f).bind fun t339 => (some t339))) = some r := H
 have A3 := Aside0.mk A30
 clear A30
 by_cases c4 : t338 = true
 ·subst c4
  have H1 : ((limelightlaw01_own.f a1_0 a1_1 a1_2).bind fun bt340 => ((tree_Insert.f l0 bt340.1 bt340.2.1 bt340.2.2).bind fun bt343 => ((tree_Remove.f l0 a1_1).bind fun bt347 => ((tree_Make.f l0 a1_0 a1_1).bind fun bt351 => (limelightlaw01_TreeKeeps.l0 k l0 (([bt343.1, bt347.1, bt351.1] : List (List (S49)))) 0))))) = some r := by rw [if_pos rfl] at H; exact H
  clear H
  have H := H1
  clear H1
  replace H := Option.bind_eq_some_iff.mp H
  obtain ⟨⟨t340, t341, t342⟩, A50, H⟩ := H
  replace H : ((tree_Insert.f l0 t340 t341 t342).bind fun bt343 => ((tree_Remove.f l0 a1_1).bind fun bt347 => ((tree_Make.f l0 a1_0 a1_1).bind fun bt351 => (limelightlaw01_TreeKeeps.l0 k l0 (([bt343.1, bt347.1, bt351.1] : List (List (S49)))) 0)))) = some r := H
  have A5 := Aside0.mk A50
  clear A50
  replace H := Option.bind_eq_some_iff.mp H
  obtain ⟨⟨t343, t346⟩, A60, H⟩ := H
  replace H : ((tree_Remove.f l0 a1_1).bind fun bt347 => ((tree_Make.f l0 a1_0 a1_1).bind fun bt351 => (limelightlaw01_TreeKeeps.l0 k l0 (([t343, bt347.1, bt351.1] : List (List (S49)))) 0))) = some r := H
  have A6 := Aside0.mk A60
  clear A60
  replace H := Option.bind_eq_some_iff.mp H
  obtain ⟨⟨t347, t350⟩, A70, H⟩ := H
  replace H : ((tree_Make.f l0 a1_0 a1_1).bind fun bt351 => (limelightlaw01_TreeKeeps.l0 k l0 (([t343, t347, bt351.1] : List (List (S49)))) 0)) = some r := H
  have A7 := Aside0.mk A70
  clear A70
  replace H := Option.bind_eq_some_iff.mp H
  obtain ⟨⟨t351, t354, t355⟩, A80, H⟩ := H
  replace H : (limelightlaw01_TreeKeeps.l0 k l0 (([t343, t347, t351] : List (List (S49)))) 0) = some r := H
  have A8 := Aside0.mk A80
  clear A80
  obtain ⟨y356, hy356⟩ : ∃ y_ : List (List (S49)), y_ = (([t343, t347, t351] : List (List (S49)))) := ⟨_, rfl⟩
  replace H : (limelightlaw01_TreeKeeps.l0 k l0 y356 0) = some r := by first | (rw [hy356]; with_reducible exact H) | (have H2_ := (Option.bind_some _ _).symm.trans H; rw [hy356]; with_reducible exact H2_) | (have H2_ := (Option.bind_some _ _).symm.trans H; with_reducible exact H2_) | with_reducible exact H | (rw [hy356]; exact H) | exact H
  have Ny356 := Aside0.mk hy356
  clear hy356
  have H' := Aside0.mk H
  clear H
  go_enter Try.func8, Try.ntmps8
  go_wp2_with (first | ((with_reducible refine gate_dst (N := 3) rfl ?_); refine box_event ?hg (N := 3) ?hd (cs := #[.int .i64 a1_0, .int .i64 a1_1, .int .i64 a1_2]) (t := 33) ?hr ?_; (case hd => rfl); (case hg => rfl); (case hr => first | (go_simp; done) | (go_simp; rfl)); intro gb337 hg w9 hbox hb; have n0_ := Aside0.mk (below_step bel_ hb); have n1_ := Aside0.mk (hbox); have n2_ := Aside0.mk ((by rw [hg]; exact (below_size bel_) : w.heap.size ≤ gb337)); have n3_ := Aside0.mk ((by rw [hg]; exact (below_size bel_) : w.heap.size ≤ gb337)); clear HB; have HB := n0_; have BK337 := n1_; have GW337 := n2_; have GE337 := n3_; clear n0_ n1_ n2_ n3_; clear hb hbox hg) | ((with_reducible refine gate_callee (f := 9) rfl ?_); refine goesL_ (some 17) rfl rfl Try.func9 (by kernel_rfl) rfl #[.slice A0 l0.length c0] rfl margs_ ?_; (with_reducible refine (limelightref01_Small.calls _ _ l0 true _ ?side1 ?side2 A3.out).mono ?_); (case side1 => exact kcb_ ((Kd.C_below HR0.out HB.out))); (case side2 => exact HC0.out); rintro e w10 ⟨rfl, hb⟩; refine ⟨_, rfl, ?_⟩; have n0_ := Aside0.mk (blk_below (g := gb337) (o := .cells #[.int .i64 a1_0, .int .i64 a1_1, .int .i64 a1_2] 33 (0, 0)) (blkx_ BK337.out) hb); have n1_ := Aside0.mk (below_step (belg_ GE337.out) hb); clear BK337; clear HB; have BK337 := n0_; have HB := n1_; clear n0_ n1_; (try clear hb); (try clear hb2); (try clear hk); (try clear hi); have hcz11_0 : w10.cell? ⟨gb337, 0, none⟩ = some (.int .i64 a1_0) := (blk_cell BK337.out 0).trans rfl; have hcz11_1 : w10.cell? ⟨gb337, 1, none⟩ = some (.int .i64 a1_1) := (blk_cell BK337.out 1).trans rfl; have hcz11_2 : w10.cell? ⟨gb337, 2, none⟩ = some (.int .i64 a1_2) := (blk_cell BK337.out 2).trans rfl; have hfz11_0 := blk_frozen BK337.out 0; have hfz11_1 := blk_frozen BK337.out 1; have hfz11_2 := blk_frozen BK337.out 2) | ((with_reducible refine gate_callee (f := 18) rfl ?_); refine goesL_ (some 23) rfl rfl Try.func18 (by kernel_rfl) rfl #[.agg #[.int .i64 a1_0, .int .i64 a1_1, .int .i64 a1_2]] rfl margs_ ?_; (with_reducible refine (limelightlaw01_own.calls a1_0 a1_1 a1_2 t340 t341 t342 _ A5.out).mono ?_); rintro e w12 ⟨rfl, hb⟩; refine ⟨_, rfl, ?_⟩; have n0_ := Aside0.mk (blk_below (g := gb337) (o := .cells #[.int .i64 a1_0, .int .i64 a1_1, .int .i64 a1_2] 33 (0, 0)) (blkx_ BK337.out) hb); have n1_ := Aside0.mk (below_step (belg_ GE337.out) hb); clear BK337; clear HB; have BK337 := n0_; have HB := n1_; clear n0_ n1_; (try clear hb); (try clear hb2); (try clear hk); (try clear hi)) | ((with_reducible refine gate_callee (f := 17) rfl ?_); refine goesL_ (some 24) rfl rfl Try.func17 (by kernel_rfl) rfl #[.slice A0 l0.length c0, .agg #[.int .i64 t340, .int .i64 t341, .int .i64 t342]] rfl margs_ ?_; (with_reducible refine (tree_Insert.calls (fun k_ => k_ < w.heap.size) _ _ l0 t340 t341 t342 t343 t346 _ ?side1 A6.out).mono ?_); (case side1 => exact Kd.V_mk HC0.out (Kd.F_below (Kd.C_F k49_heap HR0.out) (belg_ GE337.out))); rintro e w13 ⟨v344, rfl, ho0, hb⟩; refine ⟨_, rfl, ?_⟩; have n0_ := Aside0.mk (Kd.V_lower (Kd.V_mono (ok' := fun k_ => k_ ≠ gb337) ho0 (fun k_ hk_ => Or.elim hk_ (fun hs_ => fun e_ => Nat.not_le.2 hs_ (by rw [e_]; exact GW337.out)) (fun hn_ => (Kd.freshB (g := gb337) (o := .cells #[.int .i64 a1_0, .int .i64 a1_1, .int .i64 a1_2] 33 (0, 0)) (blkx_ BK337.out) k_ hn_)))) (below_size (belg_ GE337.out))); have n1_ := Aside0.mk (blk_below (g := gb337) (o := .cells #[.int .i64 a1_0, .int .i64 a1_1, .int .i64 a1_2] 33 (0, 0)) (blkx_ BK337.out) hb); have n2_ := Aside0.mk (below_step (belg_ GE337.out) hb); clear BK337; clear HB; have HO345 := n0_; have BK337 := n1_; have HB := n2_; clear n0_ n1_ n2_; (try clear hb); (try clear hb2); (try clear hk); (try clear hi); (try clear ho0); have hcz14_0 : w13.cell? ⟨gb337, 0, none⟩ = some (.int .i64 a1_0) := (blk_cell BK337.out 0).trans rfl; have hcz14_1 : w13.cell? ⟨gb337, 1, none⟩ = some (.int .i64 a1_1) := (blk_cell BK337.out 1).trans rfl; have hcz14_2 : w13.cell? ⟨gb337, 2, none⟩ = some (.int .i64 a1_2) := (blk_cell BK337.out 2).trans rfl; have hfz14_0 := blk_frozen BK337.out 0; have hfz14_1 := blk_frozen BK337.out 1; have hfz14_2 := blk_frozen BK337.out 2) | ((with_reducible refine gate_callee (f := 20) rfl ?_); refine goesL_ (some 31) rfl rfl Try.func20 (by kernel_rfl) rfl #[.slice A0 l0.length c0, .int .i64 a1_1] rfl margs_ ?_; (with_reducible refine (tree_Remove.calls (fun k_ => k_ < w.heap.size) _ _ l0 a1_1 t347 t350 _ ?side1 A7.out).mono ?_); (case side1 => exact Kd.V_mk HC0.out (Kd.F_below (Kd.C_F k49_heap HR0.out) (belg_ GE337.out))); rintro e w15 ⟨v348, rfl, ho0, hb⟩; refine ⟨_, rfl, ?_⟩; have n0_ := Aside0.mk (Kd.V_below (by (with_reducible repeat (first | apply Kd.V_alloc | apply Kd.V_drewN | apply Kd.V_drew)); exact HO345.out) hb); have n1_ := Aside0.mk (Kd.V_lower (Kd.V_mono (ok' := fun k_ => k_ ≠ gb337) ho0 (fun k_ hk_ => Or.elim hk_ (fun hs_ => fun e_ => Nat.not_le.2 hs_ (by rw [e_]; exact GW337.out)) (fun hn_ => (Kd.freshB (g := gb337) (o := .cells #[.int .i64 a1_0, .int .i64 a1_1, .int .i64 a1_2] 33 (0, 0)) (blkx_ BK337.out) k_ hn_)))) (below_size (belg_ GE337.out))); have n2_ := Aside0.mk (blk_below (g := gb337) (o := .cells #[.int .i64 a1_0, .int .i64 a1_1, .int .i64 a1_2] 33 (0, 0)) (blkx_ BK337.out) hb); have n3_ := Aside0.mk (below_step (belg_ GE337.out) hb); clear HO345; clear BK337; clear HB; have HO345 := n0_; have HO349 := n1_; have BK337 := n2_; have HB := n3_; clear n0_ n1_ n2_ n3_; (try clear hb); (try clear hb2); (try clear hk); (try clear hi); (try clear ho0); have hcz16_0 : w15.cell? ⟨gb337, 0, none⟩ = some (.int .i64 a1_0) := (blk_cell BK337.out 0).trans rfl; have hcz16_1 : w15.cell? ⟨gb337, 1, none⟩ = some (.int .i64 a1_1) := (blk_cell BK337.out 1).trans rfl; have hcz16_2 : w15.cell? ⟨gb337, 2, none⟩ = some (.int .i64 a1_2) := (blk_cell BK337.out 2).trans rfl; have hfz16_0 := blk_frozen BK337.out 0; have hfz16_1 := blk_frozen BK337.out 1; have hfz16_2 := blk_frozen BK337.out 2) | ((with_reducible refine gate_callee (f := 11) rfl ?_); refine goesL_ (some 40) rfl rfl Try.func11 (by kernel_rfl) rfl #[.slice A0 l0.length c0, .int .i64 a1_0, .int .i64 a1_1] rfl margs_ ?_; (with_reducible refine (tree_Make.calls (fun k_ => k_ < w.heap.size) _ _ l0 a1_0 a1_1 t351 t354 t355 _ ?side1 A8.out).mono ?_); (case side1 => exact Kd.V_mk HC0.out (Kd.F_below (Kd.C_F k49_heap HR0.out) (belg_ GE337.out))); rintro e w17 ⟨v352, rfl, ho0, hb⟩; refine ⟨_, rfl, ?_⟩; have n0_ := Aside0.mk (Kd.V_below (by (with_reducible repeat (first | apply Kd.V_alloc | apply Kd.V_drewN | apply Kd.V_drew)); exact HO345.out) hb); have n1_ := Aside0.mk (Kd.V_below (by (with_reducible repeat (first | apply Kd.V_alloc | apply Kd.V_drewN | apply Kd.V_drew)); exact HO349.out) hb); have n2_ := Aside0.mk (Kd.V_lower (Kd.V_mono (ok' := fun k_ => k_ ≠ gb337) ho0 (fun k_ hk_ => Or.elim hk_ (fun hs_ => fun e_ => Nat.not_le.2 hs_ (by rw [e_]; exact GW337.out)) (fun hn_ => (Kd.freshB (g := gb337) (o := .cells #[.int .i64 a1_0, .int .i64 a1_1, .int .i64 a1_2] 33 (0, 0)) (blkx_ BK337.out) k_ hn_)))) (below_size (belg_ GE337.out))); have n3_ := Aside0.mk (blk_below (g := gb337) (o := .cells #[.int .i64 a1_0, .int .i64 a1_1, .int .i64 a1_2] 33 (0, 0)) (blkx_ BK337.out) hb); have n4_ := Aside0.mk (below_step (belg_ GE337.out) hb); clear HO345; clear HO349; clear BK337; clear HB; have HO345 := n0_; have HO349 := n1_; have HO353 := n2_; have BK337 := n3_; have HB := n4_; clear n0_ n1_ n2_ n3_ n4_; (try clear hb); (try clear hb2); (try clear hk); (try clear hi); (try clear ho0); obtain ⟨Ao18, co18, eo18⟩ := Kd.V_slice HO345.out; subst eo18; obtain ⟨Ao19, co19, eo19⟩ := Kd.V_slice HO349.out; subst eo19; obtain ⟨Ao20, co20, eo20⟩ := Kd.V_slice HO353.out; subst eo20) | ((with_reducible refine gate_dst (N := 47) rfl ?_); refine Kd.N_lit (Kd.slice 49 k49) _ 23 ?hg (N' := 47) ?hd (xs := ([t343, t347, t351] : List (List (S49)))) (inner := [.slice Ao18 t343.length co18, .slice Ao19 t347.length co19, .slice Ao20 t351.length co20]) (ok := (fun k_ => k_ ≠ gb337)) (okp := (fun k_ => k_ ≠ gb337)) ?hr ?hp (fun _ hk => hk) ((show ∀ k_, w17.heap.size ≤ k_ → (fun k_ => k_ ≠ gb337) k_ from fun k_ hk => Kd.freshB (g := gb337) (o := .cells #[.int .i64 a1_0, .int .i64 a1_1, .int .i64 a1_2] 33 (0, 0)) (blkx_ BK337.out) k_ hk) _ (Nat.le_refl _)) (Below.refl _ _) (Nat.le_refl _) (by simp) ?_; (case hd => rfl); (case hg => rfl); (case hr => first | (go_simp; done) | (go_simp; rfl)); (case hp => exact (Reps.one (show Kd.FK (Kd.slice 49 k49) _ _ t343 [.slice Ao18 t343.length co18] from (Kd.FK_slice_mk (Kd.V_reads' (Kd.V_mono (ok' := (fun k_ => k_ ≠ gb337)) (HO345.out) (fun k_ hk => hk))).2.1 (Kd.V_F (Kd.V_mono (ok' := (fun k_ => k_ ≠ gb337)) (HO345.out) (fun k_ hk => hk))))) (Reps.one (show Kd.FK (Kd.slice 49 k49) _ _ t347 [.slice Ao19 t347.length co19] from (Kd.FK_slice_mk (Kd.V_reads' (Kd.V_mono (ok' := (fun k_ => k_ ≠ gb337)) (HO349.out) (fun k_ hk => hk))).2.1 (Kd.V_F (Kd.V_mono (ok' := (fun k_ => k_ ≠ gb337)) (HO349.out) (fun k_ hk => hk))))) (Reps.one (show Kd.FK (Kd.slice 49 k49) _ _ t351 [.slice Ao20 t351.length co20] from (Kd.FK_slice_mk (Kd.V_reads' (Kd.V_mono (ok' := (fun k_ => k_ ≠ gb337)) (HO353.out) (fun k_ hk => hk))).2.1 (Kd.V_F (Kd.V_mono (ok' := (fun k_ => k_ ≠ gb337)) (HO353.out) (fun k_ hk => hk))))) (Reps.none _ _))))); intro v357 w21 ho22 hb hg_ hnew_; clear hg_ hnew_; (first | rw [← Ny356.out] at ho22 | (simp only [Int.reduceToNat] at ho22; rw [← Ny356.out] at ho22)); have n0_ := Aside0.mk (Kd.V_elder' (by (with_reducible repeat (first | apply Kd.V_alloc | apply Kd.V_drewN | apply Kd.V_drew)); exact HO345.out) (Kd.N_base ho22) hb); have n1_ := Aside0.mk (Kd.V_elder' (by (with_reducible repeat (first | apply Kd.V_alloc | apply Kd.V_drewN | apply Kd.V_drew)); exact HO349.out) (Kd.N_base ho22) hb); have n2_ := Aside0.mk (Kd.V_elder' (by (with_reducible repeat (first | apply Kd.V_alloc | apply Kd.V_drewN | apply Kd.V_drew)); exact HO353.out) (Kd.N_base ho22) hb); have n3_ := Aside0.mk (Kd.N_lower ho22 (below_size (belg_ GE337.out))); have n4_ := Aside0.mk (blk_below (g := gb337) (o := .cells #[.int .i64 a1_0, .int .i64 a1_1, .int .i64 a1_2] 33 (0, 0)) (blkx_ BK337.out) hb); have n5_ := Aside0.mk (below_step (belg_ GE337.out) hb); clear HO345; clear HO349; clear HO353; clear BK337; clear HB; have HO345 := n0_; have HO349 := n1_; have HO353 := n2_; have HO358 := n3_; have BK337 := n4_; have HB := n5_; clear n0_ n1_ n2_ n3_ n4_ n5_; clear hb ho22))
  go_loopg [13] k (fun kq v13 w' => ∃ (x13_1 : Int), v13 = .int .i64 x13_1 ∧ Aside0 (limelightlaw01_TreeKeeps.l0 kq l0 y356 x13_1 = some r) ∧ Aside0 (kq ≤ k) ∧ Aside0 (Kd.N (Kd.slice 49 k49) 23 w' w.heap.size (fun k_ => k_ ≠ gb337) v357 y356) ∧ Aside0 (w'.heap[gb337]? = some (.cells #[.int .i64 a1_0, .int .i64 a1_1, .int .i64 a1_2] 33 (0, 0))) ∧ Aside0 (Below w.heap.size w w'))
  case atStart => exact ⟨(0), (by first | rfl | (simp; done) | (simp [*]; done)), H', ⟨Nat.le_refl _⟩, ⟨by (with_reducible repeat (first | apply Kd.N_alloc | apply Kd.N_drewN | apply Kd.N_drew)); exact HO358.out⟩, ⟨blkx_ BK337.out⟩, ⟨belg_ GE337.out⟩⟩
  case round =>
   clear H'
   try clear c1
   try clear c2
   try clear p2
   try clear c4
   try clear c8
   try clear c9
   try clear c11
   try clear c17
   try clear c18
   try clear c20
   try clear hcz11_0
   try clear hcz11_1
   try clear hcz11_2
   try clear hcz14_0
   try clear hcz14_1
   try clear hcz14_2
   try clear hcz16_0
   try clear hcz16_1
   try clear hcz16_2
   try clear hfz11_0
   try clear hfz11_1
   try clear hfz11_2
   try clear hfz14_0
   try clear hfz14_1
   try clear hfz14_2
   try clear hfz16_0
   try clear hfz16_1
   try clear hfz16_2
   obtain ⟨x13_1, rfl, HA, HK1, HO_12, BK337, HB⟩ := hrel
   cases gk with
   | zero => exact absurd HA.out (by simp [limelightlaw01_TreeKeeps.l0])
   | succ k1 =>
    have H := HA.out
    clear HA
    simp only [limelightlaw01_TreeKeeps.l0] at H
    by_cases c23 : x13_1 < 3
    ·rw [if_pos c23] at H
     have c23b0 : decide (x13_1 < 3) = true := decide_eq_true c23
     clear c23
     by_cases c24 : 0 ≤ x13_1
     ·rw [if_pos c24] at H
      have c24b0 : decide (0 ≤ x13_1) = true := decide_eq_true c24
      clear c24
      by_cases c25 : x13_1 < (y356.length : Int)
      ·rw [if_pos c25] at H
       have c25b0 : decide (x13_1 < (y356.length : Int)) = true := decide_eq_true c25
       clear c25
       by_cases c26 : ((rd_L5 y356 x13_1).length : Int) = 0
       ·rw [if_pos c26] at H
        have c26b0 : (((rd_L5 y356 x13_1).length : Int) == 0) = true := beq_iff_eq.mpr c26
        have c26b1 : (((rd_L5 y356 x13_1).length : Int) != 0) = false := bne_eq_false_iff_eq.mpr c26
        clear c26
        have H' := Aside0.mk H
        clear H
        obtain ⟨Ao27, co27, eo27⟩ := Kd.N_slice HO_12.out
        subst eo27
        have p360 : 0 ≤ (x13_1 : Int) := of_decide_eq_true asm_
        have q360 : x13_1 < (y356.length : Int) := of_decide_eq_true asm_
        obtain ⟨ad360, A360_0, c360_0, e360, hx360_0, hl360_0, hi360_0⟩ := at_L5 (Kd.N_reads' HO_12.out).2.2 x13_1 p360 q360
        cases e360
        obtain ⟨ce360, hce360, hMe360, hcc360⟩ := Kd.N_get HO_12.out [] x13_1 p360 (by first | exact q360 | exact of_decide_eq_true asm_ | (have e_ := (Kd.N_reads' HO_12.out).1; omega))
        obtain ⟨ua360_0, uc360_0, rfl, ul360_0, ge360_0⟩ := Kd.FK_slice_open hMe360
        have hv360_0 := hcc360 0 _ rfl
        rw [Nat.add_zero, show ((Kd.slice 49 k49)).sz = 1 from rfl, Nat.mul_one] at hv360_0
        replace hv360_0 := Option.some.inj (hv360_0.symm.trans hx360_0)
        injection hv360_0 with hva_ hvn_ hvc_
        rw [hva_] at ge360_0
        rw [hvc_] at ul360_0
        have HL360_0 := Aside0.mk (show Kd.V k49 49 _ w.heap.size _ _ (rd_L5 y356 x13_1) from Kd.V_mk ul360_0 ge360_0)
        clear hva_ hvn_ hvc_ ge360_0 ul360_0
        clear hcc360 hce360
        have HR360_0 := Aside0.mk hi360_0
        have HC360_0 := Aside0.mk hl360_0
        clear hi360_0 hl360_0
        replace p360 := eq_true p360
        replace q360 := eq_true q360
        go_wp2
        go_roundg k1
        case measure => have := HK1.out; omega
        case rel => exact ⟨(wrap64 (x13_1 + 1)), (by first | rfl | (simp; done) | (simp [*]; done)), H', ⟨by have := HK1.out; omega⟩, ⟨by (with_reducible repeat (first | apply Kd.N_alloc | apply Kd.N_drewN | apply Kd.N_drew)); exact HO_12.out⟩, ⟨blkx_ BK337.out⟩, ⟨belg_ GE337.out⟩⟩
       ·rw [if_neg c26] at H
        have c26b0 : (((rd_L5 y356 x13_1).length : Int) == 0) = false := beq_eq_false_iff_ne.mpr c26
        have c26b1 : (((rd_L5 y356 x13_1).length : Int) != 0) = true := bne_iff_ne.mpr c26
        have c26b2 : ¬ ((rd_L5 y356 x13_1) = []) := fun h_ => c26 (by rw [h_]; rfl)
        by_cases c28 : ((rd_L5 y356 x13_1).length : Int) < (l0.length : Int)
        ·rw [if_pos c28] at H
         exact absurd H (by simp)
        ·rw [if_neg c28] at H
         have c28b0 : decide (((rd_L5 y356 x13_1).length : Int) < (l0.length : Int)) = false := decide_eq_false c28
         have c28b1 : decide ((rd_L5 y356 x13_1).length < l0.length) = false := decide_eq_false (fun h => c28 (Int.ofNat_lt.mpr h))
         clear c28
         have H' := Aside0.mk H
         clear H
         obtain ⟨Ao29, co29, eo29⟩ := Kd.N_slice HO_12.out
         subst eo29
         have p360 : 0 ≤ (x13_1 : Int) := of_decide_eq_true asm_
         have q360 : x13_1 < (y356.length : Int) := of_decide_eq_true asm_
         obtain ⟨ad360, A360_0, c360_0, e360, hx360_0, hl360_0, hi360_0⟩ := at_L5 (Kd.N_reads' HO_12.out).2.2 x13_1 p360 q360
         cases e360
         obtain ⟨ce360, hce360, hMe360, hcc360⟩ := Kd.N_get HO_12.out [] x13_1 p360 (by first | exact q360 | exact of_decide_eq_true asm_ | (have e_ := (Kd.N_reads' HO_12.out).1; omega))
         obtain ⟨ua360_0, uc360_0, rfl, ul360_0, ge360_0⟩ := Kd.FK_slice_open hMe360
         have hv360_0 := hcc360 0 _ rfl
         rw [Nat.add_zero, show ((Kd.slice 49 k49)).sz = 1 from rfl, Nat.mul_one] at hv360_0
         replace hv360_0 := Option.some.inj (hv360_0.symm.trans hx360_0)
         injection hv360_0 with hva_ hvn_ hvc_
         rw [hva_] at ge360_0
         rw [hvc_] at ul360_0
         have HL360_0 := Aside0.mk (show Kd.V k49 49 _ w.heap.size _ _ (rd_L5 y356 x13_1) from Kd.V_mk ul360_0 ge360_0)
         clear hva_ hvn_ hvc_ ge360_0 ul360_0
         clear hcc360 hce360
         have HR360_0 := Aside0.mk hi360_0
         have HC360_0 := Aside0.mk hl360_0
         clear hi360_0 hl360_0
         replace p360 := eq_true p360
         replace q360 := eq_true q360
         have p361 : 0 ≤ (x13_1 : Int) := of_decide_eq_true asm_
         have q361 : x13_1 < (y356.length : Int) := of_decide_eq_true asm_
         obtain ⟨ad361, A361_0, c361_0, e361, hx361_0, hl361_0, hi361_0⟩ := at_L5 (Kd.N_reads' HO_12.out).2.2 x13_1 p361 q361
         obtain rfl : ad360 = ad361 := (by injection e361)
         obtain ⟨ce361, hce361, hMe361, hcc361⟩ := Kd.N_get HO_12.out [] x13_1 p361 (by first | exact q361 | exact of_decide_eq_true asm_ | (have e_ := (Kd.N_reads' HO_12.out).1; omega))
         obtain ⟨ua361_0, uc361_0, rfl, ul361_0, ge361_0⟩ := Kd.FK_slice_open hMe361
         have hv361_0 := hcc361 0 _ rfl
         rw [Nat.add_zero, show ((Kd.slice 49 k49)).sz = 1 from rfl, Nat.mul_one] at hv361_0
         replace hv361_0 := Option.some.inj (hv361_0.symm.trans hx361_0)
         injection hv361_0 with hva_ hvn_ hvc_
         rw [hva_] at ge361_0
         rw [hvc_] at ul361_0
         have HL361_0 := Aside0.mk (show Kd.V k49 49 _ w.heap.size _ _ (rd_L5 y356 x13_1) from Kd.V_mk ul361_0 ge361_0)
         clear hva_ hvn_ hvc_ ge361_0 ul361_0
         clear hcc361 hce361
         have HR361_0 := Aside0.mk hi361_0
         have HC361_0 := Aside0.mk hl361_0
         clear hi361_0 hl361_0
         replace p361 := eq_true p361
         replace q361 := eq_true q361
         have ea_ := Option.some.inj (hx360_0.symm.trans hx361_0)
         injection ea_ with ea_ en_ ec_
         subst ea_
         subst ec_
         clear en_
         go_wp2
         go_loopg [14] k1 (fun kq v14 w' => ∃ (x14_2 : Int), v14 = .int .i64 x14_2 ∧ Aside0 (limelightlaw01_TreeKeeps.l1 kq l0 y356 x13_1 x14_2 = some r) ∧ Aside0 (kq ≤ k1) ∧ Aside0 (Kd.N (Kd.slice 49 k49) 23 w' w.heap.size (fun k_ => k_ ≠ gb337) (.slice (some ad360) y356.length co29) y356) ∧ Aside0 (w'.heap[gb337]? = some (.cells #[.int .i64 a1_0, .int .i64 a1_1, .int .i64 a1_2] 33 (0, 0))) ∧ Aside0 (Below w.heap.size w w'))
         case atStart => exact ⟨(0), (by first | rfl | (simp; done) | (simp [*]; done)), H', ⟨Nat.le_refl _⟩, ⟨by (with_reducible repeat (first | apply Kd.N_alloc | apply Kd.N_drewN | apply Kd.N_drew)); exact HO_12.out⟩, ⟨blkx_ BK337.out⟩, ⟨belg_ GE337.out⟩⟩
         case round =>
          clear H'
          try clear c1
          try clear c2
          try clear p2
          try clear c3
          try clear p3
          try clear q3
          try clear hx3
          try clear c4
          try clear p6
          try clear c8
          try clear c9
          try clear c11
          try clear c17
          try clear c18
          try clear c20
          try clear c23
          try clear c23b0
          try clear c24
          try clear c24b0
          try clear c25
          try clear c25b0
          try clear c26
          try clear c26b0
          try clear c26b1
          try clear c26b2
          try clear c28
          try clear c28b0
          try clear c28b1
          try clear hcz11_0
          try clear hcz11_1
          try clear hcz11_2
          try clear hcz14_0
          try clear hcz14_1
          try clear hcz14_2
          try clear hcz16_0
          try clear hcz16_1
          try clear hcz16_2
          try clear hfz11_0
          try clear hfz11_1
          try clear hfz11_2
          try clear hfz14_0
          try clear hfz14_1
          try clear hfz14_2
          try clear hfz16_0
          try clear hfz16_1
          try clear hfz16_2
          try clear hx360_0
          try clear hx361_0
          try clear p2
          try clear p360
          try clear p361
          try clear q360
          try clear q361
          obtain ⟨x14_2, rfl, HA, HK2, HO_12, BK337, HB⟩ := hrel
          cases gk with
          | zero => exact absurd HA.out (by simp [limelightlaw01_TreeKeeps.l1])
          | succ k2 =>
           have H := HA.out
           clear HA
           simp only [limelightlaw01_TreeKeeps.l1] at H
           by_cases c30 : x14_2 < (l0.length : Int)
           ·rw [if_pos c30] at H
            have c30b0 : decide (x14_2 < (l0.length : Int)) = true := decide_eq_true c30
            clear c30
            by_cases c31 : 0 ≤ x13_1
            ·rw [if_pos c31] at H
             have c31b0 : decide (0 ≤ x13_1) = true := decide_eq_true c31
             clear c31
             by_cases c32 : x13_1 < (y356.length : Int)
             ·rw [if_pos c32] at H
              have c32b0 : decide (x13_1 < (y356.length : Int)) = true := decide_eq_true c32
              clear c32
              by_cases c33 : 0 ≤ x14_2
              ·rw [if_pos c33] at H
               have c33b0 : decide (0 ≤ x14_2) = true := decide_eq_true c33
               clear c33
               by_cases c34 : x14_2 < ((rd_L5 y356 x13_1).length : Int)
               ·rw [if_pos c34] at H
                have c34b0 : decide (x14_2 < ((rd_L5 y356 x13_1).length : Int)) = true := decide_eq_true c34
                clear c34
                replace H := Option.bind_eq_some_iff.mp H
                obtain ⟨t368, A350, H⟩ := H
                replace H : (if t368 = true then (limelightlaw01_TreeKeeps.l1 k2 l0 y356 x13_1 (wrap64 (x14_2 + 1))) else (none)) = some r := H
                have A35 := Aside0.mk A350
                clear A350
                by_cases c36 : t368 = true
                ·subst c36
                 have H1 : (limelightlaw01_TreeKeeps.l1 k2 l0 y356 x13_1 (wrap64 (x14_2 + 1))) = some r := by rw [if_pos rfl] at H; exact H
                 clear H
                 have H := H1
                 clear H1
                 have H' := Aside0.mk H
                 clear H
                 have p362 : 0 ≤ (x13_1 : Int) := of_decide_eq_true asm_
                 have q362 : x13_1 < (y356.length : Int) := of_decide_eq_true asm_
                 obtain ⟨ad362, A362_0, c362_0, e362, hx362_0, hl362_0, hi362_0⟩ := at_L5 (Kd.N_reads' HO_12.out).2.2 x13_1 p362 q362
                 obtain rfl : ad360 = ad362 := (by injection e362)
                 obtain ⟨ce362, hce362, hMe362, hcc362⟩ := Kd.N_get HO_12.out [] x13_1 p362 (by first | exact q362 | exact of_decide_eq_true asm_ | (have e_ := (Kd.N_reads' HO_12.out).1; omega))
                 obtain ⟨ua362_0, uc362_0, rfl, ul362_0, ge362_0⟩ := Kd.FK_slice_open hMe362
                 have hv362_0 := hcc362 0 _ rfl
                 rw [Nat.add_zero, show ((Kd.slice 49 k49)).sz = 1 from rfl, Nat.mul_one] at hv362_0
                 replace hv362_0 := Option.some.inj (hv362_0.symm.trans hx362_0)
                 injection hv362_0 with hva_ hvn_ hvc_
                 rw [hva_] at ge362_0
                 rw [hvc_] at ul362_0
                 have HL362_0 := Aside0.mk (show Kd.V k49 49 _ w.heap.size _ _ (rd_L5 y356 x13_1) from Kd.V_mk ul362_0 ge362_0)
                 clear hva_ hvn_ hvc_ ge362_0 ul362_0
                 clear hcc362 hce362
                 have HR362_0 := Aside0.mk hi362_0
                 have HC362_0 := Aside0.mk hl362_0
                 clear hi362_0 hl362_0
                 replace p362 := eq_true p362
                 replace q362 := eq_true q362
                 have p363 : 0 ≤ (x14_2 : Int) := of_decide_eq_true asm_
                 have q363 : x14_2 < ((rd_L5 y356 x13_1).length : Int) := of_decide_eq_true asm_
                 obtain ⟨ad363, A363_3, c363_3, A363_6, c363_6, e363, hx363_0, hx363_1, hx363_2, hx363_3, hx363_4, hx363_5, hx363_6, hl363_3, hi363_3, hl363_6, hi363_6⟩ := at_T49 (by repeat (first | (with_reducible exact HR362_0.out) | (with_reducible refine Kd.C_alloc ?_ _) | (with_reducible refine Kd.C_drewN ?_ _) | (with_reducible refine Kd.C_drew ?_) | exact HR362_0.out)) x14_2 p363 q363
                 cases e363
                 obtain ⟨ce363, hce363, hMe363, hcc363⟩ := Kd.V_get HL362_0.out z49 x14_2 p363 (by first | exact q363 | exact of_decide_eq_true asm_ | (have e_ := (Kd.V_reads' HL362_0.out).1; omega))
                 obtain ⟨ua363_3, uc363_3, ua363_6, uc363_6, rfl, ul363_3, ge363_3, ul363_6, ge363_6⟩ := k49_openF hMe363
                 have hv363_3 := hcc363 3 _ rfl
                 rw [add_field _ _ 3 (by omega)] at hv363_3
                 replace hv363_3 := Option.some.inj (hv363_3.symm.trans hx363_3)
                 injection hv363_3 with hva_ hvn_ hvc_
                 rw [hva_] at ge363_3
                 rw [hvc_] at ul363_3
                 have HL363_3 := Aside0.mk (show Kd.V (Kd.int .i64) 3 _ w.heap.size _ _ ((rd_T49 (rd_L5 y356 x13_1) x14_2).f3) from Kd.V_mk ul363_3 ge363_3)
                 clear hva_ hvn_ hvc_ ge363_3 ul363_3
                 have hv363_6 := hcc363 6 _ rfl
                 rw [add_field _ _ 6 (by omega)] at hv363_6
                 replace hv363_6 := Option.some.inj (hv363_6.symm.trans hx363_6)
                 injection hv363_6 with hva_ hvn_ hvc_
                 rw [hva_] at ge363_6
                 rw [hvc_] at ul363_6
                 have HL363_6 := Aside0.mk (show Kd.V k65 65 _ w.heap.size _ _ ((rd_T49 (rd_L5 y356 x13_1) x14_2).f6) from Kd.V_mk ul363_6 ge363_6)
                 clear hva_ hvn_ hvc_ ge363_6 ul363_6
                 clear hcc363 hce363
                 have HR363_3 := Aside0.mk hi363_3
                 have HC363_3 := Aside0.mk hl363_3
                 clear hi363_3 hl363_3
                 have HR363_6 := Aside0.mk hi363_6
                 have HC363_6 := Aside0.mk hl363_6
                 clear hi363_6 hl363_6
                 replace p363 := eq_true p363
                 replace q363 := eq_true q363
                 try go_wp2_with (first | ((with_reducible refine gate_dst (N := 15) rfl ?_); refine box_event ?hg (N := 15) ?hd (cs := #[.int .i64 0, .int .i64 0, .int .i64 0, .slice none 0 0, .int .i64 0, .int .i64 0, .slice none 0 0]) (t := 49) ?hr ?_; (case hd => rfl); (case hg => rfl); (case hr => first | (go_simp; done) | (go_simp; rfl)); intro gb364 hg w37 hbox hb; have n0_ := Aside0.mk (Kd.N_below (Kd.N_elderB (by (with_reducible repeat (first | apply Kd.N_alloc | apply Kd.N_drewN | apply Kd.N_drew)); exact HO_12.out) gb364 (Nat.le_of_eq hg.symm)) hb); have n1_ := Aside0.mk (Kd.V_below (Kd.V_elderB (by (with_reducible repeat (first | apply Kd.V_alloc | apply Kd.V_drewN | apply Kd.V_drew)); exact HL362_0.out) gb364 (Nat.le_of_eq hg.symm)) hb); have n2_ := Aside0.mk (Kd.V_below (Kd.V_elderB (by (with_reducible repeat (first | apply Kd.V_alloc | apply Kd.V_drewN | apply Kd.V_drew)); exact HL363_3.out) gb364 (Nat.le_of_eq hg.symm)) hb); have n3_ := Aside0.mk (Kd.V_below (Kd.V_elderB (by (with_reducible repeat (first | apply Kd.V_alloc | apply Kd.V_drewN | apply Kd.V_drew)); exact HL363_6.out) gb364 (Nat.le_of_eq hg.symm)) hb); have n4_ := Aside0.mk (blk_below (g := gb337) (o := .cells #[.int .i64 a1_0, .int .i64 a1_1, .int .i64 a1_2] 33 (0, 0)) (blkx_ BK337.out) hb); have n5_ := Aside0.mk (Kd.C_below (by repeat (first | (with_reducible exact HR362_0.out) | (with_reducible refine Kd.C_alloc ?_ _) | (with_reducible refine Kd.C_drewN ?_ _) | (with_reducible refine Kd.C_drew ?_) | exact HR362_0.out)) hb); have n6_ := Aside0.mk (Kd.C_below (by repeat (first | (with_reducible exact HR363_3.out) | (with_reducible refine Kd.C_alloc ?_ _) | (with_reducible refine Kd.C_drewN ?_ _) | (with_reducible refine Kd.C_drew ?_) | exact HR363_3.out)) hb); have n7_ := Aside0.mk (Kd.C_below (by repeat (first | (with_reducible exact HR363_6.out) | (with_reducible refine Kd.C_alloc ?_ _) | (with_reducible refine Kd.C_drewN ?_ _) | (with_reducible refine Kd.C_drew ?_) | exact HR363_6.out)) hb); have n8_ := Aside0.mk (below_step (belg_ GE337.out) hb); have n9_ := Aside0.mk (hbox); have n10_ := Aside0.mk ((by rw [hg]; exact (below_size (belg_ GE337.out)) : w.heap.size ≤ gb364)); have n11_ := Aside0.mk ((by rw [hg]; exact (below_size (belg_ GE337.out)) : w.heap.size ≤ gb364)); have n12_ := Aside0.mk ((by rw [hg]; exact Nat.ne_of_lt (blk_lt (g := gb337) (o := .cells #[.int .i64 a1_0, .int .i64 a1_1, .int .i64 a1_2] 33 (0, 0)) (blkx_ BK337.out)) : gb337 ≠ gb364)); have n13_ := Aside0.mk ((by rw [hg]; exact Nat.ne_of_gt (blk_lt (g := gb337) (o := .cells #[.int .i64 a1_0, .int .i64 a1_1, .int .i64 a1_2] 33 (0, 0)) (blkx_ BK337.out)) : gb364 ≠ gb337)); clear HO_12; clear HL362_0; clear HL363_3; clear HL363_6; clear BK337; clear HR362_0; clear HR363_3; clear HR363_6; clear HB; have HO_12 := n0_; have HL362_0 := n1_; have HL363_3 := n2_; have HL363_6 := n3_; have BK337 := n4_; have HR362_0 := n5_; have HR363_3 := n6_; have HR363_6 := n7_; have HB := n8_; have BK364 := n9_; have GW364 := n10_; have GE364 := n11_; have NB337_364 := n12_; have NB364_337 := n13_; clear n0_ n1_ n2_ n3_ n4_ n5_ n6_ n7_ n8_ n9_ n10_ n11_ n12_ n13_; clear hb hbox hg; have hnb38 := NB364_337.out; have hnc38 := NB337_364.out; have hcz39_0 : w37.cell? ⟨gb364, 0, none⟩ = some (.int .i64 0) := (blk_cell BK364.out 0).trans rfl; have hcz39_1 : w37.cell? ⟨gb364, 1, none⟩ = some (.int .i64 0) := (blk_cell BK364.out 1).trans rfl; have hcz39_2 : w37.cell? ⟨gb364, 2, none⟩ = some (.int .i64 0) := (blk_cell BK364.out 2).trans rfl; have hcz39_3 : w37.cell? ⟨gb364, 3, none⟩ = some (.slice none 0 0) := (blk_cell BK364.out 3).trans rfl; have hcz39_4 : w37.cell? ⟨gb364, 4, none⟩ = some (.int .i64 0) := (blk_cell BK364.out 4).trans rfl; have hcz39_5 : w37.cell? ⟨gb364, 5, none⟩ = some (.int .i64 0) := (blk_cell BK364.out 5).trans rfl; have hcz39_6 : w37.cell? ⟨gb364, 6, none⟩ = some (.slice none 0 0) := (blk_cell BK364.out 6).trans rfl; have hfz39_0 := blk_frozen BK364.out 0; have hfz39_1 := blk_frozen BK364.out 1; have hfz39_2 := blk_frozen BK364.out 2; have hfz39_3 := blk_frozen BK364.out 3; have hfz39_4 := blk_frozen BK364.out 4; have hfz39_5 := blk_frozen BK364.out 5; have hfz39_6 := blk_frozen BK364.out 6; have p365 : 0 ≤ (x14_2 : Int) := of_decide_eq_true asm_; have q365 : x14_2 < (l0.length : Int) := of_decide_eq_true asm_; obtain ⟨ad365, A365_3, c365_3, A365_6, c365_6, e365, hx365_0, hx365_1, hx365_2, hx365_3, hx365_4, hx365_5, hx365_6, hl365_3, hi365_3, hl365_6, hi365_6⟩ := at_T49 HR0.out x14_2 p365 q365; cases e365; have hn365_0 : ad365.block ≠ gb364 := Nat.ne_of_lt (Nat.lt_of_lt_of_le (by have := World.block_lt_of_cell? _ _ hx365_0; first | rwa [add_block] at this | exact this) GW364.out); have hn365_1 : ad365.block ≠ gb364 := Nat.ne_of_lt (Nat.lt_of_lt_of_le (by have := World.block_lt_of_cell? _ _ hx365_0; first | rwa [add_block] at this | exact this) GW364.out); have hn365_2 : ad365.block ≠ gb364 := Nat.ne_of_lt (Nat.lt_of_lt_of_le (by have := World.block_lt_of_cell? _ _ hx365_0; first | rwa [add_block] at this | exact this) GW364.out); have hn365_3 : ad365.block ≠ gb364 := Nat.ne_of_lt (Nat.lt_of_lt_of_le (by have := World.block_lt_of_cell? _ _ hx365_0; first | rwa [add_block] at this | exact this) GW364.out); have hn365_4 : ad365.block ≠ gb364 := Nat.ne_of_lt (Nat.lt_of_lt_of_le (by have := World.block_lt_of_cell? _ _ hx365_0; first | rwa [add_block] at this | exact this) GW364.out); have hn365_5 : ad365.block ≠ gb364 := Nat.ne_of_lt (Nat.lt_of_lt_of_le (by have := World.block_lt_of_cell? _ _ hx365_0; first | rwa [add_block] at this | exact this) GW364.out); have hn365_6 : ad365.block ≠ gb364 := Nat.ne_of_lt (Nat.lt_of_lt_of_le (by have := World.block_lt_of_cell? _ _ hx365_0; first | rwa [add_block] at this | exact this) GW364.out); replace hx365_0 := (HB.out.cell (World.block_lt_of_cell? w _ hx365_0)).trans hx365_0; replace hx365_1 := (HB.out.cell (World.block_lt_of_cell? w _ hx365_1)).trans hx365_1; replace hx365_2 := (HB.out.cell (World.block_lt_of_cell? w _ hx365_2)).trans hx365_2; replace hx365_3 := (HB.out.cell (World.block_lt_of_cell? w _ hx365_3)).trans hx365_3; replace hx365_4 := (HB.out.cell (World.block_lt_of_cell? w _ hx365_4)).trans hx365_4; replace hx365_5 := (HB.out.cell (World.block_lt_of_cell? w _ hx365_5)).trans hx365_5; replace hx365_6 := (HB.out.cell (World.block_lt_of_cell? w _ hx365_6)).trans hx365_6; have HR365_3 := Aside0.mk hi365_3; have HC365_3 := Aside0.mk hl365_3; clear hi365_3 hl365_3; have HR365_6 := Aside0.mk hi365_6; have HC365_6 := Aside0.mk hl365_6; clear hi365_6 hl365_6; replace hx365_0 := (cell_far (p := ⟨gb364, 0, none⟩) (by first | (rw [add_block]; exact hn365_0) | (show (Addr.add _ _).block ≠ _; rw [add_block]; exact hn365_0) | exact hn365_0) (.int .i64 ((rd_T49 (rd_L5 y356 x13_1) x14_2).f0))).trans hx365_0; replace hx365_1 := (cell_far (p := ⟨gb364, 0, none⟩) (by first | (rw [add_block]; exact hn365_0) | (show (Addr.add _ _).block ≠ _; rw [add_block]; exact hn365_0) | exact hn365_0) (.int .i64 ((rd_T49 (rd_L5 y356 x13_1) x14_2).f0))).trans hx365_1; replace hx365_2 := (cell_far (p := ⟨gb364, 0, none⟩) (by first | (rw [add_block]; exact hn365_0) | (show (Addr.add _ _).block ≠ _; rw [add_block]; exact hn365_0) | exact hn365_0) (.int .i64 ((rd_T49 (rd_L5 y356 x13_1) x14_2).f0))).trans hx365_2; replace hx365_3 := (cell_far (p := ⟨gb364, 0, none⟩) (by first | (rw [add_block]; exact hn365_0) | (show (Addr.add _ _).block ≠ _; rw [add_block]; exact hn365_0) | exact hn365_0) (.int .i64 ((rd_T49 (rd_L5 y356 x13_1) x14_2).f0))).trans hx365_3; replace hx365_4 := (cell_far (p := ⟨gb364, 0, none⟩) (by first | (rw [add_block]; exact hn365_0) | (show (Addr.add _ _).block ≠ _; rw [add_block]; exact hn365_0) | exact hn365_0) (.int .i64 ((rd_T49 (rd_L5 y356 x13_1) x14_2).f0))).trans hx365_4; replace hx365_5 := (cell_far (p := ⟨gb364, 0, none⟩) (by first | (rw [add_block]; exact hn365_0) | (show (Addr.add _ _).block ≠ _; rw [add_block]; exact hn365_0) | exact hn365_0) (.int .i64 ((rd_T49 (rd_L5 y356 x13_1) x14_2).f0))).trans hx365_5; replace hx365_6 := (cell_far (p := ⟨gb364, 0, none⟩) (by first | (rw [add_block]; exact hn365_0) | (show (Addr.add _ _).block ≠ _; rw [add_block]; exact hn365_0) | exact hn365_0) (.int .i64 ((rd_T49 (rd_L5 y356 x13_1) x14_2).f0))).trans hx365_6; replace hx365_0 := (cell_far (p := ⟨gb364, 1, none⟩) (by first | (rw [add_block]; exact hn365_1) | (show (Addr.add _ _).block ≠ _; rw [add_block]; exact hn365_1) | exact hn365_1) (.int .i64 ((rd_T49 (rd_L5 y356 x13_1) x14_2).f1))).trans hx365_0; replace hx365_1 := (cell_far (p := ⟨gb364, 1, none⟩) (by first | (rw [add_block]; exact hn365_1) | (show (Addr.add _ _).block ≠ _; rw [add_block]; exact hn365_1) | exact hn365_1) (.int .i64 ((rd_T49 (rd_L5 y356 x13_1) x14_2).f1))).trans hx365_1; replace hx365_2 := (cell_far (p := ⟨gb364, 1, none⟩) (by first | (rw [add_block]; exact hn365_1) | (show (Addr.add _ _).block ≠ _; rw [add_block]; exact hn365_1) | exact hn365_1) (.int .i64 ((rd_T49 (rd_L5 y356 x13_1) x14_2).f1))).trans hx365_2; replace hx365_3 := (cell_far (p := ⟨gb364, 1, none⟩) (by first | (rw [add_block]; exact hn365_1) | (show (Addr.add _ _).block ≠ _; rw [add_block]; exact hn365_1) | exact hn365_1) (.int .i64 ((rd_T49 (rd_L5 y356 x13_1) x14_2).f1))).trans hx365_3; replace hx365_4 := (cell_far (p := ⟨gb364, 1, none⟩) (by first | (rw [add_block]; exact hn365_1) | (show (Addr.add _ _).block ≠ _; rw [add_block]; exact hn365_1) | exact hn365_1) (.int .i64 ((rd_T49 (rd_L5 y356 x13_1) x14_2).f1))).trans hx365_4; replace hx365_5 := (cell_far (p := ⟨gb364, 1, none⟩) (by first | (rw [add_block]; exact hn365_1) | (show (Addr.add _ _).block ≠ _; rw [add_block]; exact hn365_1) | exact hn365_1) (.int .i64 ((rd_T49 (rd_L5 y356 x13_1) x14_2).f1))).trans hx365_5; replace hx365_6 := (cell_far (p := ⟨gb364, 1, none⟩) (by first | (rw [add_block]; exact hn365_1) | (show (Addr.add _ _).block ≠ _; rw [add_block]; exact hn365_1) | exact hn365_1) (.int .i64 ((rd_T49 (rd_L5 y356 x13_1) x14_2).f1))).trans hx365_6; replace hx365_0 := (cell_far (p := ⟨gb364, 2, none⟩) (by first | (rw [add_block]; exact hn365_2) | (show (Addr.add _ _).block ≠ _; rw [add_block]; exact hn365_2) | exact hn365_2) (.int .i64 ((rd_T49 (rd_L5 y356 x13_1) x14_2).f2))).trans hx365_0; replace hx365_1 := (cell_far (p := ⟨gb364, 2, none⟩) (by first | (rw [add_block]; exact hn365_2) | (show (Addr.add _ _).block ≠ _; rw [add_block]; exact hn365_2) | exact hn365_2) (.int .i64 ((rd_T49 (rd_L5 y356 x13_1) x14_2).f2))).trans hx365_1; replace hx365_2 := (cell_far (p := ⟨gb364, 2, none⟩) (by first | (rw [add_block]; exact hn365_2) | (show (Addr.add _ _).block ≠ _; rw [add_block]; exact hn365_2) | exact hn365_2) (.int .i64 ((rd_T49 (rd_L5 y356 x13_1) x14_2).f2))).trans hx365_2; replace hx365_3 := (cell_far (p := ⟨gb364, 2, none⟩) (by first | (rw [add_block]; exact hn365_2) | (show (Addr.add _ _).block ≠ _; rw [add_block]; exact hn365_2) | exact hn365_2) (.int .i64 ((rd_T49 (rd_L5 y356 x13_1) x14_2).f2))).trans hx365_3; replace hx365_4 := (cell_far (p := ⟨gb364, 2, none⟩) (by first | (rw [add_block]; exact hn365_2) | (show (Addr.add _ _).block ≠ _; rw [add_block]; exact hn365_2) | exact hn365_2) (.int .i64 ((rd_T49 (rd_L5 y356 x13_1) x14_2).f2))).trans hx365_4; replace hx365_5 := (cell_far (p := ⟨gb364, 2, none⟩) (by first | (rw [add_block]; exact hn365_2) | (show (Addr.add _ _).block ≠ _; rw [add_block]; exact hn365_2) | exact hn365_2) (.int .i64 ((rd_T49 (rd_L5 y356 x13_1) x14_2).f2))).trans hx365_5; replace hx365_6 := (cell_far (p := ⟨gb364, 2, none⟩) (by first | (rw [add_block]; exact hn365_2) | (show (Addr.add _ _).block ≠ _; rw [add_block]; exact hn365_2) | exact hn365_2) (.int .i64 ((rd_T49 (rd_L5 y356 x13_1) x14_2).f2))).trans hx365_6; replace hx365_0 := (cell_far (p := ⟨gb364, 3, none⟩) (by first | (rw [add_block]; exact hn365_3) | (show (Addr.add _ _).block ≠ _; rw [add_block]; exact hn365_3) | exact hn365_3) (.slice A363_3 ((rd_T49 (rd_L5 y356 x13_1) x14_2).f3).length c363_3)).trans hx365_0; replace hx365_1 := (cell_far (p := ⟨gb364, 3, none⟩) (by first | (rw [add_block]; exact hn365_3) | (show (Addr.add _ _).block ≠ _; rw [add_block]; exact hn365_3) | exact hn365_3) (.slice A363_3 ((rd_T49 (rd_L5 y356 x13_1) x14_2).f3).length c363_3)).trans hx365_1; replace hx365_2 := (cell_far (p := ⟨gb364, 3, none⟩) (by first | (rw [add_block]; exact hn365_3) | (show (Addr.add _ _).block ≠ _; rw [add_block]; exact hn365_3) | exact hn365_3) (.slice A363_3 ((rd_T49 (rd_L5 y356 x13_1) x14_2).f3).length c363_3)).trans hx365_2; replace hx365_3 := (cell_far (p := ⟨gb364, 3, none⟩) (by first | (rw [add_block]; exact hn365_3) | (show (Addr.add _ _).block ≠ _; rw [add_block]; exact hn365_3) | exact hn365_3) (.slice A363_3 ((rd_T49 (rd_L5 y356 x13_1) x14_2).f3).length c363_3)).trans hx365_3; replace hx365_4 := (cell_far (p := ⟨gb364, 3, none⟩) (by first | (rw [add_block]; exact hn365_3) | (show (Addr.add _ _).block ≠ _; rw [add_block]; exact hn365_3) | exact hn365_3) (.slice A363_3 ((rd_T49 (rd_L5 y356 x13_1) x14_2).f3).length c363_3)).trans hx365_4; replace hx365_5 := (cell_far (p := ⟨gb364, 3, none⟩) (by first | (rw [add_block]; exact hn365_3) | (show (Addr.add _ _).block ≠ _; rw [add_block]; exact hn365_3) | exact hn365_3) (.slice A363_3 ((rd_T49 (rd_L5 y356 x13_1) x14_2).f3).length c363_3)).trans hx365_5; replace hx365_6 := (cell_far (p := ⟨gb364, 3, none⟩) (by first | (rw [add_block]; exact hn365_3) | (show (Addr.add _ _).block ≠ _; rw [add_block]; exact hn365_3) | exact hn365_3) (.slice A363_3 ((rd_T49 (rd_L5 y356 x13_1) x14_2).f3).length c363_3)).trans hx365_6; replace hx365_0 := (cell_far (p := ⟨gb364, 4, none⟩) (by first | (rw [add_block]; exact hn365_4) | (show (Addr.add _ _).block ≠ _; rw [add_block]; exact hn365_4) | exact hn365_4) (.int .i64 ((rd_T49 (rd_L5 y356 x13_1) x14_2).f4))).trans hx365_0; replace hx365_1 := (cell_far (p := ⟨gb364, 4, none⟩) (by first | (rw [add_block]; exact hn365_4) | (show (Addr.add _ _).block ≠ _; rw [add_block]; exact hn365_4) | exact hn365_4) (.int .i64 ((rd_T49 (rd_L5 y356 x13_1) x14_2).f4))).trans hx365_1; replace hx365_2 := (cell_far (p := ⟨gb364, 4, none⟩) (by first | (rw [add_block]; exact hn365_4) | (show (Addr.add _ _).block ≠ _; rw [add_block]; exact hn365_4) | exact hn365_4) (.int .i64 ((rd_T49 (rd_L5 y356 x13_1) x14_2).f4))).trans hx365_2; replace hx365_3 := (cell_far (p := ⟨gb364, 4, none⟩) (by first | (rw [add_block]; exact hn365_4) | (show (Addr.add _ _).block ≠ _; rw [add_block]; exact hn365_4) | exact hn365_4) (.int .i64 ((rd_T49 (rd_L5 y356 x13_1) x14_2).f4))).trans hx365_3; replace hx365_4 := (cell_far (p := ⟨gb364, 4, none⟩) (by first | (rw [add_block]; exact hn365_4) | (show (Addr.add _ _).block ≠ _; rw [add_block]; exact hn365_4) | exact hn365_4) (.int .i64 ((rd_T49 (rd_L5 y356 x13_1) x14_2).f4))).trans hx365_4; replace hx365_5 := (cell_far (p := ⟨gb364, 4, none⟩) (by first | (rw [add_block]; exact hn365_4) | (show (Addr.add _ _).block ≠ _; rw [add_block]; exact hn365_4) | exact hn365_4) (.int .i64 ((rd_T49 (rd_L5 y356 x13_1) x14_2).f4))).trans hx365_5; replace hx365_6 := (cell_far (p := ⟨gb364, 4, none⟩) (by first | (rw [add_block]; exact hn365_4) | (show (Addr.add _ _).block ≠ _; rw [add_block]; exact hn365_4) | exact hn365_4) (.int .i64 ((rd_T49 (rd_L5 y356 x13_1) x14_2).f4))).trans hx365_6; replace hx365_0 := (cell_far (p := ⟨gb364, 5, none⟩) (by first | (rw [add_block]; exact hn365_5) | (show (Addr.add _ _).block ≠ _; rw [add_block]; exact hn365_5) | exact hn365_5) (.int .i64 ((rd_T49 (rd_L5 y356 x13_1) x14_2).f5))).trans hx365_0; replace hx365_1 := (cell_far (p := ⟨gb364, 5, none⟩) (by first | (rw [add_block]; exact hn365_5) | (show (Addr.add _ _).block ≠ _; rw [add_block]; exact hn365_5) | exact hn365_5) (.int .i64 ((rd_T49 (rd_L5 y356 x13_1) x14_2).f5))).trans hx365_1; replace hx365_2 := (cell_far (p := ⟨gb364, 5, none⟩) (by first | (rw [add_block]; exact hn365_5) | (show (Addr.add _ _).block ≠ _; rw [add_block]; exact hn365_5) | exact hn365_5) (.int .i64 ((rd_T49 (rd_L5 y356 x13_1) x14_2).f5))).trans hx365_2; replace hx365_3 := (cell_far (p := ⟨gb364, 5, none⟩) (by first | (rw [add_block]; exact hn365_5) | (show (Addr.add _ _).block ≠ _; rw [add_block]; exact hn365_5) | exact hn365_5) (.int .i64 ((rd_T49 (rd_L5 y356 x13_1) x14_2).f5))).trans hx365_3; replace hx365_4 := (cell_far (p := ⟨gb364, 5, none⟩) (by first | (rw [add_block]; exact hn365_5) | (show (Addr.add _ _).block ≠ _; rw [add_block]; exact hn365_5) | exact hn365_5) (.int .i64 ((rd_T49 (rd_L5 y356 x13_1) x14_2).f5))).trans hx365_4; replace hx365_5 := (cell_far (p := ⟨gb364, 5, none⟩) (by first | (rw [add_block]; exact hn365_5) | (show (Addr.add _ _).block ≠ _; rw [add_block]; exact hn365_5) | exact hn365_5) (.int .i64 ((rd_T49 (rd_L5 y356 x13_1) x14_2).f5))).trans hx365_5; replace hx365_6 := (cell_far (p := ⟨gb364, 5, none⟩) (by first | (rw [add_block]; exact hn365_5) | (show (Addr.add _ _).block ≠ _; rw [add_block]; exact hn365_5) | exact hn365_5) (.int .i64 ((rd_T49 (rd_L5 y356 x13_1) x14_2).f5))).trans hx365_6; replace hx365_0 := (cell_far (p := ⟨gb364, 6, none⟩) (by first | (rw [add_block]; exact hn365_6) | (show (Addr.add _ _).block ≠ _; rw [add_block]; exact hn365_6) | exact hn365_6) (.slice A363_6 ((rd_T49 (rd_L5 y356 x13_1) x14_2).f6).length c363_6)).trans hx365_0; replace hx365_1 := (cell_far (p := ⟨gb364, 6, none⟩) (by first | (rw [add_block]; exact hn365_6) | (show (Addr.add _ _).block ≠ _; rw [add_block]; exact hn365_6) | exact hn365_6) (.slice A363_6 ((rd_T49 (rd_L5 y356 x13_1) x14_2).f6).length c363_6)).trans hx365_1; replace hx365_2 := (cell_far (p := ⟨gb364, 6, none⟩) (by first | (rw [add_block]; exact hn365_6) | (show (Addr.add _ _).block ≠ _; rw [add_block]; exact hn365_6) | exact hn365_6) (.slice A363_6 ((rd_T49 (rd_L5 y356 x13_1) x14_2).f6).length c363_6)).trans hx365_2; replace hx365_3 := (cell_far (p := ⟨gb364, 6, none⟩) (by first | (rw [add_block]; exact hn365_6) | (show (Addr.add _ _).block ≠ _; rw [add_block]; exact hn365_6) | exact hn365_6) (.slice A363_6 ((rd_T49 (rd_L5 y356 x13_1) x14_2).f6).length c363_6)).trans hx365_3; replace hx365_4 := (cell_far (p := ⟨gb364, 6, none⟩) (by first | (rw [add_block]; exact hn365_6) | (show (Addr.add _ _).block ≠ _; rw [add_block]; exact hn365_6) | exact hn365_6) (.slice A363_6 ((rd_T49 (rd_L5 y356 x13_1) x14_2).f6).length c363_6)).trans hx365_4; replace hx365_5 := (cell_far (p := ⟨gb364, 6, none⟩) (by first | (rw [add_block]; exact hn365_6) | (show (Addr.add _ _).block ≠ _; rw [add_block]; exact hn365_6) | exact hn365_6) (.slice A363_6 ((rd_T49 (rd_L5 y356 x13_1) x14_2).f6).length c363_6)).trans hx365_5; replace hx365_6 := (cell_far (p := ⟨gb364, 6, none⟩) (by first | (rw [add_block]; exact hn365_6) | (show (Addr.add _ _).block ≠ _; rw [add_block]; exact hn365_6) | exact hn365_6) (.slice A363_6 ((rd_T49 (rd_L5 y356 x13_1) x14_2).f6).length c363_6)).trans hx365_6; clear hn365_0; clear hn365_1; clear hn365_2; clear hn365_3; clear hn365_4; clear hn365_5; clear hn365_6; replace p365 := eq_true p365; replace q365 := eq_true q365; have p366 : 0 ≤ (x14_2 : Int) := of_decide_eq_true asm_; have q366 : x14_2 < (l0.length : Int) := of_decide_eq_true asm_; obtain ⟨ad366, A366_3, c366_3, A366_6, c366_6, e366, hx366_0, hx366_1, hx366_2, hx366_3, hx366_4, hx366_5, hx366_6, hl366_3, hi366_3, hl366_6, hi366_6⟩ := at_T49 HR0.out x14_2 p366 q366; obtain rfl : ad365 = ad366 := (by injection e366); have hn366_0 : ad365.block ≠ gb364 := Nat.ne_of_lt (Nat.lt_of_lt_of_le (by have := World.block_lt_of_cell? _ _ hx366_0; first | rwa [add_block] at this | exact this) GW364.out); have hn366_1 : ad365.block ≠ gb364 := Nat.ne_of_lt (Nat.lt_of_lt_of_le (by have := World.block_lt_of_cell? _ _ hx366_0; first | rwa [add_block] at this | exact this) GW364.out); have hn366_2 : ad365.block ≠ gb364 := Nat.ne_of_lt (Nat.lt_of_lt_of_le (by have := World.block_lt_of_cell? _ _ hx366_0; first | rwa [add_block] at this | exact this) GW364.out); have hn366_3 : ad365.block ≠ gb364 := Nat.ne_of_lt (Nat.lt_of_lt_of_le (by have := World.block_lt_of_cell? _ _ hx366_0; first | rwa [add_block] at this | exact this) GW364.out); have hn366_4 : ad365.block ≠ gb364 := Nat.ne_of_lt (Nat.lt_of_lt_of_le (by have := World.block_lt_of_cell? _ _ hx366_0; first | rwa [add_block] at this | exact this) GW364.out); have hn366_5 : ad365.block ≠ gb364 := Nat.ne_of_lt (Nat.lt_of_lt_of_le (by have := World.block_lt_of_cell? _ _ hx366_0; first | rwa [add_block] at this | exact this) GW364.out); have hn366_6 : ad365.block ≠ gb364 := Nat.ne_of_lt (Nat.lt_of_lt_of_le (by have := World.block_lt_of_cell? _ _ hx366_0; first | rwa [add_block] at this | exact this) GW364.out); have hn366_7 : ad365.block ≠ gb364 := Nat.ne_of_lt (Nat.lt_of_lt_of_le (by have := World.block_lt_of_cell? _ _ hx366_0; first | rwa [add_block] at this | exact this) GW364.out); replace hx366_0 := (HB.out.cell (World.block_lt_of_cell? w _ hx366_0)).trans hx366_0; replace hx366_1 := (HB.out.cell (World.block_lt_of_cell? w _ hx366_1)).trans hx366_1; replace hx366_2 := (HB.out.cell (World.block_lt_of_cell? w _ hx366_2)).trans hx366_2; replace hx366_3 := (HB.out.cell (World.block_lt_of_cell? w _ hx366_3)).trans hx366_3; replace hx366_4 := (HB.out.cell (World.block_lt_of_cell? w _ hx366_4)).trans hx366_4; replace hx366_5 := (HB.out.cell (World.block_lt_of_cell? w _ hx366_5)).trans hx366_5; replace hx366_6 := (HB.out.cell (World.block_lt_of_cell? w _ hx366_6)).trans hx366_6; have HR366_3 := Aside0.mk hi366_3; have HC366_3 := Aside0.mk hl366_3; clear hi366_3 hl366_3; have HR366_6 := Aside0.mk hi366_6; have HC366_6 := Aside0.mk hl366_6; clear hi366_6 hl366_6; replace hx366_0 := (cell_far (p := ⟨gb364, 0, none⟩) (by first | (rw [add_block]; exact hn366_0) | (show (Addr.add _ _).block ≠ _; rw [add_block]; exact hn366_0) | exact hn366_0) (.int .i64 ((rd_T49 (rd_L5 y356 x13_1) x14_2).f0))).trans hx366_0; replace hx366_1 := (cell_far (p := ⟨gb364, 0, none⟩) (by first | (rw [add_block]; exact hn366_0) | (show (Addr.add _ _).block ≠ _; rw [add_block]; exact hn366_0) | exact hn366_0) (.int .i64 ((rd_T49 (rd_L5 y356 x13_1) x14_2).f0))).trans hx366_1; replace hx366_2 := (cell_far (p := ⟨gb364, 0, none⟩) (by first | (rw [add_block]; exact hn366_0) | (show (Addr.add _ _).block ≠ _; rw [add_block]; exact hn366_0) | exact hn366_0) (.int .i64 ((rd_T49 (rd_L5 y356 x13_1) x14_2).f0))).trans hx366_2; replace hx366_3 := (cell_far (p := ⟨gb364, 0, none⟩) (by first | (rw [add_block]; exact hn366_0) | (show (Addr.add _ _).block ≠ _; rw [add_block]; exact hn366_0) | exact hn366_0) (.int .i64 ((rd_T49 (rd_L5 y356 x13_1) x14_2).f0))).trans hx366_3; replace hx366_4 := (cell_far (p := ⟨gb364, 0, none⟩) (by first | (rw [add_block]; exact hn366_0) | (show (Addr.add _ _).block ≠ _; rw [add_block]; exact hn366_0) | exact hn366_0) (.int .i64 ((rd_T49 (rd_L5 y356 x13_1) x14_2).f0))).trans hx366_4; replace hx366_5 := (cell_far (p := ⟨gb364, 0, none⟩) (by first | (rw [add_block]; exact hn366_0) | (show (Addr.add _ _).block ≠ _; rw [add_block]; exact hn366_0) | exact hn366_0) (.int .i64 ((rd_T49 (rd_L5 y356 x13_1) x14_2).f0))).trans hx366_5; replace hx366_6 := (cell_far (p := ⟨gb364, 0, none⟩) (by first | (rw [add_block]; exact hn366_0) | (show (Addr.add _ _).block ≠ _; rw [add_block]; exact hn366_0) | exact hn366_0) (.int .i64 ((rd_T49 (rd_L5 y356 x13_1) x14_2).f0))).trans hx366_6; replace hx366_0 := (cell_far (p := ⟨gb364, 1, none⟩) (by first | (rw [add_block]; exact hn366_1) | (show (Addr.add _ _).block ≠ _; rw [add_block]; exact hn366_1) | exact hn366_1) (.int .i64 ((rd_T49 (rd_L5 y356 x13_1) x14_2).f1))).trans hx366_0; replace hx366_1 := (cell_far (p := ⟨gb364, 1, none⟩) (by first | (rw [add_block]; exact hn366_1) | (show (Addr.add _ _).block ≠ _; rw [add_block]; exact hn366_1) | exact hn366_1) (.int .i64 ((rd_T49 (rd_L5 y356 x13_1) x14_2).f1))).trans hx366_1; replace hx366_2 := (cell_far (p := ⟨gb364, 1, none⟩) (by first | (rw [add_block]; exact hn366_1) | (show (Addr.add _ _).block ≠ _; rw [add_block]; exact hn366_1) | exact hn366_1) (.int .i64 ((rd_T49 (rd_L5 y356 x13_1) x14_2).f1))).trans hx366_2; replace hx366_3 := (cell_far (p := ⟨gb364, 1, none⟩) (by first | (rw [add_block]; exact hn366_1) | (show (Addr.add _ _).block ≠ _; rw [add_block]; exact hn366_1) | exact hn366_1) (.int .i64 ((rd_T49 (rd_L5 y356 x13_1) x14_2).f1))).trans hx366_3; replace hx366_4 := (cell_far (p := ⟨gb364, 1, none⟩) (by first | (rw [add_block]; exact hn366_1) | (show (Addr.add _ _).block ≠ _; rw [add_block]; exact hn366_1) | exact hn366_1) (.int .i64 ((rd_T49 (rd_L5 y356 x13_1) x14_2).f1))).trans hx366_4; replace hx366_5 := (cell_far (p := ⟨gb364, 1, none⟩) (by first | (rw [add_block]; exact hn366_1) | (show (Addr.add _ _).block ≠ _; rw [add_block]; exact hn366_1) | exact hn366_1) (.int .i64 ((rd_T49 (rd_L5 y356 x13_1) x14_2).f1))).trans hx366_5; replace hx366_6 := (cell_far (p := ⟨gb364, 1, none⟩) (by first | (rw [add_block]; exact hn366_1) | (show (Addr.add _ _).block ≠ _; rw [add_block]; exact hn366_1) | exact hn366_1) (.int .i64 ((rd_T49 (rd_L5 y356 x13_1) x14_2).f1))).trans hx366_6; replace hx366_0 := (cell_far (p := ⟨gb364, 2, none⟩) (by first | (rw [add_block]; exact hn366_2) | (show (Addr.add _ _).block ≠ _; rw [add_block]; exact hn366_2) | exact hn366_2) (.int .i64 ((rd_T49 (rd_L5 y356 x13_1) x14_2).f2))).trans hx366_0; replace hx366_1 := (cell_far (p := ⟨gb364, 2, none⟩) (by first | (rw [add_block]; exact hn366_2) | (show (Addr.add _ _).block ≠ _; rw [add_block]; exact hn366_2) | exact hn366_2) (.int .i64 ((rd_T49 (rd_L5 y356 x13_1) x14_2).f2))).trans hx366_1; replace hx366_2 := (cell_far (p := ⟨gb364, 2, none⟩) (by first | (rw [add_block]; exact hn366_2) | (show (Addr.add _ _).block ≠ _; rw [add_block]; exact hn366_2) | exact hn366_2) (.int .i64 ((rd_T49 (rd_L5 y356 x13_1) x14_2).f2))).trans hx366_2; replace hx366_3 := (cell_far (p := ⟨gb364, 2, none⟩) (by first | (rw [add_block]; exact hn366_2) | (show (Addr.add _ _).block ≠ _; rw [add_block]; exact hn366_2) | exact hn366_2) (.int .i64 ((rd_T49 (rd_L5 y356 x13_1) x14_2).f2))).trans hx366_3; replace hx366_4 := (cell_far (p := ⟨gb364, 2, none⟩) (by first | (rw [add_block]; exact hn366_2) | (show (Addr.add _ _).block ≠ _; rw [add_block]; exact hn366_2) | exact hn366_2) (.int .i64 ((rd_T49 (rd_L5 y356 x13_1) x14_2).f2))).trans hx366_4; replace hx366_5 := (cell_far (p := ⟨gb364, 2, none⟩) (by first | (rw [add_block]; exact hn366_2) | (show (Addr.add _ _).block ≠ _; rw [add_block]; exact hn366_2) | exact hn366_2) (.int .i64 ((rd_T49 (rd_L5 y356 x13_1) x14_2).f2))).trans hx366_5; replace hx366_6 := (cell_far (p := ⟨gb364, 2, none⟩) (by first | (rw [add_block]; exact hn366_2) | (show (Addr.add _ _).block ≠ _; rw [add_block]; exact hn366_2) | exact hn366_2) (.int .i64 ((rd_T49 (rd_L5 y356 x13_1) x14_2).f2))).trans hx366_6; replace hx366_0 := (cell_far (p := ⟨gb364, 3, none⟩) (by first | (rw [add_block]; exact hn366_3) | (show (Addr.add _ _).block ≠ _; rw [add_block]; exact hn366_3) | exact hn366_3) (.slice A363_3 ((rd_T49 (rd_L5 y356 x13_1) x14_2).f3).length c363_3)).trans hx366_0; replace hx366_1 := (cell_far (p := ⟨gb364, 3, none⟩) (by first | (rw [add_block]; exact hn366_3) | (show (Addr.add _ _).block ≠ _; rw [add_block]; exact hn366_3) | exact hn366_3) (.slice A363_3 ((rd_T49 (rd_L5 y356 x13_1) x14_2).f3).length c363_3)).trans hx366_1; replace hx366_2 := (cell_far (p := ⟨gb364, 3, none⟩) (by first | (rw [add_block]; exact hn366_3) | (show (Addr.add _ _).block ≠ _; rw [add_block]; exact hn366_3) | exact hn366_3) (.slice A363_3 ((rd_T49 (rd_L5 y356 x13_1) x14_2).f3).length c363_3)).trans hx366_2; replace hx366_3 := (cell_far (p := ⟨gb364, 3, none⟩) (by first | (rw [add_block]; exact hn366_3) | (show (Addr.add _ _).block ≠ _; rw [add_block]; exact hn366_3) | exact hn366_3) (.slice A363_3 ((rd_T49 (rd_L5 y356 x13_1) x14_2).f3).length c363_3)).trans hx366_3; replace hx366_4 := (cell_far (p := ⟨gb364, 3, none⟩) (by first | (rw [add_block]; exact hn366_3) | (show (Addr.add _ _).block ≠ _; rw [add_block]; exact hn366_3) | exact hn366_3) (.slice A363_3 ((rd_T49 (rd_L5 y356 x13_1) x14_2).f3).length c363_3)).trans hx366_4; replace hx366_5 := (cell_far (p := ⟨gb364, 3, none⟩) (by first | (rw [add_block]; exact hn366_3) | (show (Addr.add _ _).block ≠ _; rw [add_block]; exact hn366_3) | exact hn366_3) (.slice A363_3 ((rd_T49 (rd_L5 y356 x13_1) x14_2).f3).length c363_3)).trans hx366_5; replace hx366_6 := (cell_far (p := ⟨gb364, 3, none⟩) (by first | (rw [add_block]; exact hn366_3) | (show (Addr.add _ _).block ≠ _; rw [add_block]; exact hn366_3) | exact hn366_3) (.slice A363_3 ((rd_T49 (rd_L5 y356 x13_1) x14_2).f3).length c363_3)).trans hx366_6; replace hx366_0 := (cell_far (p := ⟨gb364, 4, none⟩) (by first | (rw [add_block]; exact hn366_4) | (show (Addr.add _ _).block ≠ _; rw [add_block]; exact hn366_4) | exact hn366_4) (.int .i64 ((rd_T49 (rd_L5 y356 x13_1) x14_2).f4))).trans hx366_0; replace hx366_1 := (cell_far (p := ⟨gb364, 4, none⟩) (by first | (rw [add_block]; exact hn366_4) | (show (Addr.add _ _).block ≠ _; rw [add_block]; exact hn366_4) | exact hn366_4) (.int .i64 ((rd_T49 (rd_L5 y356 x13_1) x14_2).f4))).trans hx366_1; replace hx366_2 := (cell_far (p := ⟨gb364, 4, none⟩) (by first | (rw [add_block]; exact hn366_4) | (show (Addr.add _ _).block ≠ _; rw [add_block]; exact hn366_4) | exact hn366_4) (.int .i64 ((rd_T49 (rd_L5 y356 x13_1) x14_2).f4))).trans hx366_2; replace hx366_3 := (cell_far (p := ⟨gb364, 4, none⟩) (by first | (rw [add_block]; exact hn366_4) | (show (Addr.add _ _).block ≠ _; rw [add_block]; exact hn366_4) | exact hn366_4) (.int .i64 ((rd_T49 (rd_L5 y356 x13_1) x14_2).f4))).trans hx366_3; replace hx366_4 := (cell_far (p := ⟨gb364, 4, none⟩) (by first | (rw [add_block]; exact hn366_4) | (show (Addr.add _ _).block ≠ _; rw [add_block]; exact hn366_4) | exact hn366_4) (.int .i64 ((rd_T49 (rd_L5 y356 x13_1) x14_2).f4))).trans hx366_4; replace hx366_5 := (cell_far (p := ⟨gb364, 4, none⟩) (by first | (rw [add_block]; exact hn366_4) | (show (Addr.add _ _).block ≠ _; rw [add_block]; exact hn366_4) | exact hn366_4) (.int .i64 ((rd_T49 (rd_L5 y356 x13_1) x14_2).f4))).trans hx366_5; replace hx366_6 := (cell_far (p := ⟨gb364, 4, none⟩) (by first | (rw [add_block]; exact hn366_4) | (show (Addr.add _ _).block ≠ _; rw [add_block]; exact hn366_4) | exact hn366_4) (.int .i64 ((rd_T49 (rd_L5 y356 x13_1) x14_2).f4))).trans hx366_6; replace hx366_0 := (cell_far (p := ⟨gb364, 5, none⟩) (by first | (rw [add_block]; exact hn366_5) | (show (Addr.add _ _).block ≠ _; rw [add_block]; exact hn366_5) | exact hn366_5) (.int .i64 ((rd_T49 (rd_L5 y356 x13_1) x14_2).f5))).trans hx366_0; replace hx366_1 := (cell_far (p := ⟨gb364, 5, none⟩) (by first | (rw [add_block]; exact hn366_5) | (show (Addr.add _ _).block ≠ _; rw [add_block]; exact hn366_5) | exact hn366_5) (.int .i64 ((rd_T49 (rd_L5 y356 x13_1) x14_2).f5))).trans hx366_1; replace hx366_2 := (cell_far (p := ⟨gb364, 5, none⟩) (by first | (rw [add_block]; exact hn366_5) | (show (Addr.add _ _).block ≠ _; rw [add_block]; exact hn366_5) | exact hn366_5) (.int .i64 ((rd_T49 (rd_L5 y356 x13_1) x14_2).f5))).trans hx366_2; replace hx366_3 := (cell_far (p := ⟨gb364, 5, none⟩) (by first | (rw [add_block]; exact hn366_5) | (show (Addr.add _ _).block ≠ _; rw [add_block]; exact hn366_5) | exact hn366_5) (.int .i64 ((rd_T49 (rd_L5 y356 x13_1) x14_2).f5))).trans hx366_3; replace hx366_4 := (cell_far (p := ⟨gb364, 5, none⟩) (by first | (rw [add_block]; exact hn366_5) | (show (Addr.add _ _).block ≠ _; rw [add_block]; exact hn366_5) | exact hn366_5) (.int .i64 ((rd_T49 (rd_L5 y356 x13_1) x14_2).f5))).trans hx366_4; replace hx366_5 := (cell_far (p := ⟨gb364, 5, none⟩) (by first | (rw [add_block]; exact hn366_5) | (show (Addr.add _ _).block ≠ _; rw [add_block]; exact hn366_5) | exact hn366_5) (.int .i64 ((rd_T49 (rd_L5 y356 x13_1) x14_2).f5))).trans hx366_5; replace hx366_6 := (cell_far (p := ⟨gb364, 5, none⟩) (by first | (rw [add_block]; exact hn366_5) | (show (Addr.add _ _).block ≠ _; rw [add_block]; exact hn366_5) | exact hn366_5) (.int .i64 ((rd_T49 (rd_L5 y356 x13_1) x14_2).f5))).trans hx366_6; replace hx366_0 := (cell_far (p := ⟨gb364, 6, none⟩) (by first | (rw [add_block]; exact hn366_6) | (show (Addr.add _ _).block ≠ _; rw [add_block]; exact hn366_6) | exact hn366_6) (.slice A363_6 ((rd_T49 (rd_L5 y356 x13_1) x14_2).f6).length c363_6)).trans hx366_0; replace hx366_1 := (cell_far (p := ⟨gb364, 6, none⟩) (by first | (rw [add_block]; exact hn366_6) | (show (Addr.add _ _).block ≠ _; rw [add_block]; exact hn366_6) | exact hn366_6) (.slice A363_6 ((rd_T49 (rd_L5 y356 x13_1) x14_2).f6).length c363_6)).trans hx366_1; replace hx366_2 := (cell_far (p := ⟨gb364, 6, none⟩) (by first | (rw [add_block]; exact hn366_6) | (show (Addr.add _ _).block ≠ _; rw [add_block]; exact hn366_6) | exact hn366_6) (.slice A363_6 ((rd_T49 (rd_L5 y356 x13_1) x14_2).f6).length c363_6)).trans hx366_2; replace hx366_3 := (cell_far (p := ⟨gb364, 6, none⟩) (by first | (rw [add_block]; exact hn366_6) | (show (Addr.add _ _).block ≠ _; rw [add_block]; exact hn366_6) | exact hn366_6) (.slice A363_6 ((rd_T49 (rd_L5 y356 x13_1) x14_2).f6).length c363_6)).trans hx366_3; replace hx366_4 := (cell_far (p := ⟨gb364, 6, none⟩) (by first | (rw [add_block]; exact hn366_6) | (show (Addr.add _ _).block ≠ _; rw [add_block]; exact hn366_6) | exact hn366_6) (.slice A363_6 ((rd_T49 (rd_L5 y356 x13_1) x14_2).f6).length c363_6)).trans hx366_4; replace hx366_5 := (cell_far (p := ⟨gb364, 6, none⟩) (by first | (rw [add_block]; exact hn366_6) | (show (Addr.add _ _).block ≠ _; rw [add_block]; exact hn366_6) | exact hn366_6) (.slice A363_6 ((rd_T49 (rd_L5 y356 x13_1) x14_2).f6).length c363_6)).trans hx366_5; replace hx366_6 := (cell_far (p := ⟨gb364, 6, none⟩) (by first | (rw [add_block]; exact hn366_6) | (show (Addr.add _ _).block ≠ _; rw [add_block]; exact hn366_6) | exact hn366_6) (.slice A363_6 ((rd_T49 (rd_L5 y356 x13_1) x14_2).f6).length c363_6)).trans hx366_6; replace hx366_0 := (cell_far (p := ⟨gb364, 2, none⟩) (by first | (rw [add_block]; exact hn366_7) | (show (Addr.add _ _).block ≠ _; rw [add_block]; exact hn366_7) | exact hn366_7) (.int .i64 ((rd_T49 l0 x14_2).f2))).trans hx366_0; replace hx366_1 := (cell_far (p := ⟨gb364, 2, none⟩) (by first | (rw [add_block]; exact hn366_7) | (show (Addr.add _ _).block ≠ _; rw [add_block]; exact hn366_7) | exact hn366_7) (.int .i64 ((rd_T49 l0 x14_2).f2))).trans hx366_1; replace hx366_2 := (cell_far (p := ⟨gb364, 2, none⟩) (by first | (rw [add_block]; exact hn366_7) | (show (Addr.add _ _).block ≠ _; rw [add_block]; exact hn366_7) | exact hn366_7) (.int .i64 ((rd_T49 l0 x14_2).f2))).trans hx366_2; replace hx366_3 := (cell_far (p := ⟨gb364, 2, none⟩) (by first | (rw [add_block]; exact hn366_7) | (show (Addr.add _ _).block ≠ _; rw [add_block]; exact hn366_7) | exact hn366_7) (.int .i64 ((rd_T49 l0 x14_2).f2))).trans hx366_3; replace hx366_4 := (cell_far (p := ⟨gb364, 2, none⟩) (by first | (rw [add_block]; exact hn366_7) | (show (Addr.add _ _).block ≠ _; rw [add_block]; exact hn366_7) | exact hn366_7) (.int .i64 ((rd_T49 l0 x14_2).f2))).trans hx366_4; replace hx366_5 := (cell_far (p := ⟨gb364, 2, none⟩) (by first | (rw [add_block]; exact hn366_7) | (show (Addr.add _ _).block ≠ _; rw [add_block]; exact hn366_7) | exact hn366_7) (.int .i64 ((rd_T49 l0 x14_2).f2))).trans hx366_5; replace hx366_6 := (cell_far (p := ⟨gb364, 2, none⟩) (by first | (rw [add_block]; exact hn366_7) | (show (Addr.add _ _).block ≠ _; rw [add_block]; exact hn366_7) | exact hn366_7) (.int .i64 ((rd_T49 l0 x14_2).f2))).trans hx366_6; clear hn366_0; clear hn366_1; clear hn366_2; clear hn366_3; clear hn366_4; clear hn366_5; clear hn366_6; clear hn366_7; replace p366 := eq_true p366; replace q366 := eq_true q366))
                 have n0_ : Aside0 (Kd.N (Kd.slice 49 k49) 23 (((((((((w37.setCell ⟨gb364, 0, none⟩ (.int .i64 ((rd_T49 (rd_L5 y356 x13_1) x14_2).f0))).setCell ⟨gb364, 1, none⟩ (.int .i64 ((rd_T49 (rd_L5 y356 x13_1) x14_2).f1))).setCell ⟨gb364, 2, none⟩ (.int .i64 ((rd_T49 (rd_L5 y356 x13_1) x14_2).f2))).setCell ⟨gb364, 3, none⟩ (.slice A363_3 ((rd_T49 (rd_L5 y356 x13_1) x14_2).f3).length c363_3)).setCell ⟨gb364, 4, none⟩ (.int .i64 ((rd_T49 (rd_L5 y356 x13_1) x14_2).f4))).setCell ⟨gb364, 5, none⟩ (.int .i64 ((rd_T49 (rd_L5 y356 x13_1) x14_2).f5))).setCell ⟨gb364, 6, none⟩ (.slice A363_6 ((rd_T49 (rd_L5 y356 x13_1) x14_2).f6).length c363_6)).setCell ⟨gb364, 2, none⟩ (.int .i64 ((rd_T49 l0 x14_2).f2))).setCell ⟨gb364, 3, none⟩ (.slice A366_3 ((rd_T49 l0 x14_2).f3).length c366_3)) w.heap.size (fun k_ => k_ ≠ gb337 ∧ k_ ≠ gb364) (.slice (some ad360) y356.length co29) y356) := ⟨by (with_reducible repeat (first | apply Kd.N_alloc | apply Kd.N_drewN | apply Kd.N_drew)); exact Kd.N_mono (Kd.N_far (p := ⟨gb364, 3, none⟩) (Kd.N_far (p := ⟨gb364, 2, none⟩) (Kd.N_far (p := ⟨gb364, 6, none⟩) (Kd.N_far (p := ⟨gb364, 5, none⟩) (Kd.N_far (p := ⟨gb364, 4, none⟩) (Kd.N_far (p := ⟨gb364, 3, none⟩) (Kd.N_far (p := ⟨gb364, 2, none⟩) (Kd.N_far (p := ⟨gb364, 1, none⟩) (Kd.N_far (p := ⟨gb364, 0, none⟩) (Kd.N_mono HO_12.out (fun k_ hk => (⟨hk, hk.2⟩ : _ ∧ k_ ≠ gb364))) (fun _ hk => hk.2) (.int .i64 ((rd_T49 (rd_L5 y356 x13_1) x14_2).f0))) (fun _ hk => hk.2) (.int .i64 ((rd_T49 (rd_L5 y356 x13_1) x14_2).f1))) (fun _ hk => hk.2) (.int .i64 ((rd_T49 (rd_L5 y356 x13_1) x14_2).f2))) (fun _ hk => hk.2) (.slice A363_3 ((rd_T49 (rd_L5 y356 x13_1) x14_2).f3).length c363_3)) (fun _ hk => hk.2) (.int .i64 ((rd_T49 (rd_L5 y356 x13_1) x14_2).f4))) (fun _ hk => hk.2) (.int .i64 ((rd_T49 (rd_L5 y356 x13_1) x14_2).f5))) (fun _ hk => hk.2) (.slice A363_6 ((rd_T49 (rd_L5 y356 x13_1) x14_2).f6).length c363_6)) (fun _ hk => hk.2) (.int .i64 ((rd_T49 l0 x14_2).f2))) (fun _ hk => hk.2) (.slice A366_3 ((rd_T49 l0 x14_2).f3).length c366_3)) (fun _ hk => ⟨hk.1.1, hk.1.2⟩)⟩
                 have n1_ : Aside0 (Kd.V k49 49 (((((((((w37.setCell ⟨gb364, 0, none⟩ (.int .i64 ((rd_T49 (rd_L5 y356 x13_1) x14_2).f0))).setCell ⟨gb364, 1, none⟩ (.int .i64 ((rd_T49 (rd_L5 y356 x13_1) x14_2).f1))).setCell ⟨gb364, 2, none⟩ (.int .i64 ((rd_T49 (rd_L5 y356 x13_1) x14_2).f2))).setCell ⟨gb364, 3, none⟩ (.slice A363_3 ((rd_T49 (rd_L5 y356 x13_1) x14_2).f3).length c363_3)).setCell ⟨gb364, 4, none⟩ (.int .i64 ((rd_T49 (rd_L5 y356 x13_1) x14_2).f4))).setCell ⟨gb364, 5, none⟩ (.int .i64 ((rd_T49 (rd_L5 y356 x13_1) x14_2).f5))).setCell ⟨gb364, 6, none⟩ (.slice A363_6 ((rd_T49 (rd_L5 y356 x13_1) x14_2).f6).length c363_6)).setCell ⟨gb364, 2, none⟩ (.int .i64 ((rd_T49 l0 x14_2).f2))).setCell ⟨gb364, 3, none⟩ (.slice A366_3 ((rd_T49 l0 x14_2).f3).length c366_3)) w.heap.size (fun k_ => some k_ ≠ (.slice (some ad360) y356.length co29 : Value).ownBlock ∧ k_ ≠ gb337 ∧ k_ ≠ gb364) (.slice (some ad363) (rd_L5 y356 x13_1).length c362_0) (rd_L5 y356 x13_1)) := ⟨by (with_reducible repeat (first | apply Kd.V_alloc | apply Kd.V_drewN | apply Kd.V_drew)); exact Kd.V_mono (Kd.V_far (p := ⟨gb364, 3, none⟩) (Kd.V_far (p := ⟨gb364, 2, none⟩) (Kd.V_far (p := ⟨gb364, 6, none⟩) (Kd.V_far (p := ⟨gb364, 5, none⟩) (Kd.V_far (p := ⟨gb364, 4, none⟩) (Kd.V_far (p := ⟨gb364, 3, none⟩) (Kd.V_far (p := ⟨gb364, 2, none⟩) (Kd.V_far (p := ⟨gb364, 1, none⟩) (Kd.V_far (p := ⟨gb364, 0, none⟩) (Kd.V_mono HL362_0.out (fun k_ hk => (⟨hk, hk.2⟩ : _ ∧ k_ ≠ gb364))) (fun _ hk => hk.2) (.int .i64 ((rd_T49 (rd_L5 y356 x13_1) x14_2).f0))) (fun _ hk => hk.2) (.int .i64 ((rd_T49 (rd_L5 y356 x13_1) x14_2).f1))) (fun _ hk => hk.2) (.int .i64 ((rd_T49 (rd_L5 y356 x13_1) x14_2).f2))) (fun _ hk => hk.2) (.slice A363_3 ((rd_T49 (rd_L5 y356 x13_1) x14_2).f3).length c363_3)) (fun _ hk => hk.2) (.int .i64 ((rd_T49 (rd_L5 y356 x13_1) x14_2).f4))) (fun _ hk => hk.2) (.int .i64 ((rd_T49 (rd_L5 y356 x13_1) x14_2).f5))) (fun _ hk => hk.2) (.slice A363_6 ((rd_T49 (rd_L5 y356 x13_1) x14_2).f6).length c363_6)) (fun _ hk => hk.2) (.int .i64 ((rd_T49 l0 x14_2).f2))) (fun _ hk => hk.2) (.slice A366_3 ((rd_T49 l0 x14_2).f3).length c366_3)) (fun _ hk => ⟨hk.1.1.2, ⟨hk.1.1.1, hk.1.2⟩⟩)⟩
                 have n2_ : Aside0 (Kd.V (Kd.int .i64) 3 (((((((((w37.setCell ⟨gb364, 0, none⟩ (.int .i64 ((rd_T49 (rd_L5 y356 x13_1) x14_2).f0))).setCell ⟨gb364, 1, none⟩ (.int .i64 ((rd_T49 (rd_L5 y356 x13_1) x14_2).f1))).setCell ⟨gb364, 2, none⟩ (.int .i64 ((rd_T49 (rd_L5 y356 x13_1) x14_2).f2))).setCell ⟨gb364, 3, none⟩ (.slice A363_3 ((rd_T49 (rd_L5 y356 x13_1) x14_2).f3).length c363_3)).setCell ⟨gb364, 4, none⟩ (.int .i64 ((rd_T49 (rd_L5 y356 x13_1) x14_2).f4))).setCell ⟨gb364, 5, none⟩ (.int .i64 ((rd_T49 (rd_L5 y356 x13_1) x14_2).f5))).setCell ⟨gb364, 6, none⟩ (.slice A363_6 ((rd_T49 (rd_L5 y356 x13_1) x14_2).f6).length c363_6)).setCell ⟨gb364, 2, none⟩ (.int .i64 ((rd_T49 l0 x14_2).f2))).setCell ⟨gb364, 3, none⟩ (.slice A366_3 ((rd_T49 l0 x14_2).f3).length c366_3)) w.heap.size (fun k_ => some k_ ≠ (.slice (some ad360) y356.length co29 : Value).ownBlock ∧ k_ ≠ gb337 ∧ k_ ≠ gb364) (.slice A363_3 ((rd_T49 (rd_L5 y356 x13_1) x14_2).f3).length c363_3) ((rd_T49 (rd_L5 y356 x13_1) x14_2).f3)) := ⟨by (with_reducible repeat (first | apply Kd.V_alloc | apply Kd.V_drewN | apply Kd.V_drew)); exact Kd.V_mono (Kd.V_far (p := ⟨gb364, 3, none⟩) (Kd.V_far (p := ⟨gb364, 2, none⟩) (Kd.V_far (p := ⟨gb364, 6, none⟩) (Kd.V_far (p := ⟨gb364, 5, none⟩) (Kd.V_far (p := ⟨gb364, 4, none⟩) (Kd.V_far (p := ⟨gb364, 3, none⟩) (Kd.V_far (p := ⟨gb364, 2, none⟩) (Kd.V_far (p := ⟨gb364, 1, none⟩) (Kd.V_far (p := ⟨gb364, 0, none⟩) (Kd.V_mono HL363_3.out (fun k_ hk => (⟨hk, hk.2⟩ : _ ∧ k_ ≠ gb364))) (fun _ hk => hk.2) (.int .i64 ((rd_T49 (rd_L5 y356 x13_1) x14_2).f0))) (fun _ hk => hk.2) (.int .i64 ((rd_T49 (rd_L5 y356 x13_1) x14_2).f1))) (fun _ hk => hk.2) (.int .i64 ((rd_T49 (rd_L5 y356 x13_1) x14_2).f2))) (fun _ hk => hk.2) (.slice A363_3 ((rd_T49 (rd_L5 y356 x13_1) x14_2).f3).length c363_3)) (fun _ hk => hk.2) (.int .i64 ((rd_T49 (rd_L5 y356 x13_1) x14_2).f4))) (fun _ hk => hk.2) (.int .i64 ((rd_T49 (rd_L5 y356 x13_1) x14_2).f5))) (fun _ hk => hk.2) (.slice A363_6 ((rd_T49 (rd_L5 y356 x13_1) x14_2).f6).length c363_6)) (fun _ hk => hk.2) (.int .i64 ((rd_T49 l0 x14_2).f2))) (fun _ hk => hk.2) (.slice A366_3 ((rd_T49 l0 x14_2).f3).length c366_3)) (fun _ hk => ⟨hk.1.1.2, ⟨hk.1.1.1, hk.1.2⟩⟩)⟩
                 have n3_ : Aside0 (Kd.V k65 65 (((((((((w37.setCell ⟨gb364, 0, none⟩ (.int .i64 ((rd_T49 (rd_L5 y356 x13_1) x14_2).f0))).setCell ⟨gb364, 1, none⟩ (.int .i64 ((rd_T49 (rd_L5 y356 x13_1) x14_2).f1))).setCell ⟨gb364, 2, none⟩ (.int .i64 ((rd_T49 (rd_L5 y356 x13_1) x14_2).f2))).setCell ⟨gb364, 3, none⟩ (.slice A363_3 ((rd_T49 (rd_L5 y356 x13_1) x14_2).f3).length c363_3)).setCell ⟨gb364, 4, none⟩ (.int .i64 ((rd_T49 (rd_L5 y356 x13_1) x14_2).f4))).setCell ⟨gb364, 5, none⟩ (.int .i64 ((rd_T49 (rd_L5 y356 x13_1) x14_2).f5))).setCell ⟨gb364, 6, none⟩ (.slice A363_6 ((rd_T49 (rd_L5 y356 x13_1) x14_2).f6).length c363_6)).setCell ⟨gb364, 2, none⟩ (.int .i64 ((rd_T49 l0 x14_2).f2))).setCell ⟨gb364, 3, none⟩ (.slice A366_3 ((rd_T49 l0 x14_2).f3).length c366_3)) w.heap.size (fun k_ => some k_ ≠ (.slice (some ad360) y356.length co29 : Value).ownBlock ∧ k_ ≠ gb337 ∧ k_ ≠ gb364) (.slice A363_6 ((rd_T49 (rd_L5 y356 x13_1) x14_2).f6).length c363_6) ((rd_T49 (rd_L5 y356 x13_1) x14_2).f6)) := ⟨by (with_reducible repeat (first | apply Kd.V_alloc | apply Kd.V_drewN | apply Kd.V_drew)); exact Kd.V_mono (Kd.V_far (p := ⟨gb364, 3, none⟩) (Kd.V_far (p := ⟨gb364, 2, none⟩) (Kd.V_far (p := ⟨gb364, 6, none⟩) (Kd.V_far (p := ⟨gb364, 5, none⟩) (Kd.V_far (p := ⟨gb364, 4, none⟩) (Kd.V_far (p := ⟨gb364, 3, none⟩) (Kd.V_far (p := ⟨gb364, 2, none⟩) (Kd.V_far (p := ⟨gb364, 1, none⟩) (Kd.V_far (p := ⟨gb364, 0, none⟩) (Kd.V_mono HL363_6.out (fun k_ hk => (⟨hk, hk.2⟩ : _ ∧ k_ ≠ gb364))) (fun _ hk => hk.2) (.int .i64 ((rd_T49 (rd_L5 y356 x13_1) x14_2).f0))) (fun _ hk => hk.2) (.int .i64 ((rd_T49 (rd_L5 y356 x13_1) x14_2).f1))) (fun _ hk => hk.2) (.int .i64 ((rd_T49 (rd_L5 y356 x13_1) x14_2).f2))) (fun _ hk => hk.2) (.slice A363_3 ((rd_T49 (rd_L5 y356 x13_1) x14_2).f3).length c363_3)) (fun _ hk => hk.2) (.int .i64 ((rd_T49 (rd_L5 y356 x13_1) x14_2).f4))) (fun _ hk => hk.2) (.int .i64 ((rd_T49 (rd_L5 y356 x13_1) x14_2).f5))) (fun _ hk => hk.2) (.slice A363_6 ((rd_T49 (rd_L5 y356 x13_1) x14_2).f6).length c363_6)) (fun _ hk => hk.2) (.int .i64 ((rd_T49 l0 x14_2).f2))) (fun _ hk => hk.2) (.slice A366_3 ((rd_T49 l0 x14_2).f3).length c366_3)) (fun _ hk => ⟨hk.1.1.2, ⟨hk.1.1.1, hk.1.2⟩⟩)⟩
                 have n4_ : Aside0 ((((((((((w37.setCell ⟨gb364, 0, none⟩ (.int .i64 ((rd_T49 (rd_L5 y356 x13_1) x14_2).f0))).setCell ⟨gb364, 1, none⟩ (.int .i64 ((rd_T49 (rd_L5 y356 x13_1) x14_2).f1))).setCell ⟨gb364, 2, none⟩ (.int .i64 ((rd_T49 (rd_L5 y356 x13_1) x14_2).f2))).setCell ⟨gb364, 3, none⟩ (.slice A363_3 ((rd_T49 (rd_L5 y356 x13_1) x14_2).f3).length c363_3)).setCell ⟨gb364, 4, none⟩ (.int .i64 ((rd_T49 (rd_L5 y356 x13_1) x14_2).f4))).setCell ⟨gb364, 5, none⟩ (.int .i64 ((rd_T49 (rd_L5 y356 x13_1) x14_2).f5))).setCell ⟨gb364, 6, none⟩ (.slice A363_6 ((rd_T49 (rd_L5 y356 x13_1) x14_2).f6).length c363_6)).setCell ⟨gb364, 2, none⟩ (.int .i64 ((rd_T49 l0 x14_2).f2))).setCell ⟨gb364, 3, none⟩ (.slice A366_3 ((rd_T49 l0 x14_2).f3).length c366_3)).heap[gb337]? = some (.cells #[.int .i64 a1_0, .int .i64 a1_1, .int .i64 a1_2] 33 (0, 0))) := ⟨by (with_reducible repeat (first | refine blk_drewN ?_ _ | refine blk_drew ?_ | refine blk_alloc ?_ _)); refine blk_far ?_ NB337_364.out _; (with_reducible repeat (first | refine blk_drewN ?_ _ | refine blk_drew ?_ | refine blk_alloc ?_ _)); refine blk_far ?_ NB337_364.out _; (with_reducible repeat (first | refine blk_drewN ?_ _ | refine blk_drew ?_ | refine blk_alloc ?_ _)); refine blk_far ?_ NB337_364.out _; (with_reducible repeat (first | refine blk_drewN ?_ _ | refine blk_drew ?_ | refine blk_alloc ?_ _)); refine blk_far ?_ NB337_364.out _; (with_reducible repeat (first | refine blk_drewN ?_ _ | refine blk_drew ?_ | refine blk_alloc ?_ _)); refine blk_far ?_ NB337_364.out _; (with_reducible repeat (first | refine blk_drewN ?_ _ | refine blk_drew ?_ | refine blk_alloc ?_ _)); refine blk_far ?_ NB337_364.out _; (with_reducible repeat (first | refine blk_drewN ?_ _ | refine blk_drew ?_ | refine blk_alloc ?_ _)); refine blk_far ?_ NB337_364.out _; (with_reducible repeat (first | refine blk_drewN ?_ _ | refine blk_drew ?_ | refine blk_alloc ?_ _)); refine blk_far ?_ NB337_364.out _; (with_reducible repeat (first | refine blk_drewN ?_ _ | refine blk_drew ?_ | refine blk_alloc ?_ _)); refine blk_far ?_ NB337_364.out _; (with_reducible repeat (first | refine blk_drewN ?_ _ | refine blk_drew ?_ | refine blk_alloc ?_ _)); exact BK337.out⟩
                 have n5_ : Aside0 ((((((((((w37.setCell ⟨gb364, 0, none⟩ (.int .i64 ((rd_T49 (rd_L5 y356 x13_1) x14_2).f0))).setCell ⟨gb364, 1, none⟩ (.int .i64 ((rd_T49 (rd_L5 y356 x13_1) x14_2).f1))).setCell ⟨gb364, 2, none⟩ (.int .i64 ((rd_T49 (rd_L5 y356 x13_1) x14_2).f2))).setCell ⟨gb364, 3, none⟩ (.slice A363_3 ((rd_T49 (rd_L5 y356 x13_1) x14_2).f3).length c363_3)).setCell ⟨gb364, 4, none⟩ (.int .i64 ((rd_T49 (rd_L5 y356 x13_1) x14_2).f4))).setCell ⟨gb364, 5, none⟩ (.int .i64 ((rd_T49 (rd_L5 y356 x13_1) x14_2).f5))).setCell ⟨gb364, 6, none⟩ (.slice A363_6 ((rd_T49 (rd_L5 y356 x13_1) x14_2).f6).length c363_6)).setCell ⟨gb364, 2, none⟩ (.int .i64 ((rd_T49 l0 x14_2).f2))).setCell ⟨gb364, 3, none⟩ (.slice A366_3 ((rd_T49 l0 x14_2).f3).length c366_3)).heap[gb364]? = some (.cells #[.int .i64 ((rd_T49 (rd_L5 y356 x13_1) x14_2).f0), .int .i64 ((rd_T49 (rd_L5 y356 x13_1) x14_2).f1), .int .i64 ((rd_T49 l0 x14_2).f2), .slice A366_3 ((rd_T49 l0 x14_2).f3).length c366_3, .int .i64 ((rd_T49 (rd_L5 y356 x13_1) x14_2).f4), .int .i64 ((rd_T49 (rd_L5 y356 x13_1) x14_2).f5), .slice A363_6 ((rd_T49 (rd_L5 y356 x13_1) x14_2).f6).length c363_6] 49 (0, 0))) := ⟨by (with_reducible repeat (first | refine blk_drewN ?_ _ | refine blk_drew ?_ | refine blk_alloc ?_ _)); refine blk_put (cs := #[.int .i64 ((rd_T49 (rd_L5 y356 x13_1) x14_2).f0), .int .i64 ((rd_T49 (rd_L5 y356 x13_1) x14_2).f1), .int .i64 ((rd_T49 l0 x14_2).f2), .slice A363_3 ((rd_T49 (rd_L5 y356 x13_1) x14_2).f3).length c363_3, .int .i64 ((rd_T49 (rd_L5 y356 x13_1) x14_2).f4), .int .i64 ((rd_T49 (rd_L5 y356 x13_1) x14_2).f5), .slice A363_6 ((rd_T49 (rd_L5 y356 x13_1) x14_2).f6).length c363_6]) ?_ 3 _ rfl; (with_reducible repeat (first | refine blk_drewN ?_ _ | refine blk_drew ?_ | refine blk_alloc ?_ _)); refine blk_put (cs := #[.int .i64 ((rd_T49 (rd_L5 y356 x13_1) x14_2).f0), .int .i64 ((rd_T49 (rd_L5 y356 x13_1) x14_2).f1), .int .i64 ((rd_T49 (rd_L5 y356 x13_1) x14_2).f2), .slice A363_3 ((rd_T49 (rd_L5 y356 x13_1) x14_2).f3).length c363_3, .int .i64 ((rd_T49 (rd_L5 y356 x13_1) x14_2).f4), .int .i64 ((rd_T49 (rd_L5 y356 x13_1) x14_2).f5), .slice A363_6 ((rd_T49 (rd_L5 y356 x13_1) x14_2).f6).length c363_6]) ?_ 2 _ rfl; (with_reducible repeat (first | refine blk_drewN ?_ _ | refine blk_drew ?_ | refine blk_alloc ?_ _)); refine blk_put (cs := #[.int .i64 ((rd_T49 (rd_L5 y356 x13_1) x14_2).f0), .int .i64 ((rd_T49 (rd_L5 y356 x13_1) x14_2).f1), .int .i64 ((rd_T49 (rd_L5 y356 x13_1) x14_2).f2), .slice A363_3 ((rd_T49 (rd_L5 y356 x13_1) x14_2).f3).length c363_3, .int .i64 ((rd_T49 (rd_L5 y356 x13_1) x14_2).f4), .int .i64 ((rd_T49 (rd_L5 y356 x13_1) x14_2).f5), .slice none 0 0]) ?_ 6 _ rfl; (with_reducible repeat (first | refine blk_drewN ?_ _ | refine blk_drew ?_ | refine blk_alloc ?_ _)); refine blk_put (cs := #[.int .i64 ((rd_T49 (rd_L5 y356 x13_1) x14_2).f0), .int .i64 ((rd_T49 (rd_L5 y356 x13_1) x14_2).f1), .int .i64 ((rd_T49 (rd_L5 y356 x13_1) x14_2).f2), .slice A363_3 ((rd_T49 (rd_L5 y356 x13_1) x14_2).f3).length c363_3, .int .i64 ((rd_T49 (rd_L5 y356 x13_1) x14_2).f4), .int .i64 0, .slice none 0 0]) ?_ 5 _ rfl; (with_reducible repeat (first | refine blk_drewN ?_ _ | refine blk_drew ?_ | refine blk_alloc ?_ _)); refine blk_put (cs := #[.int .i64 ((rd_T49 (rd_L5 y356 x13_1) x14_2).f0), .int .i64 ((rd_T49 (rd_L5 y356 x13_1) x14_2).f1), .int .i64 ((rd_T49 (rd_L5 y356 x13_1) x14_2).f2), .slice A363_3 ((rd_T49 (rd_L5 y356 x13_1) x14_2).f3).length c363_3, .int .i64 0, .int .i64 0, .slice none 0 0]) ?_ 4 _ rfl; (with_reducible repeat (first | refine blk_drewN ?_ _ | refine blk_drew ?_ | refine blk_alloc ?_ _)); refine blk_put (cs := #[.int .i64 ((rd_T49 (rd_L5 y356 x13_1) x14_2).f0), .int .i64 ((rd_T49 (rd_L5 y356 x13_1) x14_2).f1), .int .i64 ((rd_T49 (rd_L5 y356 x13_1) x14_2).f2), .slice none 0 0, .int .i64 0, .int .i64 0, .slice none 0 0]) ?_ 3 _ rfl; (with_reducible repeat (first | refine blk_drewN ?_ _ | refine blk_drew ?_ | refine blk_alloc ?_ _)); refine blk_put (cs := #[.int .i64 ((rd_T49 (rd_L5 y356 x13_1) x14_2).f0), .int .i64 ((rd_T49 (rd_L5 y356 x13_1) x14_2).f1), .int .i64 0, .slice none 0 0, .int .i64 0, .int .i64 0, .slice none 0 0]) ?_ 2 _ rfl; (with_reducible repeat (first | refine blk_drewN ?_ _ | refine blk_drew ?_ | refine blk_alloc ?_ _)); refine blk_put (cs := #[.int .i64 ((rd_T49 (rd_L5 y356 x13_1) x14_2).f0), .int .i64 0, .int .i64 0, .slice none 0 0, .int .i64 0, .int .i64 0, .slice none 0 0]) ?_ 1 _ rfl; (with_reducible repeat (first | refine blk_drewN ?_ _ | refine blk_drew ?_ | refine blk_alloc ?_ _)); refine blk_put (cs := #[.int .i64 0, .int .i64 0, .int .i64 0, .slice none 0 0, .int .i64 0, .int .i64 0, .slice none 0 0]) ?_ 0 _ rfl; (with_reducible repeat (first | refine blk_drewN ?_ _ | refine blk_drew ?_ | refine blk_alloc ?_ _)); exact BK364.out⟩
                 have n6_ : Aside0 (Below w.heap.size w (((((((((w37.setCell ⟨gb364, 0, none⟩ (.int .i64 ((rd_T49 (rd_L5 y356 x13_1) x14_2).f0))).setCell ⟨gb364, 1, none⟩ (.int .i64 ((rd_T49 (rd_L5 y356 x13_1) x14_2).f1))).setCell ⟨gb364, 2, none⟩ (.int .i64 ((rd_T49 (rd_L5 y356 x13_1) x14_2).f2))).setCell ⟨gb364, 3, none⟩ (.slice A363_3 ((rd_T49 (rd_L5 y356 x13_1) x14_2).f3).length c363_3)).setCell ⟨gb364, 4, none⟩ (.int .i64 ((rd_T49 (rd_L5 y356 x13_1) x14_2).f4))).setCell ⟨gb364, 5, none⟩ (.int .i64 ((rd_T49 (rd_L5 y356 x13_1) x14_2).f5))).setCell ⟨gb364, 6, none⟩ (.slice A363_6 ((rd_T49 (rd_L5 y356 x13_1) x14_2).f6).length c363_6)).setCell ⟨gb364, 2, none⟩ (.int .i64 ((rd_T49 l0 x14_2).f2))).setCell ⟨gb364, 3, none⟩ (.slice A366_3 ((rd_T49 l0 x14_2).f3).length c366_3))) := ⟨by repeat (first | (with_reducible first | exact HB.out | apply below_alloc | apply pw_below_drewN | apply below_drew1 | refine below_set ?_ GE337.out | refine below_set ?_ GE364.out) | exact HB.out)⟩
                 (try clear HO_12)
                 (try clear HL362_0)
                 (try clear HL363_3)
                 (try clear HL363_6)
                 (try clear BK337)
                 (try clear BK364)
                 (try clear HB)
                 generalize (((((((((w37.setCell ⟨gb364, 0, none⟩ (.int .i64 ((rd_T49 (rd_L5 y356 x13_1) x14_2).f0))).setCell ⟨gb364, 1, none⟩ (.int .i64 ((rd_T49 (rd_L5 y356 x13_1) x14_2).f1))).setCell ⟨gb364, 2, none⟩ (.int .i64 ((rd_T49 (rd_L5 y356 x13_1) x14_2).f2))).setCell ⟨gb364, 3, none⟩ (.slice A363_3 ((rd_T49 (rd_L5 y356 x13_1) x14_2).f3).length c363_3)).setCell ⟨gb364, 4, none⟩ (.int .i64 ((rd_T49 (rd_L5 y356 x13_1) x14_2).f4))).setCell ⟨gb364, 5, none⟩ (.int .i64 ((rd_T49 (rd_L5 y356 x13_1) x14_2).f5))).setCell ⟨gb364, 6, none⟩ (.slice A363_6 ((rd_T49 (rd_L5 y356 x13_1) x14_2).f6).length c363_6)).setCell ⟨gb364, 2, none⟩ (.int .i64 ((rd_T49 l0 x14_2).f2))).setCell ⟨gb364, 3, none⟩ (.slice A366_3 ((rd_T49 l0 x14_2).f3).length c366_3)) = w40 at n0_ n1_ n2_ n3_ n4_ n5_ n6_ ⊢
                 have HO_12 := n0_
                 have HL362_0 := n1_
                 have HL363_3 := n2_
                 have HL363_6 := n3_
                 have BK337 := n4_
                 have BK364 := n5_
                 have HB := n6_
                 clear n0_ n1_ n2_ n3_ n4_ n5_ n6_
                 have n0_ := Aside0.mk (Kd.N_drew HO_12.out)
                 have n1_ := Aside0.mk (Kd.V_drew HL362_0.out)
                 have n2_ := Aside0.mk (Kd.V_drew HL363_3.out)
                 have n3_ := Aside0.mk (Kd.V_drew HL363_6.out)
                 have n4_ := Aside0.mk (blk_drew BK337.out)
                 have n5_ := Aside0.mk (blk_drew BK364.out)
                 have n6_ := Aside0.mk (below_drew1 HB.out)
                 clear HO_12
                 clear HL362_0
                 clear HL363_3
                 clear HL363_6
                 clear BK337
                 clear BK364
                 clear HB
                 have HO_12 := n0_
                 have HL362_0 := n1_
                 have HL363_3 := n2_
                 have HL363_6 := n3_
                 have BK337 := n4_
                 have BK364 := n5_
                 have HB := n6_
                 clear n0_ n1_ n2_ n3_ n4_ n5_ n6_
                 have p367 : 0 ≤ (x14_2 : Int) := of_decide_eq_true asm_
                 have q367 : x14_2 < (l0.length : Int) := of_decide_eq_true asm_
                 obtain ⟨ad367, A367_3, c367_3, A367_6, c367_6, e367, hx367_0, hx367_1, hx367_2, hx367_3, hx367_4, hx367_5, hx367_6, hl367_3, hi367_3, hl367_6, hi367_6⟩ := at_T49 HR0.out x14_2 p367 q367
                 have hw367_6 := hx367_6
                 have hw367_5 := hx367_5
                 have hw367_4 := hx367_4
                 have hw367_3 := hx367_3
                 have hw367_2 := hx367_2
                 have hw367_1 := hx367_1
                 have hw367_0 := hx367_0
                 obtain rfl : ad365 = ad367 := (by injection e367)
                 replace hx367_0 := (HB.out.cell (World.block_lt_of_cell? w _ hx367_0)).trans hx367_0
                 replace hx367_1 := (HB.out.cell (World.block_lt_of_cell? w _ hx367_1)).trans hx367_1
                 replace hx367_2 := (HB.out.cell (World.block_lt_of_cell? w _ hx367_2)).trans hx367_2
                 replace hx367_3 := (HB.out.cell (World.block_lt_of_cell? w _ hx367_3)).trans hx367_3
                 replace hx367_4 := (HB.out.cell (World.block_lt_of_cell? w _ hx367_4)).trans hx367_4
                 replace hx367_5 := (HB.out.cell (World.block_lt_of_cell? w _ hx367_5)).trans hx367_5
                 replace hx367_6 := (HB.out.cell (World.block_lt_of_cell? w _ hx367_6)).trans hx367_6
                 have HR367_3 := Aside0.mk hi367_3
                 have HC367_3 := Aside0.mk hl367_3
                 clear hi367_3 hl367_3
                 have HR367_6 := Aside0.mk hi367_6
                 have HC367_6 := Aside0.mk hl367_6
                 clear hi367_6 hl367_6
                 replace p367 := eq_true p367
                 replace q367 := eq_true q367
                 refine start_ (n := 7) (S := fun w' => w'.cell? ⟨gb364, 0, none⟩ = some (.int .i64 ((rd_T49 (rd_L5 y356 x13_1) x14_2).f0)) ∧ w'.cell? ⟨gb364, 1, none⟩ = some (.int .i64 ((rd_T49 (rd_L5 y356 x13_1) x14_2).f1)) ∧ w'.cell? ⟨gb364, 2, none⟩ = some (.int .i64 ((rd_T49 l0 x14_2).f2)) ∧ w'.cell? ⟨gb364, 3, none⟩ = some (.slice A366_3 ((rd_T49 l0 x14_2).f3).length c366_3) ∧ w'.cell? ⟨gb364, 4, none⟩ = some (.int .i64 ((rd_T49 (rd_L5 y356 x13_1) x14_2).f4)) ∧ w'.cell? ⟨gb364, 5, none⟩ = some (.int .i64 ((rd_T49 (rd_L5 y356 x13_1) x14_2).f5)) ∧ w'.cell? ⟨gb364, 6, none⟩ = some (.slice A363_6 ((rd_T49 (rd_L5 y356 x13_1) x14_2).f6).length c363_6) ∧ w'.cell? (ad365.add ((x14_2).toNat * 7)) = some (.int .i64 ((rd_T49 l0 x14_2).f0)) ∧ w'.cell? ⟨(ad365.add ((x14_2).toNat * 7)).block, (ad365.add ((x14_2).toNat * 7)).off + 1, none⟩ = some (.int .i64 ((rd_T49 l0 x14_2).f1)) ∧ w'.cell? ⟨(ad365.add ((x14_2).toNat * 7)).block, (ad365.add ((x14_2).toNat * 7)).off + 2, none⟩ = some (.int .i64 ((rd_T49 l0 x14_2).f2)) ∧ w'.cell? ⟨(ad365.add ((x14_2).toNat * 7)).block, (ad365.add ((x14_2).toNat * 7)).off + 3, none⟩ = some (.slice A367_3 ((rd_T49 l0 x14_2).f3).length c367_3) ∧ w'.cell? ⟨(ad365.add ((x14_2).toNat * 7)).block, (ad365.add ((x14_2).toNat * 7)).off + 4, none⟩ = some (.int .i64 ((rd_T49 l0 x14_2).f4)) ∧ w'.cell? ⟨(ad365.add ((x14_2).toNat * 7)).block, (ad365.add ((x14_2).toNat * 7)).off + 5, none⟩ = some (.int .i64 ((rd_T49 l0 x14_2).f5)) ∧ w'.cell? ⟨(ad365.add ((x14_2).toNat * 7)).block, (ad365.add ((x14_2).toNat * 7)).off + 6, none⟩ = some (.slice A367_6 ((rd_T49 l0 x14_2).f6).length c367_6)) (ds := []) #[false, false, false, false, false, false, false] (by kernel_rfl) rfl rfl ⟨(blk_cell BK364.out 0).trans rfl, (blk_cell BK364.out 1).trans rfl, (blk_cell BK364.out 2).trans rfl, (blk_cell BK364.out 3).trans rfl, (blk_cell BK364.out 4).trans rfl, (blk_cell BK364.out 5).trans rfl, (blk_cell BK364.out 6).trans rfl, ((HB.out.cell (World.block_lt_of_cell? w _ hw367_0)).trans hw367_0), ((HB.out.cell (World.block_lt_of_cell? w _ hw367_1)).trans hw367_1), ((HB.out.cell (World.block_lt_of_cell? w _ hw367_2)).trans hw367_2), ((HB.out.cell (World.block_lt_of_cell? w _ hw367_3)).trans hw367_3), ((HB.out.cell (World.block_lt_of_cell? w _ hw367_4)).trans hw367_4), ((HB.out.cell (World.block_lt_of_cell? w _ hw367_5)).trans hw367_5), ((HB.out.cell (World.block_lt_of_cell? w _ hw367_6)).trans hw367_6)⟩ (fun hHeld => ?_)
                 generalize w40.drew = w41 at HO_12 HL362_0 HL363_3 HL363_6 BK337 BK364 HB HR367_3 HR367_6 hx367_0 hx367_1 hx367_2 hx367_3 hx367_4 hx367_5 hx367_6 hHeld ⊢
                 refine pure_ (i := 1) (N := some 92) (v := ?_) (a' := ?_) #[false, true, false, false, false, false, false] rfl rfl (by kernel_rfl) (fun _ _ _ h => h) (Or.inl ⟨by rfl, ?_⟩) ?_ ?_
                 rotate_left
                 ·intro w'
                  go_simp
                  with_reducible rfl
                 rotate_left
                 ·simp only [Act.put, List.setIfInBounds_toArray, List.set_cons_zero, List.set_cons_succ, i64_w, i32_w]
                  rfl
                 refine pure_ (i := 2) (N := some 93) (v := ?_) (a' := ?_) #[false, true, true, false, false, false, false] rfl rfl (by kernel_rfl) (fun _ _ _ h => h) (Or.inl ⟨by rfl, ?_⟩) ?_ ?_
                 rotate_left
                 ·intro w'
                  go_simp
                  with_reducible rfl
                 rotate_left
                 ·simp only [Act.put, List.setIfInBounds_toArray, List.set_cons_zero, List.set_cons_succ, i64_w, i32_w]
                  rfl
                 refine pure_ (i := 3) (N := some 94) (v := ?_) (a' := ?_) #[false, true, true, true, false, false, false] rfl rfl (by kernel_rfl) (fun _ _ _ h => h) (Or.inl ⟨by rfl, ?_⟩) ?_ ?_
                 rotate_left
                 ·intro w'
                  go_simp
                  with_reducible rfl
                 rotate_left
                 ·simp only [Act.put, List.setIfInBounds_toArray, List.set_cons_zero, List.set_cons_succ, i64_w, i32_w]
                  rfl
                 refine take_ (i := 0) (N := some 91) (v := ?_) (a' := ?_) #[true, true, true, true, false, false, false] rfl rfl (by kernel_rfl) (fun _ _ _ h => h) (Or.inl ⟨by rfl, ?_⟩) hHeld ?_ ?_
                 rotate_left
                 ·rintro w' ⟨s0, s1, s2, s3, s4, s5, s6, s7, s8, s9, s10, s11, s12, s13⟩
                  go_simp
                  with_reducible rfl
                 rotate_left
                 ·simp only [Act.put, List.setIfInBounds_toArray, List.set_cons_zero, List.set_cons_succ, i64_w, i32_w]
                  rfl
                 refine take_ (i := 4) (N := some 95) (v := ?_) (a' := ?_) #[true, true, true, true, true, false, false] rfl rfl (by kernel_rfl) (fun _ _ _ h => h) (Or.inl ⟨by rfl, ?_⟩) hHeld ?_ ?_
                 rotate_left
                 ·rintro w' ⟨s0, s1, s2, s3, s4, s5, s6, s7, s8, s9, s10, s11, s12, s13⟩
                  go_simp
                  with_reducible rfl
                 rotate_left
                 ·simp only [Act.put, List.setIfInBounds_toArray, List.set_cons_zero, List.set_cons_succ, i64_w, i32_w]
                  rfl
                 refine one_ (i := 5) (N := some 96) #[true, true, true, true, true, true, false] rfl rfl (by kernel_rfl) (by decide) (fun K hK => ?_)
                 refine goes_ Try.func26 (by kernel_rfl) rfl #[.agg #[.int .i64 ((rd_T49 (rd_L5 y356 x13_1) x14_2).f0), .int .i64 ((rd_T49 (rd_L5 y356 x13_1) x14_2).f1), .int .i64 ((rd_T49 l0 x14_2).f2), .slice A366_3 ((rd_T49 l0 x14_2).f3).length c366_3, .int .i64 ((rd_T49 (rd_L5 y356 x13_1) x14_2).f4), .int .i64 ((rd_T49 (rd_L5 y356 x13_1) x14_2).f5), .slice A363_6 ((rd_T49 (rd_L5 y356 x13_1) x14_2).f6).length c363_6], .agg #[.int .i64 ((rd_T49 l0 x14_2).f0), .int .i64 ((rd_T49 l0 x14_2).f1), .int .i64 ((rd_T49 l0 x14_2).f2), .slice A367_3 ((rd_T49 l0 x14_2).f3).length c367_3, .int .i64 ((rd_T49 l0 x14_2).f4), .int .i64 ((rd_T49 l0 x14_2).f5), .slice A367_6 ((rd_T49 l0 x14_2).f6).length c367_6]] (by rfl) rfl rfl margs_ ?_
                 with_reducible refine (limelightref01_One.calls k2 ((rd_T49 (rd_L5 y356 x13_1) x14_2).f0) ((rd_T49 (rd_L5 y356 x13_1) x14_2).f1) ((rd_T49 l0 x14_2).f2) _ _ ((rd_T49 l0 x14_2).f3) ((rd_T49 (rd_L5 y356 x13_1) x14_2).f4) ((rd_T49 (rd_L5 y356 x13_1) x14_2).f5) _ _ ((rd_T49 (rd_L5 y356 x13_1) x14_2).f6) ((rd_T49 l0 x14_2).f0) ((rd_T49 l0 x14_2).f1) ((rd_T49 l0 x14_2).f2) _ _ ((rd_T49 l0 x14_2).f3) ((rd_T49 l0 x14_2).f4) ((rd_T49 l0 x14_2).f5) _ _ ((rd_T49 l0 x14_2).f6) true _ ?side1 ?side2 ?side3 ?side4 ?side5 ?side6 ?side7 ?side8 A35.out).mono ?_
                 (case side1 => exact kcb_ ((Kd.C_below HR366_3.out HB.out)))
                 (case side2 => exact HC366_3.out)
                 (case side3 => repeat (first | exact ((Kd.V_reads' (by (with_reducible repeat (first | apply Kd.V_alloc | apply Kd.V_drewN | apply Kd.V_drew)); exact HL363_6.out)).2.2) | (with_reducible refine Kd.C_alloc ?_ _) | (with_reducible refine Kd.C_drewN ?_ _) | (with_reducible refine Kd.C_drew ?_)))
                 (case side4 => exact HC363_6.out)
                 (case side5 => exact kcb_ ((Kd.C_below HR367_3.out HB.out)))
                 (case side6 => exact HC367_3.out)
                 (case side7 => exact kcb_ ((Kd.C_below HR367_6.out HB.out)))
                 (case side8 => exact HC367_6.out)
                 rintro e w42 ⟨rfl, hb⟩
                 refine ⟨_, rfl, ?_⟩
                 have n0_ := Aside0.mk (Kd.N_below (by (with_reducible repeat (first | apply Kd.N_alloc | apply Kd.N_drewN | apply Kd.N_drew)); exact HO_12.out) hb)
                 have n1_ := Aside0.mk (Kd.V_below (by (with_reducible repeat (first | apply Kd.V_alloc | apply Kd.V_drewN | apply Kd.V_drew)); exact HL362_0.out) hb)
                 have n2_ := Aside0.mk (Kd.V_below (by (with_reducible repeat (first | apply Kd.V_alloc | apply Kd.V_drewN | apply Kd.V_drew)); exact HL363_3.out) hb)
                 have n3_ := Aside0.mk (Kd.V_below (by (with_reducible repeat (first | apply Kd.V_alloc | apply Kd.V_drewN | apply Kd.V_drew)); exact HL363_6.out) hb)
                 have n4_ := Aside0.mk (blk_below (g := gb337) (o := .cells #[.int .i64 a1_0, .int .i64 a1_1, .int .i64 a1_2] 33 (0, 0)) (blkx_ BK337.out) hb)
                 have n5_ := Aside0.mk (blk_below (g := gb364) (o := .cells #[.int .i64 ((rd_T49 (rd_L5 y356 x13_1) x14_2).f0), .int .i64 ((rd_T49 (rd_L5 y356 x13_1) x14_2).f1), .int .i64 ((rd_T49 l0 x14_2).f2), .slice A366_3 ((rd_T49 l0 x14_2).f3).length c366_3, .int .i64 ((rd_T49 (rd_L5 y356 x13_1) x14_2).f4), .int .i64 ((rd_T49 (rd_L5 y356 x13_1) x14_2).f5), .slice A363_6 ((rd_T49 (rd_L5 y356 x13_1) x14_2).f6).length c363_6] 49 (0, 0)) (blkx_ BK364.out) hb)
                 have n6_ := Aside0.mk (below_step (by repeat (first | (with_reducible first | exact HB.out | apply below_alloc | apply pw_below_drewN | apply below_drew1 | refine below_set ?_ GE337.out | refine below_set ?_ GE364.out) | exact HB.out)) hb)
                 clear HO_12
                 clear HL362_0
                 clear HL363_3
                 clear HL363_6
                 clear BK337
                 clear BK364
                 clear HB
                 have HO_12 := n0_
                 have HL362_0 := n1_
                 have HL363_3 := n2_
                 have HL363_6 := n3_
                 have BK337 := n4_
                 have BK364 := n5_
                 have HB := n6_
                 clear n0_ n1_ n2_ n3_ n4_ n5_ n6_
                 (try clear hb)
                 (try clear hb2)
                 (try clear hk)
                 (try clear hi)
                 refine hK.out _ _ ⟨(blk_cell BK364.out 0).trans rfl, (blk_cell BK364.out 1).trans rfl, (blk_cell BK364.out 2).trans rfl, (blk_cell BK364.out 3).trans rfl, (blk_cell BK364.out 4).trans rfl, (blk_cell BK364.out 5).trans rfl, (blk_cell BK364.out 6).trans rfl, ((HB.out.cell (World.block_lt_of_cell? w _ hw367_0)).trans hw367_0), ((HB.out.cell (World.block_lt_of_cell? w _ hw367_1)).trans hw367_1), ((HB.out.cell (World.block_lt_of_cell? w _ hw367_2)).trans hw367_2), ((HB.out.cell (World.block_lt_of_cell? w _ hw367_3)).trans hw367_3), ((HB.out.cell (World.block_lt_of_cell? w _ hw367_4)).trans hw367_4), ((HB.out.cell (World.block_lt_of_cell? w _ hw367_5)).trans hw367_5), ((HB.out.cell (World.block_lt_of_cell? w _ hw367_6)).trans hw367_6)⟩ (fun hHeld => ?_)
                 clear hK K
                 refine norm_ (a' := ?_) ?_ ?_
                 rotate_left
                 ·show Act.put _ (some 96) _ = _
                  simp only [Act.put, List.setIfInBounds_toArray, List.set_cons_zero, List.set_cons_succ, i64_w, i32_w]
                  rfl
                 refine pure_ (i := 6) (N := some 97) (v := ?_) (a' := ?_) #[true, true, true, true, true, true, true] rfl rfl (by kernel_rfl) (fun _ _ _ h => h) (Or.inl ⟨by rfl, ?_⟩) ?_ ?_
                 rotate_left
                 ·intro w'
                  go_simp
                  with_reducible rfl
                 rotate_left
                 ·simp only [Act.put, List.setIfInBounds_toArray, List.set_cons_zero, List.set_cons_succ, i64_w, i32_w]
                  rfl
                 refine done_ (by kernel_rfl) ?_
                 try go_wp2
                 go_roundg k2
                 case measure => have := HK1.out; have := HK2.out; omega
                 case rel => exact ⟨(wrap64 (x14_2 + 1)), (by first | rfl | (simp; done) | (simp [*]; done)), H', ⟨by have := HK1.out; have := HK2.out; omega⟩, ⟨by (with_reducible repeat (first | apply Kd.N_alloc | apply Kd.N_drewN | apply Kd.N_drew)); exact Kd.N_mono HO_12.out (fun _ hk => hk.1)⟩, ⟨blkx_ BK337.out⟩, ⟨by repeat (first | (with_reducible first | exact HB.out | apply below_alloc | apply pw_below_drewN | apply below_drew1 | refine below_set ?_ GE337.out | refine below_set ?_ GE364.out) | exact HB.out)⟩⟩
                ·replace c36 := Bool.eq_false_iff.mpr c36
                 subst c36
                 have H1 : (none) = some r := by rw [if_neg (show ¬ (false = true) by decide)] at H; exact H
                 clear H
                 have H := H1
                 clear H1
                 exact absurd H (by simp)
               ·rw [if_neg c34] at H
                exact absurd H (by simp)
              ·rw [if_neg c33] at H
               exact absurd H (by simp)
             ·rw [if_neg c32] at H
              exact absurd H (by simp)
            ·rw [if_neg c31] at H
             exact absurd H (by simp)
           ·rw [if_neg c30] at H
            have c30b0 : decide (x14_2 < (l0.length : Int)) = false := decide_eq_false c30
            clear c30
            have H' := Aside0.mk H
            clear H
            go_wp2
            go_roundg k2
            case measure => have := HK1.out; have := HK2.out; omega
            case rel => exact ⟨(wrap64 (x13_1 + 1)), (by first | rfl | (simp; done) | (simp [*]; done)), H', ⟨by have := HK1.out; have := HK2.out; omega⟩, ⟨by (with_reducible repeat (first | apply Kd.N_alloc | apply Kd.N_drewN | apply Kd.N_drew)); exact HO_12.out⟩, ⟨blkx_ BK337.out⟩, ⟨belg_ GE337.out⟩⟩
      ·rw [if_neg c25] at H
       exact absurd H (by simp)
     ·rw [if_neg c24] at H
      exact absurd H (by simp)
    ·rw [if_neg c23] at H
     have c23b0 : decide (x13_1 < 3) = false := decide_eq_false c23
     clear c23
     replace H := Option.bind_eq_some_iff.mp H
     obtain ⟨t359, A430, H⟩ := H
     replace H : (some t359) = some r := H
     have A43 := Aside0.mk A430
     clear A430
     obtain rfl := Option.some.inj H
     go_wp2_with (first | ((with_reducible refine gate_callee (f := 10) rfl ?_); refine goesL_ (some 98) rfl rfl Try.func10 (by kernel_rfl) rfl #[] rfl margs_ ?_; (with_reducible refine (limelightlaw01_live.calls  t359 _ A43.out).mono ?_); rintro e w44 ⟨rfl, hb⟩; refine ⟨_, rfl, ?_⟩; have n0_ := Aside0.mk (Kd.N_below (by (with_reducible repeat (first | apply Kd.N_alloc | apply Kd.N_drewN | apply Kd.N_drew)); exact HO_12.out) hb); have n1_ := Aside0.mk (blk_below (g := gb337) (o := .cells #[.int .i64 a1_0, .int .i64 a1_1, .int .i64 a1_2] 33 (0, 0)) (blkx_ BK337.out) hb); have n2_ := Aside0.mk (below_step (belg_ GE337.out) hb); clear HO_12; clear BK337; clear HB; have HO_12 := n0_; have BK337 := n1_; have HB := n2_; clear n0_ n1_ n2_; (try clear hb); (try clear hb2); (try clear hk); (try clear hi)))
     go_ret
     exact ⟨by first | rfl | (simp [errW_none, errW_some] <;> rfl) | (simp [*, errW_none, errW_some] <;> rfl), belg_ GE337.out⟩
 ·replace c4 := Bool.eq_false_iff.mpr c4
  subst c4
  have H1 : ((limelightlaw01_live.f).bind fun t339 => (some t339)) = some r := by rw [if_neg (show ¬ (false = true) by decide)] at H; exact H
  clear H
  have H := H1
  clear H1
  replace H := Option.bind_eq_some_iff.mp H
  obtain ⟨t339, A450, H⟩ := H
  replace H : (some t339) = some r := H
  have A45 := Aside0.mk A450
  clear A450
  obtain rfl := Option.some.inj H
  go_enter Try.func8, Try.ntmps8
  go_wp2_with (first | ((with_reducible refine gate_dst (N := 3) rfl ?_); refine box_event ?hg (N := 3) ?hd (cs := #[.int .i64 a1_0, .int .i64 a1_1, .int .i64 a1_2]) (t := 33) ?hr ?_; (case hd => rfl); (case hg => rfl); (case hr => first | (go_simp; done) | (go_simp; rfl)); intro gb337 hg w46 hbox hb; have n0_ := Aside0.mk (below_step bel_ hb); have n1_ := Aside0.mk (hbox); have n2_ := Aside0.mk ((by rw [hg]; exact (below_size bel_) : w.heap.size ≤ gb337)); have n3_ := Aside0.mk ((by rw [hg]; exact (below_size bel_) : w.heap.size ≤ gb337)); clear HB; have HB := n0_; have BK337 := n1_; have GW337 := n2_; have GE337 := n3_; clear n0_ n1_ n2_ n3_; clear hb hbox hg) | ((with_reducible refine gate_callee (f := 9) rfl ?_); refine goesL_ (some 17) rfl rfl Try.func9 (by kernel_rfl) rfl #[.slice A0 l0.length c0] rfl margs_ ?_; (with_reducible refine (limelightref01_Small.calls _ _ l0 false _ ?side1 ?side2 A3.out).mono ?_); (case side1 => exact kcb_ ((Kd.C_below HR0.out HB.out))); (case side2 => exact HC0.out); rintro e w47 ⟨rfl, hb⟩; refine ⟨_, rfl, ?_⟩; have n0_ := Aside0.mk (blk_below (g := gb337) (o := .cells #[.int .i64 a1_0, .int .i64 a1_1, .int .i64 a1_2] 33 (0, 0)) (blkx_ BK337.out) hb); have n1_ := Aside0.mk (below_step (belg_ GE337.out) hb); clear BK337; clear HB; have BK337 := n0_; have HB := n1_; clear n0_ n1_; (try clear hb); (try clear hb2); (try clear hk); (try clear hi)) | ((with_reducible refine gate_callee (f := 10) rfl ?_); refine goesL_ (some 19) rfl rfl Try.func10 (by kernel_rfl) rfl #[] rfl margs_ ?_; (with_reducible refine (limelightlaw01_live.calls  t339 _ A45.out).mono ?_); rintro e w48 ⟨rfl, hb⟩; refine ⟨_, rfl, ?_⟩; have n0_ := Aside0.mk (blk_below (g := gb337) (o := .cells #[.int .i64 a1_0, .int .i64 a1_1, .int .i64 a1_2] 33 (0, 0)) (blkx_ BK337.out) hb); have n1_ := Aside0.mk (below_step (belg_ GE337.out) hb); clear BK337; clear HB; have BK337 := n0_; have HB := n1_; clear n0_ n1_; (try clear hb); (try clear hb2); (try clear hk); (try clear hi)))
  go_ret
  exact ⟨by first | rfl | (simp [errW_none, errW_some] <;> rfl) | (simp [*, errW_none, errW_some] <;> rfl), belg_ GE337.out⟩

end Go.Proofs.Ytclhmgchllenlaa.P
