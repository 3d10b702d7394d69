-- printed by wip/tools/pp.sh (a patched copy of the print's program), for this claim.
import Derived.Test.YtpklhnggbhkmiaaPx0
import Derived.Test.YtpklhnggbhkmiaaPx1
import Derived.Test.YtpklhnggbhkmiaaPx3
import Derived.Test.YtpklhnggbhkmiaaPx4
import Derived.Test.YtpklhnggbhkmiaaME
import Derived.Test.YtpklhnggbhkmiaaWT
namespace Go.Proofs.Ytpklhnggbhkmiaa.P
open Go.RowKit Go.Proofs.YtpklhnggbhkmiaaW.PrintWords Go.Proofs.YtpklhnggbhkmiaaW.PrintLast Go.Proofs.YtpklhnggbhkmiaaW.PrintMore
attribute [local go_sem] max2_int min2_int max_two min_two max_three min_three max_four min_four   -- for this text's walks alone
set_option linter.unusedVariables false
set_option linter.unusedSimpArgs false

/-! ### limelightlaw18_WatchOthers: function 7 -/
mutual
def limelightlaw18_WatchOthers.l0 : Nat → Int → Int → List (List Int) → Int → Bool → List (List Int) → Int → Bool → Option (Bool)
 | 0, _, _, _, _, _, _, _, _ => none
 | k + 1, x1, x6, x356000, x356001, x356002, x374000, x374001, x374002 => if (wrap64 (x6 + 1)) < (x356000.length : Int) then (if 0 ≤ x6 then (if x6 < (x374000.length : Int) then (if x6 < (x356000.length : Int) then ((limelightref01_Ints.f (rd_L1 x374000 x6) (rd_L1 x356000 x6)).bind fun t376 => (if t376 = true then (limelightlaw18_WatchOthers.l0 k x1 (wrap64 (x6 + 1)) x356000 x356001 x356002 x374000 x374001 x374002) else (none))) else (none)) else (none)) else (none)) else ((limelightlaw18_own.f x356000 x356001 x356002).bind fun bt377 => ((watch_Drop.f bt377.1 bt377.2.1 bt377.2.2 x1).bind fun bt382 => ((limelightlaw18_told.f bt382.1 bt382.2.1 bt382.2.2).bind fun bt387 => (limelightlaw18_WatchOthers.l1 k x1 ([] : List Int) 0 x356000 x356001 x356002 bt387.1 bt387.2.1 bt387.2.2))))
def limelightlaw18_WatchOthers.l1 : Nat → Int → List Int → Int → List (List Int) → Int → Bool → List (List Int) → Int → Bool → Option (Bool)
 | 0, _, _, _, _, _, _, _, _, _ => none
 | k + 1, x1, x8, x10, x356000, x356001, x356002, x393000, x393001, x393002 => if x10 < (x356000.length : Int) then (limelightlaw18_WatchOthers.l2 k x1 x8 x10 0 x356000 x356001 x356002 x393000 x393001 x393002) else (limelightlaw18_WatchOthers.l3 k x8 ([] : List Int) 0 x356000 x356001 x356002 x393000 x393001 x393002)
def limelightlaw18_WatchOthers.l2 : Nat → Int → List Int → Int → Int → List (List Int) → Int → Bool → List (List Int) → Int → Bool → Option (Bool)
 | 0, _, _, _, _, _, _, _, _, _, _ => none
 | k + 1, x1, x8, x10, x11, x356000, x356001, x356002, x393000, x393001, x393002 => if 0 ≤ x10 then (if x10 < (x356000.length : Int) then (if x11 < ((rd_L1 x356000 x10).length : Int) then (if 0 ≤ x11 then (if (rd (rd_L1 x356000 x10) x11) = x1 then (limelightlaw18_WatchOthers.l2 k x1 x8 x10 (wrap64 (x11 + 1)) x356000 x356001 x356002 x393000 x393001 x393002) else (if x8.length < 17592186044416 then (limelightlaw18_WatchOthers.l2 k x1 (x8 ++ [rd (rd_L1 x356000 x10) x11]) x10 (wrap64 (x11 + 1)) x356000 x356001 x356002 x393000 x393001 x393002) else (none))) else (none)) else (limelightlaw18_WatchOthers.l1 k x1 x8 (wrap64 (x10 + 1)) x356000 x356001 x356002 x393000 x393001 x393002)) else (none)) else (none)
def limelightlaw18_WatchOthers.l3 : Nat → List Int → List Int → Int → List (List Int) → Int → Bool → List (List Int) → Int → Bool → Option (Bool)
 | 0, _, _, _, _, _, _, _, _, _ => none
 | k + 1, x8, x9, x12, x356000, x356001, x356002, x393000, x393001, x393002 => if x12 < (x393000.length : Int) then (if 0 ≤ x12 then (if ((rd_L1 x393000 x12).length : Int) = 0 then (none) else (if x9.length + (rd_L1 x393000 x12).length < 17592186044416 then (limelightlaw18_WatchOthers.l3 k x8 (x9 ++ (rd_L1 x393000 x12)) (wrap64 (x12 + 1)) x356000 x356001 x356002 x393000 x393001 x393002) else (none))) else (none)) else ((limelightref01_Ints.f x8 x9).bind fun t406 => (if t406 = true then (if x393001 = x356001 then (if (x393002 == x356002) = true then ((limelightlaw18_live.f).bind fun t407 => (some t407)) else (none)) else (none)) else (none)))
end
def limelightlaw18_WatchOthers.f (k : Nat) (l0_0 : List (List Int)) (a0_1 : Int) (a0_2 : Bool) (a1 : Int) : Option (Bool) := (limelightlaw18_small.f k l0_0 a0_1 a0_2).bind fun t356 => (if t356 = true then ((limelightlaw18_own.f l0_0 a0_1 a0_2).bind fun bt358 => ((watch_Open.f bt358.1 bt358.2.1 bt358.2.2 a1).bind fun bt363 => ((limelightlaw18_told.f bt363.1 bt363.2.1 bt363.2.2).bind fun bt368 => (if (bt368.1.length : Int) < (l0_0.length : Int) then (none) else (limelightlaw18_WatchOthers.l0 k a1 0 l0_0 a0_1 a0_2 bt368.1 bt368.2.1 bt368.2.2))))) else ((limelightlaw18_live.f).bind fun t357 => (some t357)))
theorem limelightlaw18_WatchOthers.mono_l : ∀ k, (∀ y0 y1 y2 y3 y4 y5 y6 y7, LeO (limelightlaw18_WatchOthers.l0 k y0 y1 y2 y3 y4 y5 y6 y7) (limelightlaw18_WatchOthers.l0 (k + 1) y0 y1 y2 y3 y4 y5 y6 y7)) ∧ (∀ y0 y1 y2 y3 y4 y5 y6 y7 y8, LeO (limelightlaw18_WatchOthers.l1 k y0 y1 y2 y3 y4 y5 y6 y7 y8) (limelightlaw18_WatchOthers.l1 (k + 1) y0 y1 y2 y3 y4 y5 y6 y7 y8)) ∧ (∀ y0 y1 y2 y3 y4 y5 y6 y7 y8 y9, LeO (limelightlaw18_WatchOthers.l2 k y0 y1 y2 y3 y4 y5 y6 y7 y8 y9) (limelightlaw18_WatchOthers.l2 (k + 1) y0 y1 y2 y3 y4 y5 y6 y7 y8 y9)) ∧ (∀ y0 y1 y2 y3 y4 y5 y6 y7 y8, LeO (limelightlaw18_WatchOthers.l3 k y0 y1 y2 y3 y4 y5 y6 y7 y8) (limelightlaw18_WatchOthers.l3 (k + 1) y0 y1 y2 y3 y4 y5 y6 y7 y8))
 | 0 => ⟨fun _ _ _ _ _ _ _ _ r h => by simp [limelightlaw18_WatchOthers.l0] at h, fun _ _ _ _ _ _ _ _ _ r h => by simp [limelightlaw18_WatchOthers.l1] at h, fun _ _ _ _ _ _ _ _ _ _ r h => by simp [limelightlaw18_WatchOthers.l2] at h, fun _ _ _ _ _ _ _ _ _ r h => by simp [limelightlaw18_WatchOthers.l3] at h⟩
 | k + 1 => by
  obtain ⟨ih0, ih1, ih2, ih3⟩ := limelightlaw18_WatchOthers.mono_l k
  refine ⟨?_, ?_, ?_, ?_⟩
  ·intro y0 y1 y2 y3 y4 y5 y6 y7
   unfold limelightlaw18_WatchOthers.l0
   repeat' first
   | (with_reducible exact ih0 _ _ _ _ _ _ _ _)
   | (with_reducible exact ih1 _ _ _ _ _ _ _ _ _)
   | (with_reducible exact ih2 _ _ _ _ _ _ _ _ _ _)
   | (with_reducible exact ih3 _ _ _ _ _ _ _ _ _)
   | (with_reducible exact limelightlaw18_small.mono _ _ _ _)
   | (with_reducible exact LeO.refl _)
   | (with_reducible exact LeO.none _)
   | (with_reducible refine LeO.ite ?_ ?_)
   | (with_reducible refine LeO.bind ?_ (fun _ => ?_))
   | exact ih0 _ _ _ _ _ _ _ _
   | exact ih1 _ _ _ _ _ _ _ _ _
   | exact ih2 _ _ _ _ _ _ _ _ _ _
   | exact ih3 _ _ _ _ _ _ _ _ _
   | exact limelightlaw18_small.mono _ _ _ _
   | exact LeO.none _
   | refine LeO.ite ?_ ?_
   | refine LeO.bind ?_ (fun _ => ?_)
  ·intro y0 y1 y2 y3 y4 y5 y6 y7 y8
   unfold limelightlaw18_WatchOthers.l1
   repeat' first
   | (with_reducible exact ih0 _ _ _ _ _ _ _ _)
   | (with_reducible exact ih1 _ _ _ _ _ _ _ _ _)
   | (with_reducible exact ih2 _ _ _ _ _ _ _ _ _ _)
   | (with_reducible exact ih3 _ _ _ _ _ _ _ _ _)
   | (with_reducible exact limelightlaw18_small.mono _ _ _ _)
   | (with_reducible exact LeO.refl _)
   | (with_reducible exact LeO.none _)
   | (with_reducible refine LeO.ite ?_ ?_)
   | (with_reducible refine LeO.bind ?_ (fun _ => ?_))
   | exact ih0 _ _ _ _ _ _ _ _
   | exact ih1 _ _ _ _ _ _ _ _ _
   | exact ih2 _ _ _ _ _ _ _ _ _ _
   | exact ih3 _ _ _ _ _ _ _ _ _
   | exact limelightlaw18_small.mono _ _ _ _
   | exact LeO.none _
   | refine LeO.ite ?_ ?_
   | refine LeO.bind ?_ (fun _ => ?_)
  ·intro y0 y1 y2 y3 y4 y5 y6 y7 y8 y9
   unfold limelightlaw18_WatchOthers.l2
   repeat' first
   | (with_reducible exact ih0 _ _ _ _ _ _ _ _)
   | (with_reducible exact ih1 _ _ _ _ _ _ _ _ _)
   | (with_reducible exact ih2 _ _ _ _ _ _ _ _ _ _)
   | (with_reducible exact ih3 _ _ _ _ _ _ _ _ _)
   | (with_reducible exact limelightlaw18_small.mono _ _ _ _)
   | (with_reducible exact LeO.refl _)
   | (with_reducible exact LeO.none _)
   | (with_reducible refine LeO.ite ?_ ?_)
   | (with_reducible refine LeO.bind ?_ (fun _ => ?_))
   | exact ih0 _ _ _ _ _ _ _ _
   | exact ih1 _ _ _ _ _ _ _ _ _
   | exact ih2 _ _ _ _ _ _ _ _ _ _
   | exact ih3 _ _ _ _ _ _ _ _ _
   | exact limelightlaw18_small.mono _ _ _ _
   | exact LeO.none _
   | refine LeO.ite ?_ ?_
   | refine LeO.bind ?_ (fun _ => ?_)
  ·intro y0 y1 y2 y3 y4 y5 y6 y7 y8
   unfold limelightlaw18_WatchOthers.l3
   repeat' first
   | (with_reducible exact ih0 _ _ _ _ _ _ _ _)
   | (with_reducible exact ih1 _ _ _ _ _ _ _ _ _)
   | (with_reducible exact ih2 _ _ _ _ _ _ _ _ _ _)
   | (with_reducible exact ih3 _ _ _ _ _ _ _ _ _)
   | (with_reducible exact limelightlaw18_small.mono _ _ _ _)
   | (with_reducible exact LeO.refl _)
   | (with_reducible exact LeO.none _)
   | (with_reducible refine LeO.ite ?_ ?_)
   | (with_reducible refine LeO.bind ?_ (fun _ => ?_))
   | exact ih0 _ _ _ _ _ _ _ _
   | exact ih1 _ _ _ _ _ _ _ _ _
   | exact ih2 _ _ _ _ _ _ _ _ _ _
   | exact ih3 _ _ _ _ _ _ _ _ _
   | exact limelightlaw18_small.mono _ _ _ _
   | exact LeO.none _
   | refine LeO.ite ?_ ?_
   | refine LeO.bind ?_ (fun _ => ?_)
theorem limelightlaw18_WatchOthers.mono : ∀ a0 a1 a2 a3 k, LeO (limelightlaw18_WatchOthers.f k a0 a1 a2 a3) (limelightlaw18_WatchOthers.f (k + 1) a0 a1 a2 a3) := by
 intro a0 a1 a2 a3 k
 obtain ⟨ih0, ih1, ih2, ih3⟩ := limelightlaw18_WatchOthers.mono_l k
 unfold limelightlaw18_WatchOthers.f
 repeat' first
   | (with_reducible exact ih0 _ _ _ _ _ _ _ _)
   | (with_reducible exact ih1 _ _ _ _ _ _ _ _ _)
   | (with_reducible exact ih2 _ _ _ _ _ _ _ _ _ _)
   | (with_reducible exact ih3 _ _ _ _ _ _ _ _ _)
   | (with_reducible exact limelightlaw18_small.mono _ _ _ _)
   | (with_reducible exact LeO.refl _)
   | (with_reducible exact LeO.none _)
   | (with_reducible refine LeO.ite ?_ ?_)
   | (with_reducible refine LeO.bind ?_ (fun _ => ?_))
   | exact ih0 _ _ _ _ _ _ _ _
   | exact ih1 _ _ _ _ _ _ _ _ _
   | exact ih2 _ _ _ _ _ _ _ _ _ _
   | exact ih3 _ _ _ _ _ _ _ _ _
   | exact limelightlaw18_small.mono _ _ _ _
   | exact LeO.none _
   | refine LeO.ite ?_ ?_
   | refine LeO.bind ?_ (fun _ => ?_)
def limelightlaw18_WatchOthers.T9 : Bool × List (List Nat × List Nat) := (true, [([], []), ([0], [0]), ([], []), ([1, 2], [1, 2]), ([3], [3]), ([], []), ([5], [5]), ([], []), ([6, 7], [6, 7]), ([8], [8]), ([4, 9], [4, 9]), ([10], [10])])
def limelightlaw18_WatchOthers.B9 : List Nat := [0, 1, 0, 7, 15, 0, 32, 0, 224, 480, 1023, 2047]
theorem limelightlaw18_WatchOthers.tab9 : rtab .any (opsOf Try.f7 9) = limelightlaw18_WatchOthers.T9 := by kernel_rfl
theorem limelightlaw18_WatchOthers.bits9 : waitsOk limelightlaw18_WatchOthers.T9.2 limelightlaw18_WatchOthers.B9 = true := by kernel_rfl
set_option maxHeartbeats 8000000 in
set_option maxRecDepth 100000 in
theorem limelightlaw18_WatchOthers.calls (k : Nat) (A0_0 : Option Addr) (c0_0 : Nat) (l0_0 : List (List Int)) (a0_1 : Int) (a0_2 : Bool) (a1 : Int) (r : Bool) (w : World) (hr0_0 : Kd.C (Kd.slice 3 (Kd.int .i64)) w A0_0 l0_0.length l0_0) (hc0_0 : l0_0.length ≤ c0_0) (h : limelightlaw18_WatchOthers.f k l0_0 a0_1 a0_2 a1 = some r) :
  Calls Try.prog 7 #[.agg #[.slice A0_0 l0_0.length c0_0, .int .i64 a0_1, .bool a0_2], .int .i64 a1] w fun e w' => e = .returned (.bool r) ∧ Below w.heap.size w w' := by
 have hu33 := Try.underlying33
 have HR0_0 := Aside0.mk hr0_0
 have HC0_0 := Aside0.mk hc0_0
 clear hr0_0 hc0_0
 have HB := Aside0.mk (Below.refl w.heap.size w)
 have H : ((limelightlaw18_small.f k l0_0 a0_1 a0_2).bind fun t356 => (if t356 = true then ((limelightlaw18_own.f l0_0 a0_1 a0_2).bind fun bt358 => ((watch_Open.f bt358.1 bt358.2.1 bt358.2.2 a1).bind fun bt363 => ((limelightlaw18_told.f bt363.1 bt363.2.1 bt363.2.2).bind fun bt368 => (if (bt368.1.length : Int) < (l0_0.length : Int) then (none) else (limelightlaw18_WatchOthers.l0 k a1 0 l0_0 a0_1 a0_2 bt368.1 bt368.2.1 bt368.2.2))))) else ((limelightlaw18_live.f).bind fun t357 => (some t357)))) = some r := h
 clear h
 replace H := Option.bind_eq_some_iff.mp H
 obtain ⟨t356, A30, H⟩ := H
 replace H : (if t356 = true then ((limelightlaw18_own.f l0_0 a0_1 a0_2).bind fun bt358 => ((watch_Open.f bt358.1 bt358.2.1 bt358.2.2 a1).bind fun bt363 => ((limelightlaw18_told.f bt363.1 bt363.2.1 bt363.2.2).bind fun bt368 => (if (bt368.1.length : Int) < (l0_0.length : Int) then (none) else (limelightlaw18_WatchOthers.l0 k a1 0 l0_0 a0_1 a0_2 bt368.1 bt368.2.1 bt368.2.2))))) else ((limelightlaw18_live.f).bind fun t357 => (some t357))) = some r := H
 have A3 := Aside0.mk A30
 clear A30
 by_cases c4 : t356 = true
 ·subst c4
  have H1 : ((limelightlaw18_own.f l0_0 a0_1 a0_2).bind fun bt358 => ((watch_Open.f bt358.1 bt358.2.1 bt358.2.2 a1).bind fun bt363 => ((limelightlaw18_told.f bt363.1 bt363.2.1 bt363.2.2).bind fun bt368 => (if (bt368.1.length : Int) < (l0_0.length : Int) then (none) else (limelightlaw18_WatchOthers.l0 k a1 0 l0_0 a0_1 a0_2 bt368.1 bt368.2.1 bt368.2.2))))) = some r := by rw [if_pos rfl] at H; exact H
  clear H
  have H := H1
  clear H1
  replace H := Option.bind_eq_some_iff.mp H
  obtain ⟨⟨t358, t361, t362⟩, A50, H⟩ := H
  replace H : ((watch_Open.f t358 t361 t362 a1).bind fun bt363 => ((limelightlaw18_told.f bt363.1 bt363.2.1 bt363.2.2).bind fun bt368 => (if (bt368.1.length : Int) < (l0_0.length : Int) then (none) else (limelightlaw18_WatchOthers.l0 k a1 0 l0_0 a0_1 a0_2 bt368.1 bt368.2.1 bt368.2.2)))) = some r := H
  have A5 := Aside0.mk A50
  clear A50
  replace H := Option.bind_eq_some_iff.mp H
  obtain ⟨⟨t363, t366, t367⟩, A60, H⟩ := H
  replace H : ((limelightlaw18_told.f t363 t366 t367).bind fun bt368 => (if (bt368.1.length : Int) < (l0_0.length : Int) then (none) else (limelightlaw18_WatchOthers.l0 k a1 0 l0_0 a0_1 a0_2 bt368.1 bt368.2.1 bt368.2.2))) = some r := H
  have A6 := Aside0.mk A60
  clear A60
  replace H := Option.bind_eq_some_iff.mp H
  obtain ⟨⟨t368, t371, t372⟩, A70, H⟩ := H
  replace H : (if (t368.length : Int) < (l0_0.length : Int) then (none) else (limelightlaw18_WatchOthers.l0 k a1 0 l0_0 a0_1 a0_2 t368 t371 t372)) = some r := H
  have A7 := Aside0.mk A70
  clear A70
  by_cases c8 : (t368.length : Int) < (l0_0.length : Int)
  ·rw [if_pos c8] at H
   exact absurd H (by simp)
  ·rw [if_neg c8] at H
   have c8b0 : decide ((t368.length : Int) < (l0_0.length : Int)) = false := decide_eq_false c8
   have c8b1 : decide (t368.length < l0_0.length) = false := decide_eq_false (fun h => c8 (Int.ofNat_lt.mpr h))
   clear c8
   have H' := Aside0.mk H
   clear H
   go_enter Try.func7, Try.ntmps7
   go_wp2_with (first | ((with_reducible refine gate_dst (N := 2) rfl ?_); refine box_event ?hg (N := 2) ?hd (cs := #[.slice A0_0 l0_0.length c0_0, .int .i64 a0_1, .bool a0_2]) (t := 33) ?hr ?_; (case hd => rfl); (case hg => rfl); (case hr => first | (go_simp; done) | (go_simp; rfl)); intro gb355 hg w9 hbox hb; have n0_ := Aside0.mk (below_step bel_ hb); have n1_ := Aside0.mk (hbox); have n2_ := Aside0.mk ((by rw [hg]; exact (below_size bel_) : w.heap.size ≤ gb355)); have n3_ := Aside0.mk ((by rw [hg]; exact (below_size bel_) : w.heap.size ≤ gb355)); clear HB; have HB := n0_; have BK355 := n1_; have GW355 := n2_; have GE355 := n3_; clear n0_ n1_ n2_ n3_; clear hb hbox hg; have hcz10_0 : w9.cell? ⟨gb355, 0, none⟩ = some (.slice A0_0 l0_0.length c0_0) := (blk_cell BK355.out 0).trans rfl; have hcz10_1 : w9.cell? ⟨gb355, 1, none⟩ = some (.int .i64 a0_1) := (blk_cell BK355.out 1).trans rfl; have hcz10_2 : w9.cell? ⟨gb355, 2, none⟩ = some (.bool a0_2) := (blk_cell BK355.out 2).trans rfl; have hfz10_0 := blk_frozen BK355.out 0; have hfz10_1 := blk_frozen BK355.out 1; have hfz10_2 := blk_frozen BK355.out 2) | ((with_reducible refine gate_callee (f := 13) rfl ?_); refine goesL_ (some 14) rfl rfl Try.func13 (by kernel_rfl) rfl #[.agg #[.slice A0_0 l0_0.length c0_0, .int .i64 a0_1, .bool a0_2]] rfl margs_ ?_; (with_reducible refine (limelightlaw18_small.calls k _ _ l0_0 a0_1 a0_2 true _ ?side1 ?side2 A3.out).mono ?_); (case side1 => exact kcb_ ((Kd.C_below HR0_0.out HB.out))); (case side2 => exact HC0_0.out); rintro e w11 ⟨rfl, hb⟩; refine ⟨_, rfl, ?_⟩; have n0_ := Aside0.mk (blk_below (g := gb355) (o := .cells #[.slice A0_0 l0_0.length c0_0, .int .i64 a0_1, .bool a0_2] 33 (0, 0)) (blkx_ BK355.out) hb); have n1_ := Aside0.mk (below_step (belg_ GE355.out) hb); clear BK355; clear HB; have BK355 := n0_; have HB := n1_; clear n0_ n1_; (try clear hb); (try clear hb2); (try clear hk); (try clear hi); have hcz12_0 : w11.cell? ⟨gb355, 0, none⟩ = some (.slice A0_0 l0_0.length c0_0) := (blk_cell BK355.out 0).trans rfl; have hcz12_1 : w11.cell? ⟨gb355, 1, none⟩ = some (.int .i64 a0_1) := (blk_cell BK355.out 1).trans rfl; have hcz12_2 : w11.cell? ⟨gb355, 2, none⟩ = some (.bool a0_2) := (blk_cell BK355.out 2).trans rfl; have hfz12_0 := blk_frozen BK355.out 0; have hfz12_1 := blk_frozen BK355.out 1; have hfz12_2 := blk_frozen BK355.out 2) | ((with_reducible refine gate_callee (f := 15) rfl ?_); refine goesL_ (some 18) rfl rfl Try.func15 (by kernel_rfl) rfl #[.agg #[.slice A0_0 l0_0.length c0_0, .int .i64 a0_1, .bool a0_2]] rfl margs_ ?_; (with_reducible refine (limelightlaw18_own.calls (fun k_ => k_ < w.heap.size) _ _ l0_0 a0_1 a0_2 t358 t361 t362 _ ?side1 A5.out).mono ?_); (case side1 => exact Kd.V_mk HC0_0.out (Kd.F_below (Kd.C_F (Kd.heap_slice 3 (Kd.heap_int .i64)) HR0_0.out) (belg_ GE355.out))); rintro e w13 ⟨v359, rfl, ho0, hb⟩; refine ⟨_, rfl, ?_⟩; have n0_ := Aside0.mk (Kd.V_lower (Kd.V_mono (ok' := fun k_ => k_ ≠ gb355) ho0 (fun k_ hk_ => Or.elim hk_ (fun hs_ => fun e_ => Nat.not_le.2 hs_ (by rw [e_]; exact GW355.out)) (fun hn_ => (Kd.freshB (g := gb355) (o := .cells #[.slice A0_0 l0_0.length c0_0, .int .i64 a0_1, .bool a0_2] 33 (0, 0)) (blkx_ BK355.out) k_ hn_)))) (below_size (belg_ GE355.out))); have n1_ := Aside0.mk (blk_below (g := gb355) (o := .cells #[.slice A0_0 l0_0.length c0_0, .int .i64 a0_1, .bool a0_2] 33 (0, 0)) (blkx_ BK355.out) hb); have n2_ := Aside0.mk (below_step (belg_ GE355.out) hb); clear BK355; clear HB; have HO360 := n0_; have BK355 := n1_; have HB := n2_; clear n0_ n1_ n2_; (try clear hb); (try clear hb2); (try clear hk); (try clear hi); (try clear ho0); obtain ⟨Ao14, co14, eo14⟩ := Kd.V_slice HO360.out; subst eo14) | ((with_reducible refine gate_callee (f := 11) rfl ?_); refine goesL_ (some 20) rfl rfl Try.func11 (by kernel_rfl) rfl #[.agg #[.slice Ao14 t358.length co14, .int .i64 t361, .bool t362], .int .i64 a1] rfl margs_ ?_; (with_reducible refine (watch_Open.calls _ _ t358 t361 t362 a1 t363 t366 t367 _ ?side1 ?side2 A6.out).mono ?_); (case side1 => exact kcb_ ((Kd.V_reads' HO360.out).2.2)); (case side2 => exact (Kd.V_reads' HO360.out).2.1); rintro e w15 ⟨v364, rfl, ho0, hb⟩; refine ⟨_, rfl, ?_⟩; have n0_ := Aside0.mk (Kd.V_elder' (by (with_reducible repeat (first | apply Kd.V_alloc | apply Kd.V_drewN | apply Kd.V_drew)); exact HO360.out) (Kd.S_base ho0) hb); have n1_ := Aside0.mk (Kd.S_lower ho0 (below_size (belg_ GE355.out))); have n2_ := Aside0.mk (blk_below (g := gb355) (o := .cells #[.slice A0_0 l0_0.length c0_0, .int .i64 a0_1, .bool a0_2] 33 (0, 0)) (blkx_ BK355.out) hb); have n3_ := Aside0.mk (below_step (belg_ GE355.out) hb); clear HO360; clear BK355; clear HB; have HO360 := n0_; have HO365 := n1_; have BK355 := n2_; have HB := n3_; clear n0_ n1_ n2_ n3_; (try clear hb); (try clear hb2); (try clear hk); (try clear hi); (try clear ho0); obtain ⟨Ao16, co16, eo16⟩ := Kd.S_slice HO365.out; subst eo16) | ((with_reducible refine gate_callee (f := 17) rfl ?_); refine goesL_ (some 21) rfl rfl Try.func17 (by kernel_rfl) rfl #[.agg #[.slice Ao16 t363.length co16, .int .i64 t366, .bool t367]] rfl margs_ ?_; (with_reducible refine (limelightlaw18_told.calls (fun k_ => (True ∧ k_ ≠ gb355)) _ _ t363 t366 t367 t368 t371 t372 _ ?side1 A7.out).mono ?_); (case side1 => exact Kd.S_V (Kd.S_types (HO365.out) BK355.out (by decide))); rintro e w17 ⟨v369, rfl, ho0, hb⟩; refine ⟨_, rfl, ?_⟩; have n0_ := Aside0.mk (Kd.V_below (by (with_reducible repeat (first | apply Kd.V_alloc | apply Kd.V_drewN | apply Kd.V_drew)); exact HO360.out) hb); have n1_ := Aside0.mk (Kd.S_below (by (with_reducible repeat (first | apply Kd.S_alloc | apply Kd.S_drewN | apply Kd.S_drew)); exact HO365.out) hb); have n2_ := Aside0.mk (Kd.V_lower (Kd.V_mono (ok' := fun k_ => k_ ≠ gb355) ho0 (fun k_ hk_ => Or.elim hk_ (fun hs_ => hs_.2) (fun hn_ => (Kd.freshB (g := gb355) (o := .cells #[.slice A0_0 l0_0.length c0_0, .int .i64 a0_1, .bool a0_2] 33 (0, 0)) (blkx_ BK355.out) k_ hn_)))) (below_size (belg_ GE355.out))); have n3_ := Aside0.mk (blk_below (g := gb355) (o := .cells #[.slice A0_0 l0_0.length c0_0, .int .i64 a0_1, .bool a0_2] 33 (0, 0)) (blkx_ BK355.out) hb); have n4_ := Aside0.mk (below_step (belg_ GE355.out) hb); clear HO360; clear HO365; clear BK355; clear HB; have HO360 := n0_; have HO365 := n1_; have HO370 := n2_; have BK355 := n3_; have HB := n4_; clear n0_ n1_ n2_ n3_ n4_; (try clear hb); (try clear hb2); (try clear hk); (try clear hi); (try clear ho0)) | ((with_reducible refine gate_dst (N := 5) rfl ?_); refine box_event ?hg (N := 5) ?hd (cs := #[.slice none 0 0, .int .i64 0, .bool false]) (t := 33) ?hr ?_; (case hd => rfl); (case hg => rfl); (case hr => first | (go_simp; done) | (go_simp; rfl)); intro gb373 hg w18 hbox hb; have n0_ := Aside0.mk (Kd.V_below (Kd.V_elderB (by (with_reducible repeat (first | apply Kd.V_alloc | apply Kd.V_drewN | apply Kd.V_drew)); exact HO360.out) gb373 (Nat.le_of_eq hg.symm)) hb); have n1_ := Aside0.mk (Kd.S_below (by (with_reducible repeat (first | apply Kd.S_alloc | apply Kd.S_drewN | apply Kd.S_drew)); exact HO365.out) hb); have n2_ := Aside0.mk (Kd.V_below (Kd.V_elderB (by (with_reducible repeat (first | apply Kd.V_alloc | apply Kd.V_drewN | apply Kd.V_drew)); exact HO370.out) gb373 (Nat.le_of_eq hg.symm)) hb); have n3_ := Aside0.mk (blk_below (g := gb355) (o := .cells #[.slice A0_0 l0_0.length c0_0, .int .i64 a0_1, .bool a0_2] 33 (0, 0)) (blkx_ BK355.out) hb); have n4_ := Aside0.mk (below_step (belg_ GE355.out) hb); have n5_ := Aside0.mk (hbox); have n6_ := Aside0.mk ((by rw [hg]; exact (below_size (belg_ GE355.out)) : w.heap.size ≤ gb373)); have n7_ := Aside0.mk ((by rw [hg]; exact (below_size (belg_ GE355.out)) : w.heap.size ≤ gb373)); have n8_ := Aside0.mk ((by rw [hg]; exact Nat.ne_of_lt (blk_lt (g := gb355) (o := .cells #[.slice A0_0 l0_0.length c0_0, .int .i64 a0_1, .bool a0_2] 33 (0, 0)) (blkx_ BK355.out)) : gb355 ≠ gb373)); have n9_ := Aside0.mk ((by rw [hg]; exact Nat.ne_of_gt (blk_lt (g := gb355) (o := .cells #[.slice A0_0 l0_0.length c0_0, .int .i64 a0_1, .bool a0_2] 33 (0, 0)) (blkx_ BK355.out)) : gb373 ≠ gb355)); clear HO360; clear HO365; clear HO370; clear BK355; clear HB; have HO360 := n0_; have HO365 := n1_; have HO370 := n2_; have BK355 := n3_; have HB := n4_; have BK373 := n5_; have GW373 := n6_; have GE373 := n7_; have NB355_373 := n8_; have NB373_355 := n9_; clear n0_ n1_ n2_ n3_ n4_ n5_ n6_ n7_ n8_ n9_; clear hb hbox hg; obtain ⟨Ao19, co19, eo19⟩ := Kd.V_slice HO370.out; subst eo19; have hnb20 := NB373_355.out; have hnc20 := NB355_373.out; have hcz21_0 : w18.cell? ⟨gb373, 0, none⟩ = some (.slice none 0 0) := (blk_cell BK373.out 0).trans rfl; have hcz21_1 : w18.cell? ⟨gb373, 1, none⟩ = some (.int .i64 0) := (blk_cell BK373.out 1).trans rfl; have hcz21_2 : w18.cell? ⟨gb373, 2, none⟩ = some (.bool false) := (blk_cell BK373.out 2).trans rfl; have hfz21_0 := blk_frozen BK373.out 0; have hfz21_1 := blk_frozen BK373.out 1; have hfz21_2 := blk_frozen BK373.out 2; have hcz22_0 : w18.cell? ⟨gb355, 0, none⟩ = some (.slice A0_0 l0_0.length c0_0) := (blk_cell BK355.out 0).trans rfl; have hcz22_1 : w18.cell? ⟨gb355, 1, none⟩ = some (.int .i64 a0_1) := (blk_cell BK355.out 1).trans rfl; have hcz22_2 : w18.cell? ⟨gb355, 2, none⟩ = some (.bool a0_2) := (blk_cell BK355.out 2).trans rfl; have hfz22_0 := blk_frozen BK355.out 0; have hfz22_1 := blk_frozen BK355.out 1; have hfz22_2 := blk_frozen BK355.out 2))
   go_loopg [6] k (fun kq v6 w' => ∃ (x6_1 : Int), v6 = .int .i64 x6_1 ∧ Aside0 (limelightlaw18_WatchOthers.l0 kq a1 x6_1 l0_0 a0_1 a0_2 t368 t371 t372 = some r) ∧ Aside0 (kq ≤ k) ∧ Aside0 (Kd.V (Kd.slice 3 (Kd.int .i64)) 22 w' w.heap.size (fun k_ => k_ ≠ gb355 ∧ k_ ≠ gb373) (.slice Ao19 t368.length co19) t368) ∧ Aside0 (w'.heap[gb355]? = some (.cells #[(.slice A0_0 l0_0.length c0_0), .int .i64 a0_1, .bool a0_2] 33 (0, 0))) ∧ Aside0 (w'.heap[gb373]? = some (.cells #[(.slice Ao19 t368.length co19), .int .i64 t371, .bool t372] 33 (0, 0))) ∧ Aside0 (Below w.heap.size w w'))
   case atStart => exact ⟨(0), (by first | rfl | (simp; done) | (simp [*]; done)), H', ⟨Nat.le_refl _⟩, ⟨by (with_reducible repeat (first | apply Kd.V_alloc | apply Kd.V_drewN | apply Kd.V_drew)); exact Kd.V_mono (Kd.V_far (p := ⟨gb373, 2, none⟩) (Kd.V_far (p := ⟨gb373, 1, none⟩) (Kd.V_far (p := ⟨gb373, 0, none⟩) (Kd.V_mono HO370.out (fun k_ hk => (⟨hk, hk.2⟩ : _ ∧ k_ ≠ gb373))) (fun _ hk => hk.2) (.slice Ao19 t368.length co19)) (fun _ hk => hk.2) (.int .i64 t371)) (fun _ hk => hk.2) (.bool t372)) (fun _ hk => ⟨hk.1.1, hk.1.2⟩)⟩, ⟨by (with_reducible repeat (first | refine blk_drewN ?_ _ | refine blk_drew ?_ | refine blk_alloc ?_ _)); refine blk_far ?_ NB355_373.out _; (with_reducible repeat (first | refine blk_drewN ?_ _ | refine blk_drew ?_ | refine blk_alloc ?_ _)); refine blk_far ?_ NB355_373.out _; (with_reducible repeat (first | refine blk_drewN ?_ _ | refine blk_drew ?_ | refine blk_alloc ?_ _)); refine blk_far ?_ NB355_373.out _; (with_reducible repeat (first | refine blk_drewN ?_ _ | refine blk_drew ?_ | refine blk_alloc ?_ _)); exact BK355.out⟩, ⟨by (with_reducible repeat (first | refine blk_drewN ?_ _ | refine blk_drew ?_ | refine blk_alloc ?_ _)); refine blk_put (cs := #[.slice Ao19 t368.length co19, .int .i64 t371, .bool false]) ?_ 2 _ rfl; (with_reducible repeat (first | refine blk_drewN ?_ _ | refine blk_drew ?_ | refine blk_alloc ?_ _)); refine blk_put (cs := #[.slice Ao19 t368.length co19, .int .i64 0, .bool false]) ?_ 1 _ rfl; (with_reducible repeat (first | refine blk_drewN ?_ _ | refine blk_drew ?_ | refine blk_alloc ?_ _)); refine blk_put (cs := #[.slice none 0 0, .int .i64 0, .bool false]) ?_ 0 _ rfl; (with_reducible repeat (first | refine blk_drewN ?_ _ | refine blk_drew ?_ | refine blk_alloc ?_ _)); exact BK373.out⟩, ⟨by repeat (first | (with_reducible first | exact HB.out | apply below_alloc | apply pw_below_drewN | apply below_drew1 | refine below_set ?_ GE355.out | refine below_set ?_ GE373.out) | exact HB.out)⟩⟩
   case round =>
    clear H'
    try clear c1
    try clear c2
    try clear p2
    try clear c4
    try clear c7
    try clear c8
    try clear c8b0
    try clear c8b1
    try clear c11
    try clear c13
    try clear c15
    try clear c17
    try clear c20
    try clear hcz10_0
    try clear hcz10_1
    try clear hcz10_2
    try clear hcz12_0
    try clear hcz12_1
    try clear hcz12_2
    try clear hcz21_0
    try clear hcz21_1
    try clear hcz21_2
    try clear hcz22_0
    try clear hcz22_1
    try clear hcz22_2
    try clear hfz10_0
    try clear hfz10_1
    try clear hfz10_2
    try clear hfz12_0
    try clear hfz12_1
    try clear hfz12_2
    try clear hfz21_0
    try clear hfz21_1
    try clear hfz21_2
    try clear hfz22_0
    try clear hfz22_1
    try clear hfz22_2
    obtain ⟨x6_1, rfl, HA, HK1, HO_374000, BK355, BK373, HB⟩ := hrel
    cases gk with
    | zero => exact absurd HA.out (by simp [limelightlaw18_WatchOthers.l0])
    | succ k1 =>
     have H := HA.out
     clear HA
     simp only [limelightlaw18_WatchOthers.l0] at H
     by_cases c23 : (wrap64 (x6_1 + 1)) < (l0_0.length : Int)
     ·rw [if_pos c23] at H
      have c23b0 : decide ((wrap64 (x6_1 + 1)) < (l0_0.length : Int)) = true := decide_eq_true c23
      clear c23
      by_cases c24 : 0 ≤ x6_1
      ·rw [if_pos c24] at H
       have c24b0 : decide (0 ≤ x6_1) = true := decide_eq_true c24
       clear c24
       by_cases c25 : x6_1 < (t368.length : Int)
       ·rw [if_pos c25] at H
        have c25b0 : decide (x6_1 < (t368.length : Int)) = true := decide_eq_true c25
        clear c25
        by_cases c26 : x6_1 < (l0_0.length : Int)
        ·rw [if_pos c26] at H
         have c26b0 : decide (x6_1 < (l0_0.length : Int)) = true := decide_eq_true c26
         clear c26
         replace H := Option.bind_eq_some_iff.mp H
         obtain ⟨t376, A270, H⟩ := H
         replace H : (if t376 = true then (limelightlaw18_WatchOthers.l0 k1 a1 (wrap64 (x6_1 + 1)) l0_0 a0_1 a0_2 t368 t371 t372) else (none)) = some r := H
         have A27 := Aside0.mk A270
         clear A270
         by_cases c28 : t376 = true
         ·subst c28
          have H1 : (limelightlaw18_WatchOthers.l0 k1 a1 (wrap64 (x6_1 + 1)) l0_0 a0_1 a0_2 t368 t371 t372) = some r := by rw [if_pos rfl] at H; exact H
          clear H
          have H := H1
          clear H1
          have H' := Aside0.mk H
          clear H
          have hnb29 := NB355_373.out
          have hnc29 := NB373_355.out
          have hcz30_0 : wr.cell? ⟨gb355, 0, none⟩ = some (.slice A0_0 l0_0.length c0_0) := (blk_cell BK355.out 0).trans rfl
          have hcz30_1 : wr.cell? ⟨gb355, 1, none⟩ = some (.int .i64 a0_1) := (blk_cell BK355.out 1).trans rfl
          have hcz30_2 : wr.cell? ⟨gb355, 2, none⟩ = some (.bool a0_2) := (blk_cell BK355.out 2).trans rfl
          have hfz30_0 := blk_frozen BK355.out 0
          have hfz30_1 := blk_frozen BK355.out 1
          have hfz30_2 := blk_frozen BK355.out 2
          try go_wp2
          have n0_ := Aside0.mk (Kd.V_drew HO_374000.out)
          have n1_ := Aside0.mk (blk_drew BK355.out)
          have n2_ := Aside0.mk (blk_drew BK373.out)
          have n3_ := Aside0.mk (below_drew1 HB.out)
          clear HO_374000
          clear BK355
          clear BK373
          clear HB
          have HO_374000 := n0_
          have BK355 := n1_
          have BK373 := n2_
          have HB := n3_
          clear n0_ n1_ n2_ n3_
          have p374 : 0 ≤ (x6_1 : Int) := of_decide_eq_true asm_
          have q374 : x6_1 < (t368.length : Int) := of_decide_eq_true asm_
          obtain ⟨ad374, A374_0, c374_0, e374, hx374_0, hl374_0, hi374_0⟩ := at_L1 (Kd.V_reads' HO_374000.out).2.2 x6_1 p374 q374
          cases e374
          obtain ⟨ce374, hce374, hMe374, hcc374⟩ := Kd.V_get HO_374000.out [] x6_1 p374 (by first | exact q374 | exact of_decide_eq_true asm_ | (have e_ := (Kd.V_reads' HO_374000.out).1; omega))
          obtain ⟨ua374_0, uc374_0, rfl, ul374_0, ge374_0⟩ := Kd.FK_slice_open hMe374
          have hv374_0 := hcc374 0 _ rfl
          rw [Nat.add_zero, show ((Kd.slice 3 (Kd.int .i64))).sz = 1 from rfl, Nat.mul_one] at hv374_0
          replace hv374_0 := Option.some.inj (hv374_0.symm.trans hx374_0)
          injection hv374_0 with hva_ hvn_ hvc_
          rw [hva_] at ge374_0
          rw [hvc_] at ul374_0
          have HL374_0 := Aside0.mk (show Kd.V (Kd.int .i64) 3 _ w.heap.size _ _ (rd_L1 t368 x6_1) from Kd.V_mk ul374_0 ge374_0)
          clear hva_ hvn_ hvc_ ge374_0 ul374_0
          clear hcc374 hce374
          have HR374_0 := Aside0.mk hi374_0
          have HC374_0 := Aside0.mk hl374_0
          clear hi374_0 hl374_0
          replace p374 := eq_true p374
          replace q374 := eq_true q374
          have p375 : 0 ≤ (x6_1 : Int) := of_decide_eq_true asm_
          have q375 : x6_1 < (l0_0.length : Int) := of_decide_eq_true asm_
          obtain ⟨ad375, A375_0, c375_0, e375, hx375_0, hl375_0, hi375_0⟩ := at_L1 HR0_0.out x6_1 p375 q375
          have hw375_0 := hx375_0
          cases e375
          replace hx375_0 := (HB.out.cell (World.block_lt_of_cell? w _ hx375_0)).trans hx375_0
          have HR375_0 := Aside0.mk hi375_0
          have HC375_0 := Aside0.mk hl375_0
          clear hi375_0 hl375_0
          replace p375 := eq_true p375
          replace q375 := eq_true q375
          refine start_ (n := 12) (S := fun w' => w'.cell? ⟨gb373, 0, none⟩ = some (.slice (some ad374) t368.length co19) ∧ w'.cell? ⟨gb373, 1, none⟩ = some (.int .i64 t371) ∧ w'.cell? ⟨gb373, 2, none⟩ = some (.bool t372) ∧ w'.cell? ⟨gb355, 0, none⟩ = some (.slice (some ad375) l0_0.length c0_0) ∧ w'.cell? ⟨gb355, 1, none⟩ = some (.int .i64 a0_1) ∧ w'.cell? ⟨gb355, 2, none⟩ = some (.bool a0_2) ∧ w'.cell? (ad374.add (x6_1).toNat) = some (.slice A374_0 (rd_L1 t368 x6_1).length c374_0) ∧ w'.cell? (ad375.add (x6_1).toNat) = some (.slice A375_0 (rd_L1 l0_0 x6_1).length c375_0)) (ds := []) #[false, false, false, false, false, false, false, false, false, false, false, false] (by kernel_rfl) rfl rfl ⟨(blk_cell BK373.out 0).trans rfl, (blk_cell BK373.out 1).trans rfl, (blk_cell BK373.out 2).trans rfl, (blk_cell BK355.out 0).trans rfl, (blk_cell BK355.out 1).trans rfl, (blk_cell BK355.out 2).trans rfl, hx374_0, ((HB.out.cell (World.block_lt_of_cell? w _ hw375_0)).trans hw375_0)⟩ (fun hHeld => ?_); refine with_tabW limelightlaw18_WatchOthers.tab9 limelightlaw18_WatchOthers.bits9 (fun HT_ HW_ => ?_)
          generalize wr.drew = w31 at HO_374000 BK355 BK373 HB HL374_0 HR374_0 HR375_0 hx374_0 hx375_0 hHeld ⊢
          refine pure_ (i := 0) (N := some 37) (v := ?_) (a' := ?_) #[true, false, false, false, false, false, false, false, false, false, false, false] rfl rfl (any_of HT_.out (by kernel_rfl)) (fun _ _ _ h => h) (Or.inl ⟨by rfl, ?_⟩) ?_ ?_
          rotate_left
          ·intro w'
           go_simp
           with_reducible rfl
          rotate_left
          ·simp only [Act.put, List.setIfInBounds_toArray, List.set_cons_zero, List.set_cons_succ, i64_w, i32_w]
           rfl
          refine pure_ (i := 2) (N := some 39) (v := ?_) (a' := ?_) #[true, false, true, false, false, false, false, false, false, false, false, false] rfl rfl (any_of HT_.out (by kernel_rfl)) (fun _ _ _ h => h) (Or.inl ⟨by rfl, ?_⟩) ?_ ?_
          rotate_left
          ·intro w'
           go_simp
           with_reducible rfl
          rotate_left
          ·simp only [Act.put, List.setIfInBounds_toArray, List.set_cons_zero, List.set_cons_succ, i64_w, i32_w]
           rfl
          refine pure_ (i := 5) (N := some 42) (v := ?_) (a' := ?_) #[true, false, true, false, false, true, false, false, false, false, false, false] rfl rfl (any_of HT_.out (by kernel_rfl)) (fun _ _ _ h => h) (Or.inl ⟨by rfl, ?_⟩) ?_ ?_
          rotate_left
          ·intro w'
           go_simp
           with_reducible rfl
          rotate_left
          ·simp only [Act.put, List.setIfInBounds_toArray, List.set_cons_zero, List.set_cons_succ, i64_w, i32_w]
           rfl
          refine pure_ (i := 7) (N := some 44) (v := ?_) (a' := ?_) #[true, false, true, false, false, true, false, true, false, false, false, false] rfl rfl (any_of HT_.out (by kernel_rfl)) (fun _ _ _ h => h) (Or.inl ⟨by rfl, ?_⟩) ?_ ?_
          rotate_left
          ·intro w'
           go_simp
           with_reducible rfl
          rotate_left
          ·simp only [Act.put, List.setIfInBounds_toArray, List.set_cons_zero, List.set_cons_succ, i64_w, i32_w]
           rfl
          refine take_ (i := 1) (N := some 38) (v := ?_) (a' := ?_) #[true, true, true, false, false, true, false, true, false, false, false, false] rfl rfl (take_ofW HT_.out HW_.out (by kernel_rfl)) (fun _ _ _ h => h) (Or.inl ⟨by rfl, ?_⟩) hHeld ?_ ?_
          rotate_left
          ·rintro w' ⟨s0, s1, s2, s3, s4, s5, s6, s7⟩
           go_simp
           with_reducible rfl
          rotate_left
          ·simp only [Act.put, List.setIfInBounds_toArray, List.set_cons_zero, List.set_cons_succ, i64_w, i32_w]
           rfl
          refine pure_ (i := 3) (N := some 40) (v := ?_) (a' := ?_) #[true, true, true, true, false, true, false, true, false, false, false, false] rfl rfl (any_of HT_.out (by kernel_rfl)) (fun _ _ _ h => h) (Or.inl ⟨by rfl, ?_⟩) ?_ ?_
          rotate_left
          ·intro w'
           go_simp
           with_reducible rfl
          rotate_left
          ·simp only [Act.put, List.setIfInBounds_toArray, List.set_cons_zero, List.set_cons_succ, i64_w, i32_w]
           rfl
          refine take_ (i := 4) (N := some 41) (v := ?_) (a' := ?_) #[true, true, true, true, true, true, false, true, false, false, false, false] rfl rfl (take_ofW HT_.out HW_.out (by kernel_rfl)) (fun _ _ _ h => h) (Or.inl ⟨by rfl, ?_⟩) hHeld ?_ ?_
          rotate_left
          ·rintro w' ⟨s0, s1, s2, s3, s4, s5, s6, s7⟩
           go_simp
           with_reducible rfl
          rotate_left
          ·simp only [Act.put, List.setIfInBounds_toArray, List.set_cons_zero, List.set_cons_succ, i64_w, i32_w]
           rfl
          refine take_ (i := 6) (N := some 43) (v := ?_) (a' := ?_) #[true, true, true, true, true, true, true, true, false, false, false, false] rfl rfl (take_ofW HT_.out HW_.out (by kernel_rfl)) (fun _ _ _ h => h) (Or.inl ⟨by rfl, ?_⟩) hHeld ?_ ?_
          rotate_left
          ·rintro w' ⟨s0, s1, s2, s3, s4, s5, s6, s7⟩
           go_simp
           with_reducible rfl
          rotate_left
          ·simp only [Act.put, List.setIfInBounds_toArray, List.set_cons_zero, List.set_cons_succ, i64_w, i32_w]
           rfl
          refine pure_ (i := 8) (N := some 45) (v := ?_) (a' := ?_) #[true, true, true, true, true, true, true, true, true, false, false, false] rfl rfl (any_of HT_.out (by kernel_rfl)) (fun _ _ _ h => h) (Or.inl ⟨by rfl, ?_⟩) ?_ ?_
          rotate_left
          ·intro w'
           go_simp
           with_reducible rfl
          rotate_left
          ·simp only [Act.put, List.setIfInBounds_toArray, List.set_cons_zero, List.set_cons_succ, i64_w, i32_w]
           rfl
          refine take_ (i := 9) (N := some 46) (v := ?_) (a' := ?_) #[true, true, true, true, true, true, true, true, true, true, false, false] rfl rfl (take_ofW HT_.out HW_.out (by kernel_rfl)) (fun _ _ _ h => h) (Or.inl ⟨by rfl, ?_⟩) hHeld ?_ ?_
          rotate_left
          ·rintro w' ⟨s0, s1, s2, s3, s4, s5, s6, s7⟩
           go_simp
           with_reducible rfl
          rotate_left
          ·simp only [Act.put, List.setIfInBounds_toArray, List.set_cons_zero, List.set_cons_succ, i64_w, i32_w]
           rfl
          refine one_ (i := 10) (N := some 47) #[true, true, true, true, true, true, true, true, true, true, true, false] rfl rfl (one_of HT_.out (by kernel_rfl)) (by decide) (fun K hK => ?_)
          refine goes_ Try.func18 (by kernel_rfl) rfl #[.slice A374_0 (rd_L1 t368 x6_1).length c374_0, .slice A375_0 (rd_L1 l0_0 x6_1).length c375_0] (by rfl) rfl rfl margs_ ?_
          with_reducible refine (limelightref01_Ints.calls _ _ (rd_L1 t368 x6_1) _ _ (rd_L1 l0_0 x6_1) true _ ?side1 ?side2 ?side3 ?side4 A27.out).mono ?_
          (case side1 => repeat (first | exact (by repeat (first | (with_reducible exact HR374_0.out) | (with_reducible refine Kd.C_alloc ?_ _) | (with_reducible refine Kd.C_drewN ?_ _) | (with_reducible refine Kd.C_drew ?_) | exact HR374_0.out)) | (with_reducible refine Kd.C_alloc ?_ _) | (with_reducible refine Kd.C_drewN ?_ _) | (with_reducible refine Kd.C_drew ?_)))
          (case side2 => exact HC374_0.out)
          (case side3 => exact kcb_ ((Kd.C_below HR375_0.out HB.out)))
          (case side4 => exact HC375_0.out)
          rintro e w32 ⟨rfl, hb⟩
          have HS6_ := (hb.cell (World.block_lt_of_cell? _ _ (hHeld.2.2.2.2.2.2.1))).trans (hHeld.2.2.2.2.2.2.1)
          refine ⟨_, rfl, ?_⟩
          have n0_ := Aside0.mk (Kd.V_below (by (with_reducible repeat (first | apply Kd.V_alloc | apply Kd.V_drewN | apply Kd.V_drew)); exact HO_374000.out) hb)
          have n1_ := Aside0.mk (Kd.V_below (by (with_reducible repeat (first | apply Kd.V_alloc | apply Kd.V_drewN | apply Kd.V_drew)); exact HL374_0.out) hb)
          have n2_ := Aside0.mk (blk_below (g := gb355) (o := .cells #[.slice (some ad375) l0_0.length c0_0, .int .i64 a0_1, .bool a0_2] 33 (0, 0)) (blkx_ BK355.out) hb)
          have n3_ := Aside0.mk (blk_below (g := gb373) (o := .cells #[.slice (some ad374) t368.length co19, .int .i64 t371, .bool t372] 33 (0, 0)) (blkx_ BK373.out) hb)
          have n4_ := Aside0.mk (Kd.C_below (by repeat (first | (with_reducible exact HR374_0.out) | (with_reducible refine Kd.C_alloc ?_ _) | (with_reducible refine Kd.C_drewN ?_ _) | (with_reducible refine Kd.C_drew ?_) | exact HR374_0.out)) hb)
          have n5_ := Aside0.mk (below_step (by repeat (first | (with_reducible first | exact HB.out | apply below_alloc | apply pw_below_drewN | apply below_drew1 | refine below_set ?_ GE355.out | refine below_set ?_ GE373.out) | exact HB.out)) hb)
          clear HO_374000
          clear HL374_0
          clear BK355
          clear BK373
          clear HR374_0
          clear HB
          have HO_374000 := n0_
          have HL374_0 := n1_
          have BK355 := n2_
          have BK373 := n3_
          have HR374_0 := n4_
          have HB := n5_
          clear n0_ n1_ n2_ n3_ n4_ n5_
          (try clear hb)
          (try clear hb2)
          (try clear hk)
          (try clear hi)
          refine hK.out _ _ ⟨(blk_cell BK373.out 0).trans rfl, (blk_cell BK373.out 1).trans rfl, (blk_cell BK373.out 2).trans rfl, (blk_cell BK355.out 0).trans rfl, (blk_cell BK355.out 1).trans rfl, (blk_cell BK355.out 2).trans rfl, HS6_, ((HB.out.cell (World.block_lt_of_cell? w _ hw375_0)).trans hw375_0)⟩ (fun hHeld => ?_)
          clear hK K
          refine norm_ (a' := ?_) ?_ ?_
          rotate_left
          ·show Act.put _ (some 47) _ = _
           simp only [Act.put, List.setIfInBounds_toArray, List.set_cons_zero, List.set_cons_succ, i64_w, i32_w]
           rfl
          refine pure_ (i := 11) (N := some 48) (v := ?_) (a' := ?_) #[true, true, true, true, true, true, true, true, true, true, true, true] rfl rfl (any_of HT_.out (by kernel_rfl)) (fun _ _ _ h => h) (Or.inl ⟨by rfl, ?_⟩) ?_ ?_
          rotate_left
          ·intro w'
           go_simp
           with_reducible rfl
          rotate_left
          ·simp only [Act.put, List.setIfInBounds_toArray, List.set_cons_zero, List.set_cons_succ, i64_w, i32_w]
           rfl
          refine done_ (done_of HT_.out (by kernel_rfl)) ?_
          try go_wp2
          go_roundg k1
          case measure => have := HK1.out; omega
          case rel => exact ⟨(wrap64 (x6_1 + 1)), (by first | rfl | (simp; done) | (simp [*]; done)), H', ⟨by have := HK1.out; omega⟩, ⟨by (with_reducible repeat (first | apply Kd.V_alloc | apply Kd.V_drewN | apply Kd.V_drew)); exact HO_374000.out⟩, ⟨blkx_ BK355.out⟩, ⟨blkx_ BK373.out⟩, ⟨by repeat (first | (with_reducible first | exact HB.out | apply below_alloc | apply pw_below_drewN | apply below_drew1 | refine below_set ?_ GE355.out | refine below_set ?_ GE373.out) | exact HB.out)⟩⟩
         ·replace c28 := Bool.eq_false_iff.mpr c28
          subst c28
          have H1 : (none) = some r := by rw [if_neg (show ¬ (false = true) by decide)] at H; exact H
          clear H
          have H := H1
          clear H1
          exact absurd H (by simp)
        ·rw [if_neg c26] at H
         exact absurd H (by simp)
       ·rw [if_neg c25] at H
        exact absurd H (by simp)
      ·rw [if_neg c24] at H
       exact absurd H (by simp)
     ·rw [if_neg c23] at H
      have c23b0 : decide ((wrap64 (x6_1 + 1)) < (l0_0.length : Int)) = false := decide_eq_false c23
      clear c23
      replace H := Option.bind_eq_some_iff.mp H
      obtain ⟨⟨t377, t380, t381⟩, A330, H⟩ := H
      replace H : ((watch_Drop.f t377 t380 t381 a1).bind fun bt382 => ((limelightlaw18_told.f bt382.1 bt382.2.1 bt382.2.2).bind fun bt387 => (limelightlaw18_WatchOthers.l1 k1 a1 ([] : List Int) 0 l0_0 a0_1 a0_2 bt387.1 bt387.2.1 bt387.2.2))) = some r := H
      have A33 := Aside0.mk A330
      clear A330
      replace H := Option.bind_eq_some_iff.mp H
      obtain ⟨⟨t382, t385, t386⟩, A340, H⟩ := H
      replace H : ((limelightlaw18_told.f t382 t385 t386).bind fun bt387 => (limelightlaw18_WatchOthers.l1 k1 a1 ([] : List Int) 0 l0_0 a0_1 a0_2 bt387.1 bt387.2.1 bt387.2.2)) = some r := H
      have A34 := Aside0.mk A340
      clear A340
      replace H := Option.bind_eq_some_iff.mp H
      obtain ⟨⟨t387, t390, t391⟩, A350, H⟩ := H
      replace H : (limelightlaw18_WatchOthers.l1 k1 a1 ([] : List Int) 0 l0_0 a0_1 a0_2 t387 t390 t391) = some r := H
      have A35 := Aside0.mk A350
      clear A350
      have H' := Aside0.mk H
      clear H
      have hnb36 := NB355_373.out
      have hnc36 := NB373_355.out
      have hcz37_0 : wr.cell? ⟨gb355, 0, none⟩ = some (.slice A0_0 l0_0.length c0_0) := (blk_cell BK355.out 0).trans rfl
      have hcz37_1 : wr.cell? ⟨gb355, 1, none⟩ = some (.int .i64 a0_1) := (blk_cell BK355.out 1).trans rfl
      have hcz37_2 : wr.cell? ⟨gb355, 2, none⟩ = some (.bool a0_2) := (blk_cell BK355.out 2).trans rfl
      have hfz37_0 := blk_frozen BK355.out 0
      have hfz37_1 := blk_frozen BK355.out 1
      have hfz37_2 := blk_frozen BK355.out 2
      go_wp2_with (first | ((with_reducible refine gate_callee (f := 15) rfl ?_); refine goesL_ (some 50) rfl rfl Try.func15 (by kernel_rfl) rfl #[.agg #[.slice A0_0 l0_0.length c0_0, .int .i64 a0_1, .bool a0_2]] rfl margs_ ?_; (with_reducible refine (limelightlaw18_own.calls (fun k_ => k_ < w.heap.size) _ _ l0_0 a0_1 a0_2 t377 t380 t381 _ ?side1 A33.out).mono ?_); (case side1 => exact Kd.V_mk HC0_0.out (Kd.F_below (Kd.C_F (Kd.heap_slice 3 (Kd.heap_int .i64)) HR0_0.out) (by repeat (first | (with_reducible first | exact HB.out | apply below_alloc | apply pw_below_drewN | apply below_drew1 | refine below_set ?_ GE355.out | refine below_set ?_ GE373.out) | exact HB.out)))); rintro e w38 ⟨v378, rfl, ho0, hb⟩; refine ⟨_, rfl, ?_⟩; have n0_ := Aside0.mk (Kd.V_below (by (with_reducible repeat (first | apply Kd.V_alloc | apply Kd.V_drewN | apply Kd.V_drew)); exact HO_374000.out) hb); have n1_ := Aside0.mk (Kd.V_lower (Kd.V_mono (ok' := fun k_ => k_ ≠ gb355 ∧ k_ ≠ gb373) ho0 (fun k_ hk_ => ⟨Or.elim hk_ (fun hs_ => fun e_ => Nat.not_le.2 hs_ (by rw [e_]; exact GW355.out)) (fun hn_ => (Kd.freshB (g := gb355) (o := .cells #[.slice A0_0 l0_0.length c0_0, .int .i64 a0_1, .bool a0_2] 33 (0, 0)) (blkx_ BK355.out) k_ hn_)), Or.elim hk_ (fun hs_ => fun e_ => Nat.not_le.2 hs_ (by rw [e_]; exact GW373.out)) (fun hn_ => (Kd.freshB (g := gb373) (o := .cells #[.slice Ao19 t368.length co19, .int .i64 t371, .bool t372] 33 (0, 0)) (blkx_ BK373.out) k_ hn_))⟩)) (below_size (by repeat (first | (with_reducible first | exact HB.out | apply below_alloc | apply pw_below_drewN | apply below_drew1 | refine below_set ?_ GE355.out | refine below_set ?_ GE373.out) | exact HB.out)))); have n2_ := Aside0.mk (blk_below (g := gb355) (o := .cells #[.slice A0_0 l0_0.length c0_0, .int .i64 a0_1, .bool a0_2] 33 (0, 0)) (blkx_ BK355.out) hb); have n3_ := Aside0.mk (blk_below (g := gb373) (o := .cells #[.slice Ao19 t368.length co19, .int .i64 t371, .bool t372] 33 (0, 0)) (blkx_ BK373.out) hb); have n4_ := Aside0.mk (below_step (by repeat (first | (with_reducible first | exact HB.out | apply below_alloc | apply pw_below_drewN | apply below_drew1 | refine below_set ?_ GE355.out | refine below_set ?_ GE373.out) | exact HB.out)) hb); clear HO_374000; clear BK355; clear BK373; clear HB; have HO_374000 := n0_; have HO379 := n1_; have BK355 := n2_; have BK373 := n3_; have HB := n4_; clear n0_ n1_ n2_ n3_ n4_; (try clear hb); (try clear hb2); (try clear hk); (try clear hi); (try clear ho0); obtain ⟨Ao39, co39, eo39⟩ := Kd.V_slice HO379.out; subst eo39) | ((with_reducible refine gate_callee (f := 14) rfl ?_); refine goesL_ (some 52) rfl rfl Try.func14 (by kernel_rfl) rfl #[.agg #[.slice Ao39 t377.length co39, .int .i64 t380, .bool t381], .int .i64 a1] rfl margs_ ?_; (with_reducible refine (watch_Drop.calls _ _ t377 t380 t381 a1 t382 t385 t386 _ ?side1 ?side2 A34.out).mono ?_); (case side1 => exact kcb_ ((Kd.V_reads' HO379.out).2.2)); (case side2 => exact (Kd.V_reads' HO379.out).2.1); rintro e w40 ⟨v383, rfl, ho0, hb⟩; refine ⟨_, rfl, ?_⟩; have n0_ := Aside0.mk (Kd.V_elder' (by (with_reducible repeat (first | apply Kd.V_alloc | apply Kd.V_drewN | apply Kd.V_drew)); exact HO_374000.out) (Kd.S_base ho0) hb); have n1_ := Aside0.mk (Kd.V_elder' (by (with_reducible repeat (first | apply Kd.V_alloc | apply Kd.V_drewN | apply Kd.V_drew)); exact HO379.out) (Kd.S_base ho0) hb); have n2_ := Aside0.mk (Kd.S_lower ho0 (below_size (by repeat (first | (with_reducible first | exact HB.out | apply below_alloc | apply pw_below_drewN | apply below_drew1 | refine below_set ?_ GE355.out | refine below_set ?_ GE373.out) | exact HB.out)))); have n3_ := Aside0.mk (blk_below (g := gb355) (o := .cells #[.slice A0_0 l0_0.length c0_0, .int .i64 a0_1, .bool a0_2] 33 (0, 0)) (blkx_ BK355.out) hb); have n4_ := Aside0.mk (blk_below (g := gb373) (o := .cells #[.slice Ao19 t368.length co19, .int .i64 t371, .bool t372] 33 (0, 0)) (blkx_ BK373.out) hb); have n5_ := Aside0.mk (below_step (by repeat (first | (with_reducible first | exact HB.out | apply below_alloc | apply pw_below_drewN | apply below_drew1 | refine below_set ?_ GE355.out | refine below_set ?_ GE373.out) | exact HB.out)) hb); clear HO_374000; clear HO379; clear BK355; clear BK373; clear HB; have HO_374000 := n0_; have HO379 := n1_; have HO384 := n2_; have BK355 := n3_; have BK373 := n4_; have HB := n5_; clear n0_ n1_ n2_ n3_ n4_ n5_; (try clear hb); (try clear hb2); (try clear hk); (try clear hi); (try clear ho0); obtain ⟨Ao41, co41, eo41⟩ := Kd.S_slice HO384.out; subst eo41) | ((with_reducible refine gate_callee (f := 17) rfl ?_); refine goesL_ (some 53) rfl rfl Try.func17 (by kernel_rfl) rfl #[.agg #[.slice Ao41 t382.length co41, .int .i64 t385, .bool t386]] rfl margs_ ?_; (with_reducible refine (limelightlaw18_told.calls (fun k_ => ((True ∧ k_ ≠ gb355) ∧ k_ ≠ gb373)) _ _ t382 t385 t386 t387 t390 t391 _ ?side1 A35.out).mono ?_); (case side1 => exact Kd.S_V (Kd.S_types (Kd.S_types (HO384.out) BK355.out (by decide)) BK373.out (by decide))); rintro e w42 ⟨v388, rfl, ho0, hb⟩; refine ⟨_, rfl, ?_⟩; have n0_ := Aside0.mk (Kd.V_below (by (with_reducible repeat (first | apply Kd.V_alloc | apply Kd.V_drewN | apply Kd.V_drew)); exact HO_374000.out) hb); have n1_ := Aside0.mk (Kd.V_below (by (with_reducible repeat (first | apply Kd.V_alloc | apply Kd.V_drewN | apply Kd.V_drew)); exact HO379.out) hb); have n2_ := Aside0.mk (Kd.S_below (by (with_reducible repeat (first | apply Kd.S_alloc | apply Kd.S_drewN | apply Kd.S_drew)); exact HO384.out) hb); have n3_ := Aside0.mk (Kd.V_lower (Kd.V_mono (ok' := fun k_ => k_ ≠ gb355 ∧ k_ ≠ gb373) ho0 (fun k_ hk_ => ⟨Or.elim hk_ (fun hs_ => hs_.1.2) (fun hn_ => (Kd.freshB (g := gb355) (o := .cells #[.slice A0_0 l0_0.length c0_0, .int .i64 a0_1, .bool a0_2] 33 (0, 0)) (blkx_ BK355.out) k_ hn_)), Or.elim hk_ (fun hs_ => hs_.2) (fun hn_ => (Kd.freshB (g := gb373) (o := .cells #[.slice Ao19 t368.length co19, .int .i64 t371, .bool t372] 33 (0, 0)) (blkx_ BK373.out) k_ hn_))⟩)) (below_size (by repeat (first | (with_reducible first | exact HB.out | apply below_alloc | apply pw_below_drewN | apply below_drew1 | refine below_set ?_ GE355.out | refine below_set ?_ GE373.out) | exact HB.out)))); have n4_ := Aside0.mk (blk_below (g := gb355) (o := .cells #[.slice A0_0 l0_0.length c0_0, .int .i64 a0_1, .bool a0_2] 33 (0, 0)) (blkx_ BK355.out) hb); have n5_ := Aside0.mk (blk_below (g := gb373) (o := .cells #[.slice Ao19 t368.length co19, .int .i64 t371, .bool t372] 33 (0, 0)) (blkx_ BK373.out) hb); have n6_ := Aside0.mk (below_step (by repeat (first | (with_reducible first | exact HB.out | apply below_alloc | apply pw_below_drewN | apply below_drew1 | refine below_set ?_ GE355.out | refine below_set ?_ GE373.out) | exact HB.out)) hb); clear HO_374000; clear HO379; clear HO384; clear BK355; clear BK373; clear HB; have HO_374000 := n0_; have HO379 := n1_; have HO384 := n2_; have HO389 := n3_; have BK355 := n4_; have BK373 := n5_; have HB := n6_; clear n0_ n1_ n2_ n3_ n4_ n5_ n6_; (try clear hb); (try clear hb2); (try clear hk); (try clear hi); (try clear ho0)) | ((with_reducible refine gate_dst (N := 7) rfl ?_); refine box_event ?hg (N := 7) ?hd (cs := #[.slice none 0 0, .int .i64 0, .bool false]) (t := 33) ?hr ?_; (case hd => rfl); (case hg => rfl); (case hr => first | (go_simp; done) | (go_simp; rfl)); intro gb392 hg w43 hbox hb; have n0_ := Aside0.mk (Kd.V_below (Kd.V_elderB (by (with_reducible repeat (first | apply Kd.V_alloc | apply Kd.V_drewN | apply Kd.V_drew)); exact HO_374000.out) gb392 (Nat.le_of_eq hg.symm)) hb); have n1_ := Aside0.mk (Kd.V_below (Kd.V_elderB (by (with_reducible repeat (first | apply Kd.V_alloc | apply Kd.V_drewN | apply Kd.V_drew)); exact HO379.out) gb392 (Nat.le_of_eq hg.symm)) hb); have n2_ := Aside0.mk (Kd.S_below (by (with_reducible repeat (first | apply Kd.S_alloc | apply Kd.S_drewN | apply Kd.S_drew)); exact HO384.out) hb); have n3_ := Aside0.mk (Kd.V_below (Kd.V_elderB (by (with_reducible repeat (first | apply Kd.V_alloc | apply Kd.V_drewN | apply Kd.V_drew)); exact HO389.out) gb392 (Nat.le_of_eq hg.symm)) hb); have n4_ := Aside0.mk (blk_below (g := gb355) (o := .cells #[.slice A0_0 l0_0.length c0_0, .int .i64 a0_1, .bool a0_2] 33 (0, 0)) (blkx_ BK355.out) hb); have n5_ := Aside0.mk (blk_below (g := gb373) (o := .cells #[.slice Ao19 t368.length co19, .int .i64 t371, .bool t372] 33 (0, 0)) (blkx_ BK373.out) hb); have n6_ := Aside0.mk (below_step (by repeat (first | (with_reducible first | exact HB.out | apply below_alloc | apply pw_below_drewN | apply below_drew1 | refine below_set ?_ GE355.out | refine below_set ?_ GE373.out) | exact HB.out)) hb); have n7_ := Aside0.mk (hbox); have n8_ := Aside0.mk ((by rw [hg]; exact (below_size (by repeat (first | (with_reducible first | exact HB.out | apply below_alloc | apply pw_below_drewN | apply below_drew1 | refine below_set ?_ GE355.out | refine below_set ?_ GE373.out) | exact HB.out))) : w.heap.size ≤ gb392)); have n9_ := Aside0.mk ((by rw [hg]; exact (below_size (by repeat (first | (with_reducible first | exact HB.out | apply below_alloc | apply pw_below_drewN | apply below_drew1 | refine below_set ?_ GE355.out | refine below_set ?_ GE373.out) | exact HB.out))) : w.heap.size ≤ gb392)); have n10_ := Aside0.mk ((by rw [hg]; exact Nat.ne_of_lt (blk_lt (g := gb355) (o := .cells #[.slice A0_0 l0_0.length c0_0, .int .i64 a0_1, .bool a0_2] 33 (0, 0)) (blkx_ BK355.out)) : gb355 ≠ gb392)); have n11_ := Aside0.mk ((by rw [hg]; exact Nat.ne_of_gt (blk_lt (g := gb355) (o := .cells #[.slice A0_0 l0_0.length c0_0, .int .i64 a0_1, .bool a0_2] 33 (0, 0)) (blkx_ BK355.out)) : gb392 ≠ gb355)); have n12_ := Aside0.mk ((by rw [hg]; exact Nat.ne_of_lt (blk_lt (g := gb373) (o := .cells #[.slice Ao19 t368.length co19, .int .i64 t371, .bool t372] 33 (0, 0)) (blkx_ BK373.out)) : gb373 ≠ gb392)); have n13_ := Aside0.mk ((by rw [hg]; exact Nat.ne_of_gt (blk_lt (g := gb373) (o := .cells #[.slice Ao19 t368.length co19, .int .i64 t371, .bool t372] 33 (0, 0)) (blkx_ BK373.out)) : gb392 ≠ gb373)); clear HO_374000; clear HO379; clear HO384; clear HO389; clear BK355; clear BK373; clear HB; have HO_374000 := n0_; have HO379 := n1_; have HO384 := n2_; have HO389 := n3_; have BK355 := n4_; have BK373 := n5_; have HB := n6_; have BK392 := n7_; have GW392 := n8_; have GE392 := n9_; have NB355_392 := n10_; have NB392_355 := n11_; have NB373_392 := n12_; have NB392_373 := n13_; clear n0_ n1_ n2_ n3_ n4_ n5_ n6_ n7_ n8_ n9_ n10_ n11_ n12_ n13_; clear hb hbox hg; obtain ⟨Ao44, co44, eo44⟩ := Kd.V_slice HO389.out; subst eo44; have hnb45 := NB392_355.out; have hnc45 := NB355_392.out; have hnb46 := NB392_373.out; have hnc46 := NB373_392.out; have hcz47_0 : w43.cell? ⟨gb392, 0, none⟩ = some (.slice none 0 0) := (blk_cell BK392.out 0).trans rfl; have hcz47_1 : w43.cell? ⟨gb392, 1, none⟩ = some (.int .i64 0) := (blk_cell BK392.out 1).trans rfl; have hcz47_2 : w43.cell? ⟨gb392, 2, none⟩ = some (.bool false) := (blk_cell BK392.out 2).trans rfl; have hfz47_0 := blk_frozen BK392.out 0; have hfz47_1 := blk_frozen BK392.out 1; have hfz47_2 := blk_frozen BK392.out 2))
      go_loopg [8, 10] k1 (fun kq v8 v10 w' => ∃ (x8_2 : List Int) (x10_2 : Int), v10 = .int .i64 x10_2 ∧ Aside0 (limelightlaw18_WatchOthers.l1 kq a1 x8_2 x10_2 l0_0 a0_1 a0_2 t387 t390 t391 = some r) ∧ Aside0 (kq ≤ k1) ∧ Aside0 (Kd.R (Kd.int .i64) 3 w' w.heap.size (fun _ => True) v8 x8_2) ∧ Aside0 (Kd.V (Kd.slice 3 (Kd.int .i64)) 22 w' w.heap.size (fun k_ => some k_ ≠ (v8 : Value).ownBlock ∧ k_ ≠ gb355 ∧ k_ ≠ gb373 ∧ k_ ≠ gb392) (.slice Ao19 t368.length co19) t368) ∧ Aside0 (Kd.V (Kd.slice 3 (Kd.int .i64)) 22 w' w.heap.size (fun k_ => some k_ ≠ (v8 : Value).ownBlock ∧ k_ ≠ gb355 ∧ k_ ≠ gb373 ∧ k_ ≠ gb392) (.slice Ao44 t387.length co44) t387) ∧ Aside0 (w'.heap[gb355]? = some (.cells #[(.slice A0_0 l0_0.length c0_0), .int .i64 a0_1, .bool a0_2] 33 (0, 0))) ∧ Aside0 (w'.heap[gb373]? = some (.cells #[(.slice Ao19 t368.length co19), .int .i64 t371, .bool t372] 33 (0, 0))) ∧ Aside0 (w'.heap[gb392]? = some (.cells #[(.slice Ao44 t387.length co44), .int .i64 t390, .bool t391] 33 (0, 0))) ∧ Aside0 (Below w.heap.size w w'))
      case atStart => exact ⟨(([] : List Int)), (0), (by first | rfl | (simp; done) | (simp [*]; done)), H', ⟨Nat.le_refl _⟩, ⟨by first | exact Kd.R_nil _ _ _ _ _ | exact Kd.N_nil _ _ _ _ _ | exact Kd.V_nil _ _ _ _ _ | exact Kd.Q_nil _ _ _ _ _ | exact Kd.S_nil _ _ _ _ _⟩, ⟨by (with_reducible repeat (first | apply Kd.V_alloc | apply Kd.V_drewN | apply Kd.V_drew)); exact Kd.V_mono (Kd.V_far (p := ⟨gb392, 2, none⟩) (Kd.V_far (p := ⟨gb392, 1, none⟩) (Kd.V_far (p := ⟨gb392, 0, none⟩) (Kd.V_mono HO_374000.out (fun k_ hk => (⟨hk, hk.2⟩ : _ ∧ k_ ≠ gb392))) (fun _ hk => hk.2) (.slice Ao44 t387.length co44)) (fun _ hk => hk.2) (.int .i64 t390)) (fun _ hk => hk.2) (.bool t391)) (fun _ hk => ⟨(by simp [Value.ownBlock]), ⟨hk.1.1.1.1, ⟨hk.1.1.1.2, hk.1.2⟩⟩⟩)⟩, ⟨by (with_reducible repeat (first | apply Kd.V_alloc | apply Kd.V_drewN | apply Kd.V_drew)); exact Kd.V_mono (Kd.V_far (p := ⟨gb392, 2, none⟩) (Kd.V_far (p := ⟨gb392, 1, none⟩) (Kd.V_far (p := ⟨gb392, 0, none⟩) (Kd.V_mono HO389.out (fun k_ hk => (⟨hk, hk.2⟩ : _ ∧ k_ ≠ gb392))) (fun _ hk => hk.2) (.slice Ao44 t387.length co44)) (fun _ hk => hk.2) (.int .i64 t390)) (fun _ hk => hk.2) (.bool t391)) (fun _ hk => ⟨(by simp [Value.ownBlock]), ⟨hk.1.1.1, ⟨hk.1.1.2, hk.1.2⟩⟩⟩)⟩, ⟨by (with_reducible repeat (first | refine blk_drewN ?_ _ | refine blk_drew ?_ | refine blk_alloc ?_ _)); refine blk_far ?_ NB355_392.out _; (with_reducible repeat (first | refine blk_drewN ?_ _ | refine blk_drew ?_ | refine blk_alloc ?_ _)); refine blk_far ?_ NB355_392.out _; (with_reducible repeat (first | refine blk_drewN ?_ _ | refine blk_drew ?_ | refine blk_alloc ?_ _)); refine blk_far ?_ NB355_392.out _; (with_reducible repeat (first | refine blk_drewN ?_ _ | refine blk_drew ?_ | refine blk_alloc ?_ _)); exact BK355.out⟩, ⟨by (with_reducible repeat (first | refine blk_drewN ?_ _ | refine blk_drew ?_ | refine blk_alloc ?_ _)); refine blk_far ?_ NB373_392.out _; (with_reducible repeat (first | refine blk_drewN ?_ _ | refine blk_drew ?_ | refine blk_alloc ?_ _)); refine blk_far ?_ NB373_392.out _; (with_reducible repeat (first | refine blk_drewN ?_ _ | refine blk_drew ?_ | refine blk_alloc ?_ _)); refine blk_far ?_ NB373_392.out _; (with_reducible repeat (first | refine blk_drewN ?_ _ | refine blk_drew ?_ | refine blk_alloc ?_ _)); exact BK373.out⟩, ⟨by (with_reducible repeat (first | refine blk_drewN ?_ _ | refine blk_drew ?_ | refine blk_alloc ?_ _)); refine blk_put (cs := #[.slice Ao44 t387.length co44, .int .i64 t390, .bool false]) ?_ 2 _ rfl; (with_reducible repeat (first | refine blk_drewN ?_ _ | refine blk_drew ?_ | refine blk_alloc ?_ _)); refine blk_put (cs := #[.slice Ao44 t387.length co44, .int .i64 0, .bool false]) ?_ 1 _ rfl; (with_reducible repeat (first | refine blk_drewN ?_ _ | refine blk_drew ?_ | refine blk_alloc ?_ _)); refine blk_put (cs := #[.slice none 0 0, .int .i64 0, .bool false]) ?_ 0 _ rfl; (with_reducible repeat (first | refine blk_drewN ?_ _ | refine blk_drew ?_ | refine blk_alloc ?_ _)); exact BK392.out⟩, ⟨by repeat (first | (with_reducible first | exact HB.out | apply below_alloc | apply pw_below_drewN | apply below_drew1 | refine below_set ?_ GE355.out | refine below_set ?_ GE373.out | refine below_set ?_ GE392.out) | exact HB.out)⟩⟩
      case round =>
       clear H'
       try clear c1
       try clear c2
       try clear p2
       try clear c3
       try clear p3
       try clear q3
       try clear hx3
       try clear c4
       try clear p6
       try clear c7
       try clear c8
       try clear c8b0
       try clear c8b1
       try clear c11
       try clear c13
       try clear c14
       try clear c15
       try clear c17
       try clear c18
       try clear c20
       try clear c23
       try clear c23b0
       try clear c24
       try clear c24b0
       try clear c25
       try clear c25b0
       try clear c26
       try clear c26b0
       try clear c28
       try clear c29
       try clear c36
       try clear c37
       try clear p37
       try clear q37
       try clear hx37
       try clear c45
       try clear c46
       try clear hcz10_0
       try clear hcz10_1
       try clear hcz10_2
       try clear hcz12_0
       try clear hcz12_1
       try clear hcz12_2
       try clear hcz21_0
       try clear hcz21_1
       try clear hcz21_2
       try clear hcz22_0
       try clear hcz22_1
       try clear hcz22_2
       try clear hcz30_0
       try clear hcz30_1
       try clear hcz30_2
       try clear hcz37_0
       try clear hcz37_1
       try clear hcz37_2
       try clear hcz47_0
       try clear hcz47_1
       try clear hcz47_2
       try clear hfz10_0
       try clear hfz10_1
       try clear hfz10_2
       try clear hfz12_0
       try clear hfz12_1
       try clear hfz12_2
       try clear hfz21_0
       try clear hfz21_1
       try clear hfz21_2
       try clear hfz22_0
       try clear hfz22_1
       try clear hfz22_2
       try clear hfz30_0
       try clear hfz30_1
       try clear hfz30_2
       try clear hfz37_0
       try clear hfz37_1
       try clear hfz37_2
       try clear hfz47_0
       try clear hfz47_1
       try clear hfz47_2
       try clear hx374_0
       try clear hx375_0
       try clear p2
       try clear p374
       try clear p375
       try clear q374
       try clear q375
       obtain ⟨x8_2, x10_2, rfl, HA, HK2, HO_8, HO_374000, HO_393000, BK355, BK373, BK392, HB⟩ := hrel
       cases gk with
       | zero => exact absurd HA.out (by simp [limelightlaw18_WatchOthers.l1])
       | succ k2 =>
        have H := HA.out
        clear HA
        simp only [limelightlaw18_WatchOthers.l1] at H
        by_cases c48 : x10_2 < (l0_0.length : Int)
        ·rw [if_pos c48] at H
         have c48b0 : decide (x10_2 < (l0_0.length : Int)) = true := decide_eq_true c48
         clear c48
         have H' := Aside0.mk H
         clear H
         have hnb49 := NB355_373.out
         have hnc49 := NB373_355.out
         have hnb50 := NB355_392.out
         have hnc50 := NB392_355.out
         have hcz51_0 : wr.cell? ⟨gb355, 0, none⟩ = some (.slice A0_0 l0_0.length c0_0) := (blk_cell BK355.out 0).trans rfl
         have hcz51_1 : wr.cell? ⟨gb355, 1, none⟩ = some (.int .i64 a0_1) := (blk_cell BK355.out 1).trans rfl
         have hcz51_2 : wr.cell? ⟨gb355, 2, none⟩ = some (.bool a0_2) := (blk_cell BK355.out 2).trans rfl
         have hfz51_0 := blk_frozen BK355.out 0
         have hfz51_1 := blk_frozen BK355.out 1
         have hfz51_2 := blk_frozen BK355.out 2
         go_wp2
         go_loopg [8, 11] k2 (fun kq v8 v11 w' => ∃ (x8_3 : List Int) (x11_3 : Int), v11 = .int .i64 x11_3 ∧ Aside0 (limelightlaw18_WatchOthers.l2 kq a1 x8_3 x10_2 x11_3 l0_0 a0_1 a0_2 t387 t390 t391 = some r) ∧ Aside0 (kq ≤ k2) ∧ Aside0 (Kd.R (Kd.int .i64) 3 w' w.heap.size (fun _ => True) v8 x8_3) ∧ Aside0 (Kd.V (Kd.slice 3 (Kd.int .i64)) 22 w' w.heap.size (fun k_ => some k_ ≠ (v8 : Value).ownBlock ∧ k_ ≠ gb355 ∧ k_ ≠ gb373 ∧ k_ ≠ gb392) (.slice Ao19 t368.length co19) t368) ∧ Aside0 (Kd.V (Kd.slice 3 (Kd.int .i64)) 22 w' w.heap.size (fun k_ => some k_ ≠ (v8 : Value).ownBlock ∧ k_ ≠ gb355 ∧ k_ ≠ gb373 ∧ k_ ≠ gb392) (.slice Ao44 t387.length co44) t387) ∧ Aside0 (w'.heap[gb355]? = some (.cells #[(.slice A0_0 l0_0.length c0_0), .int .i64 a0_1, .bool a0_2] 33 (0, 0))) ∧ Aside0 (w'.heap[gb373]? = some (.cells #[(.slice Ao19 t368.length co19), .int .i64 t371, .bool t372] 33 (0, 0))) ∧ Aside0 (w'.heap[gb392]? = some (.cells #[(.slice Ao44 t387.length co44), .int .i64 t390, .bool t391] 33 (0, 0))) ∧ Aside0 (Below w.heap.size w w'))
         case atStart => exact ⟨(x8_2), (0), (by first | rfl | (simp; done) | (simp [*]; done)), H', ⟨Nat.le_refl _⟩, ⟨kra_ HO_8.out⟩, ⟨by (with_reducible repeat (first | apply Kd.V_alloc | apply Kd.V_drewN | apply Kd.V_drew)); exact HO_374000.out⟩, ⟨by (with_reducible repeat (first | apply Kd.V_alloc | apply Kd.V_drewN | apply Kd.V_drew)); exact HO_393000.out⟩, ⟨blkx_ BK355.out⟩, ⟨blkx_ BK373.out⟩, ⟨blkx_ BK392.out⟩, ⟨by repeat (first | (with_reducible first | exact HB.out | apply below_alloc | apply pw_below_drewN | apply below_drew1 | refine below_set ?_ GE355.out | refine below_set ?_ GE373.out | refine below_set ?_ GE392.out) | exact HB.out)⟩⟩
         case round =>
          clear H'
          try clear c1
          try clear c2
          try clear p2
          try clear c3
          try clear p3
          try clear q3
          try clear hx3
          try clear c4
          try clear c5
          try clear p6
          try clear c7
          try clear c8
          try clear c8b0
          try clear c8b1
          try clear c11
          try clear c13
          try clear c14
          try clear c15
          try clear c17
          try clear c18
          try clear c20
          try clear c23
          try clear c23b0
          try clear c24
          try clear c24b0
          try clear c25
          try clear c25b0
          try clear c26
          try clear c26b0
          try clear c28
          try clear c29
          try clear c36
          try clear c37
          try clear p37
          try clear q37
          try clear hx37
          try clear c45
          try clear c46
          try clear c48
          try clear c48b0
          try clear c49
          try clear c50
          try clear hcz10_0
          try clear hcz10_1
          try clear hcz10_2
          try clear hcz12_0
          try clear hcz12_1
          try clear hcz12_2
          try clear hcz21_0
          try clear hcz21_1
          try clear hcz21_2
          try clear hcz22_0
          try clear hcz22_1
          try clear hcz22_2
          try clear hcz30_0
          try clear hcz30_1
          try clear hcz30_2
          try clear hcz37_0
          try clear hcz37_1
          try clear hcz37_2
          try clear hcz47_0
          try clear hcz47_1
          try clear hcz47_2
          try clear hcz51_0
          try clear hcz51_1
          try clear hcz51_2
          try clear hfz10_0
          try clear hfz10_1
          try clear hfz10_2
          try clear hfz12_0
          try clear hfz12_1
          try clear hfz12_2
          try clear hfz21_0
          try clear hfz21_1
          try clear hfz21_2
          try clear hfz22_0
          try clear hfz22_1
          try clear hfz22_2
          try clear hfz30_0
          try clear hfz30_1
          try clear hfz30_2
          try clear hfz37_0
          try clear hfz37_1
          try clear hfz37_2
          try clear hfz47_0
          try clear hfz47_1
          try clear hfz47_2
          try clear hfz51_0
          try clear hfz51_1
          try clear hfz51_2
          try clear hx374_0
          try clear hx375_0
          try clear p2
          try clear p3
          try clear p37
          try clear p374
          try clear p375
          try clear p6
          try clear q3
          try clear q37
          try clear q374
          try clear q375
          obtain ⟨x8_3, x11_3, rfl, HA, HK3, HO_8, HO_374000, HO_393000, BK355, BK373, BK392, HB⟩ := hrel
          cases gk with
          | zero => exact absurd HA.out (by simp [limelightlaw18_WatchOthers.l2])
          | succ k3 =>
           have H := HA.out
           clear HA
           simp only [limelightlaw18_WatchOthers.l2] at H
           by_cases c52 : 0 ≤ x10_2
           ·rw [if_pos c52] at H
            have c52b0 : decide (0 ≤ x10_2) = true := decide_eq_true c52
            clear c52
            by_cases c53 : x10_2 < (l0_0.length : Int)
            ·rw [if_pos c53] at H
             have c53b0 : decide (x10_2 < (l0_0.length : Int)) = true := decide_eq_true c53
             clear c53
             by_cases c54 : x11_3 < ((rd_L1 l0_0 x10_2).length : Int)
             ·rw [if_pos c54] at H
              have c54b0 : decide (x11_3 < ((rd_L1 l0_0 x10_2).length : Int)) = true := decide_eq_true c54
              clear c54
              by_cases c55 : 0 ≤ x11_3
              ·rw [if_pos c55] at H
               have c55b0 : decide (0 ≤ x11_3) = true := decide_eq_true c55
               clear c55
               by_cases c56 : (rd (rd_L1 l0_0 x10_2) x11_3) = a1
               ·rw [if_pos c56] at H
                have c56b0 : ((rd (rd_L1 l0_0 x10_2) x11_3) == a1) = true := beq_iff_eq.mpr c56
                have c56b1 : ((rd (rd_L1 l0_0 x10_2) x11_3) != a1) = false := bne_eq_false_iff_eq.mpr c56
                clear c56
                have H' := Aside0.mk H
                clear H
                have hnb57 := NB355_373.out
                have hnc57 := NB373_355.out
                have hnb58 := NB355_392.out
                have hnc58 := NB392_355.out
                have hcz59_0 : wr.cell? ⟨gb355, 0, none⟩ = some (.slice A0_0 l0_0.length c0_0) := (blk_cell BK355.out 0).trans rfl
                have hcz59_1 : wr.cell? ⟨gb355, 1, none⟩ = some (.int .i64 a0_1) := (blk_cell BK355.out 1).trans rfl
                have hcz59_2 : wr.cell? ⟨gb355, 2, none⟩ = some (.bool a0_2) := (blk_cell BK355.out 2).trans rfl
                have hfz59_0 := blk_frozen BK355.out 0
                have hfz59_1 := blk_frozen BK355.out 1
                have hfz59_2 := blk_frozen BK355.out 2
                have p393 : 0 ≤ (x10_2 : Int) := of_decide_eq_true asm_
                have q393 : x10_2 < (l0_0.length : Int) := of_decide_eq_true asm_
                obtain ⟨ad393, A393_0, c393_0, e393, hx393_0, hl393_0, hi393_0⟩ := at_L1 HR0_0.out x10_2 p393 q393
                cases e393
                replace hx393_0 := (HB.out.cell (World.block_lt_of_cell? w _ hx393_0)).trans hx393_0
                have HR393_0 := Aside0.mk hi393_0
                have HC393_0 := Aside0.mk hl393_0
                clear hi393_0 hl393_0
                replace p393 := eq_true p393
                replace q393 := eq_true q393
                have p394 : 0 ≤ (x10_2 : Int) := of_decide_eq_true asm_
                have q394 : x10_2 < (l0_0.length : Int) := of_decide_eq_true asm_
                obtain ⟨ad394, A394_0, c394_0, e394, hx394_0, hl394_0, hi394_0⟩ := at_L1 HR0_0.out x10_2 p394 q394
                obtain rfl : ad393 = ad394 := (by injection e394)
                replace hx394_0 := (HB.out.cell (World.block_lt_of_cell? w _ hx394_0)).trans hx394_0
                have HR394_0 := Aside0.mk hi394_0
                have HC394_0 := Aside0.mk hl394_0
                clear hi394_0 hl394_0
                replace p394 := eq_true p394
                replace q394 := eq_true q394
                have ea_ := Option.some.inj (hx393_0.symm.trans hx394_0)
                injection ea_ with ea_ en_ ec_
                subst ea_
                subst ec_
                clear en_
                have p395 : 0 ≤ (x11_3 : Int) := of_decide_eq_true asm_
                have q395 : x11_3 < ((rd_L1 l0_0 x10_2).length : Int) := of_decide_eq_true asm_
                obtain ⟨ad395, e395, hx395_0⟩ := Kd.at_int HR394_0.out x11_3 p395 q395
                cases e395
                replace hx395_0 := (HB.out.cell (World.block_lt_of_cell? w _ hx395_0)).trans hx395_0
                replace p395 := eq_true p395
                replace q395 := eq_true q395
                go_wp2
                go_roundg k3
                case measure => have := HK1.out; have := HK2.out; have := HK3.out; omega
                case rel => exact ⟨(x8_3), (wrap64 (x11_3 + 1)), (by first | rfl | (simp; done) | (simp [*]; done)), H', ⟨by have := HK1.out; have := HK2.out; have := HK3.out; omega⟩, ⟨kra_ HO_8.out⟩, ⟨by (with_reducible repeat (first | apply Kd.V_alloc | apply Kd.V_drewN | apply Kd.V_drew)); exact HO_374000.out⟩, ⟨by (with_reducible repeat (first | apply Kd.V_alloc | apply Kd.V_drewN | apply Kd.V_drew)); exact HO_393000.out⟩, ⟨blkx_ BK355.out⟩, ⟨blkx_ BK373.out⟩, ⟨blkx_ BK392.out⟩, ⟨by repeat (first | (with_reducible first | exact HB.out | apply below_alloc | apply pw_below_drewN | apply below_drew1 | refine below_set ?_ GE355.out | refine below_set ?_ GE373.out | refine below_set ?_ GE392.out) | exact HB.out)⟩⟩
               ·rw [if_neg c56] at H
                have c56b0 : ((rd (rd_L1 l0_0 x10_2) x11_3) == a1) = false := beq_eq_false_iff_ne.mpr c56
                have c56b1 : ((rd (rd_L1 l0_0 x10_2) x11_3) != a1) = true := bne_iff_ne.mpr c56
                by_cases c60 : x8_3.length < 17592186044416
                ·rw [if_pos c60] at H
                 have LMc60 := Aside0.mk c60
                 clear c60
                 obtain ⟨y398, hy398⟩ : ∃ y_ : List Int, y_ = (x8_3 ++ [rd (rd_L1 l0_0 x10_2) x11_3]) := ⟨_, rfl⟩
                 replace H : (limelightlaw18_WatchOthers.l2 k3 a1 y398 x10_2 (wrap64 (x11_3 + 1)) l0_0 a0_1 a0_2 t387 t390 t391) = some r := by first | (rw [hy398]; with_reducible exact H) | (have H2_ := (Option.bind_some _ _).symm.trans H; rw [hy398]; with_reducible exact H2_) | (have H2_ := (Option.bind_some _ _).symm.trans H; with_reducible exact H2_) | with_reducible exact H | (rw [hy398]; exact H) | exact H
                 have Ny398 := Aside0.mk hy398
                 clear hy398
                 have H' := Aside0.mk H
                 clear H
                 have hnb61 := NB355_373.out
                 have hnc61 := NB373_355.out
                 have hnb62 := NB355_392.out
                 have hnc62 := NB392_355.out
                 have hcz63_0 : wr.cell? ⟨gb355, 0, none⟩ = some (.slice A0_0 l0_0.length c0_0) := (blk_cell BK355.out 0).trans rfl
                 have hcz63_1 : wr.cell? ⟨gb355, 1, none⟩ = some (.int .i64 a0_1) := (blk_cell BK355.out 1).trans rfl
                 have hcz63_2 : wr.cell? ⟨gb355, 2, none⟩ = some (.bool a0_2) := (blk_cell BK355.out 2).trans rfl
                 have hfz63_0 := blk_frozen BK355.out 0
                 have hfz63_1 := blk_frozen BK355.out 1
                 have hfz63_2 := blk_frozen BK355.out 2
                 have p393 : 0 ≤ (x10_2 : Int) := of_decide_eq_true asm_
                 have q393 : x10_2 < (l0_0.length : Int) := of_decide_eq_true asm_
                 obtain ⟨ad393, A393_0, c393_0, e393, hx393_0, hl393_0, hi393_0⟩ := at_L1 HR0_0.out x10_2 p393 q393
                 cases e393
                 replace hx393_0 := (HB.out.cell (World.block_lt_of_cell? w _ hx393_0)).trans hx393_0
                 have HR393_0 := Aside0.mk hi393_0
                 have HC393_0 := Aside0.mk hl393_0
                 clear hi393_0 hl393_0
                 replace p393 := eq_true p393
                 replace q393 := eq_true q393
                 have p394 : 0 ≤ (x10_2 : Int) := of_decide_eq_true asm_
                 have q394 : x10_2 < (l0_0.length : Int) := of_decide_eq_true asm_
                 obtain ⟨ad394, A394_0, c394_0, e394, hx394_0, hl394_0, hi394_0⟩ := at_L1 HR0_0.out x10_2 p394 q394
                 obtain rfl : ad393 = ad394 := (by injection e394)
                 replace hx394_0 := (HB.out.cell (World.block_lt_of_cell? w _ hx394_0)).trans hx394_0
                 have HR394_0 := Aside0.mk hi394_0
                 have HC394_0 := Aside0.mk hl394_0
                 clear hi394_0 hl394_0
                 replace p394 := eq_true p394
                 replace q394 := eq_true q394
                 have ea_ := Option.some.inj (hx393_0.symm.trans hx394_0)
                 injection ea_ with ea_ en_ ec_
                 subst ea_
                 subst ec_
                 clear en_
                 have p395 : 0 ≤ (x11_3 : Int) := of_decide_eq_true asm_
                 have q395 : x11_3 < ((rd_L1 l0_0 x10_2).length : Int) := of_decide_eq_true asm_
                 obtain ⟨ad395, e395, hx395_0⟩ := Kd.at_int HR394_0.out x11_3 p395 q395
                 cases e395
                 replace hx395_0 := (HB.out.cell (World.block_lt_of_cell? w _ hx395_0)).trans hx395_0
                 replace p395 := eq_true p395
                 replace q395 := eq_true q395
                 have p396 : 0 ≤ (x10_2 : Int) := of_decide_eq_true asm_
                 have q396 : x10_2 < (l0_0.length : Int) := of_decide_eq_true asm_
                 obtain ⟨ad396, A396_0, c396_0, e396, hx396_0, hl396_0, hi396_0⟩ := at_L1 HR0_0.out x10_2 p396 q396
                 obtain rfl : ad393 = ad396 := (by injection e396)
                 replace hx396_0 := (HB.out.cell (World.block_lt_of_cell? w _ hx396_0)).trans hx396_0
                 have HR396_0 := Aside0.mk hi396_0
                 have HC396_0 := Aside0.mk hl396_0
                 clear hi396_0 hl396_0
                 replace p396 := eq_true p396
                 replace q396 := eq_true q396
                 have ea_ := Option.some.inj (hx393_0.symm.trans hx396_0)
                 injection ea_ with ea_ en_ ec_
                 subst ea_
                 subst ec_
                 clear en_
                 have p397 : 0 ≤ (x11_3 : Int) := of_decide_eq_true asm_
                 have q397 : x11_3 < ((rd_L1 l0_0 x10_2).length : Int) := of_decide_eq_true asm_
                 obtain ⟨ad397, e397, hx397_0⟩ := Kd.at_int HR396_0.out x11_3 p397 q397
                 cases e397
                 replace hx397_0 := (HB.out.cell (World.block_lt_of_cell? w _ hx397_0)).trans hx397_0
                 replace p397 := eq_true p397
                 replace q397 := eq_true q397
                 go_wp2_with (first | ((with_reducible refine gate_builtin (b := .append) (xs := #[.tmp 81, .tmp 90]) rfl ?_); at_builtin; refine Kd.R_append (Kd.int .i64) (w0 := w) w.heap.size rfl (.tmp 81) (.tmp 90) 22 3 (.int .i64 0) 8 rfl Try.underlying22 info3 rfl (by decide) (by omega) u8 x8_3 (rd (rd_L1 l0_0 x10_2) x11_3) [.int .i64 (rd (rd_L1 l0_0 x10_2) x11_3)] (fun _ => True) (fun _ => False) rfl rfl ?aP (fun _ hk => hk.elim) ?aF ?aO ?aB ?aS ?aL ?_; (case aP => exact rfl); (case aB => exact (by repeat (first | (with_reducible first | exact HB.out | apply below_alloc | apply pw_below_drewN | apply below_drew1 | refine below_set ?_ GE355.out | refine below_set ?_ GE373.out | refine below_set ?_ GE392.out) | exact HB.out))); (case aF => exact (fun _ _ => trivial)); (case aO => exact (kra_ HO_8.out)); (case aS => exact (below_size (by repeat (first | (with_reducible first | exact HB.out | apply below_alloc | apply pw_below_drewN | apply below_drew1 | refine below_set ?_ GE355.out | refine below_set ?_ GE373.out | refine below_set ?_ GE392.out) | exact HB.out)))); (case aL => have := LMc60.out; omega); intro v399 w64 ho hb hg hat; rw [← Ny398.out] at ho; have n0_ := Aside0.mk (Kd.V_afterv (ok := (fun k_ => k_ ≠ gb355 ∧ k_ ≠ gb373 ∧ k_ ≠ gb392)) (by (with_reducible repeat (first | apply Kd.V_alloc | apply Kd.V_drewN | apply Kd.V_drew)); exact Kd.V_mono HO_374000.out (fun _ hk => ⟨⟨hk.2.1, ⟨hk.2.2.1, hk.2.2.2⟩⟩, hk.1⟩)) hg hat); have n1_ := Aside0.mk (Kd.V_afterv (ok := (fun k_ => k_ ≠ gb355 ∧ k_ ≠ gb373 ∧ k_ ≠ gb392)) (by (with_reducible repeat (first | apply Kd.V_alloc | apply Kd.V_drewN | apply Kd.V_drew)); exact Kd.V_mono HO_393000.out (fun _ hk => ⟨⟨hk.2.1, ⟨hk.2.2.1, hk.2.2.2⟩⟩, hk.1⟩)) hg hat); have n2_ := Aside0.mk (blk_grown (g := gb355) (o := .cells #[.slice (some ad393) l0_0.length c0_0, .int .i64 a0_1, .bool a0_2] 33 (0, 0)) (blkx_ BK355.out) hg (Kd.R_ne HO_8.out BK355.out (by decide))); have n3_ := Aside0.mk (blk_grown (g := gb373) (o := .cells #[.slice Ao19 t368.length co19, .int .i64 t371, .bool t372] 33 (0, 0)) (blkx_ BK373.out) hg (Kd.R_ne HO_8.out BK373.out (by decide))); have n4_ := Aside0.mk (blk_grown (g := gb392) (o := .cells #[.slice Ao44 t387.length co44, .int .i64 t390, .bool t391] 33 (0, 0)) (blkx_ BK392.out) hg (Kd.R_ne HO_8.out BK392.out (by decide))); have n5_ := Aside0.mk (hb); have n6_ := Aside0.mk (ho); clear HO_374000; clear HO_393000; clear BK355; clear BK373; clear BK392; clear HB; clear HO_8; have HO_374000 := n0_; have HO_393000 := n1_; have BK355 := n2_; have BK373 := n3_; have BK392 := n4_; have HB := n5_; have HO400 := n6_; clear n0_ n1_ n2_ n3_ n4_ n5_ n6_; clear ho hb hg hat))
                 go_roundg k3
                 case measure => have := HK1.out; have := HK2.out; have := HK3.out; omega
                 case rel => exact ⟨(y398), (wrap64 (x11_3 + 1)), (by first | rfl | (simp; done) | (simp [*]; done)), H', ⟨by have := HK1.out; have := HK2.out; have := HK3.out; omega⟩, ⟨kra_ HO400.out⟩, ⟨by (with_reducible repeat (first | apply Kd.V_alloc | apply Kd.V_drewN | apply Kd.V_drew)); exact Kd.V_mono HO_374000.out (fun _ hk => ⟨hk.2, ⟨hk.1.1, ⟨hk.1.2.1, hk.1.2.2⟩⟩⟩)⟩, ⟨by (with_reducible repeat (first | apply Kd.V_alloc | apply Kd.V_drewN | apply Kd.V_drew)); exact Kd.V_mono HO_393000.out (fun _ hk => ⟨hk.2, ⟨hk.1.1, ⟨hk.1.2.1, hk.1.2.2⟩⟩⟩)⟩, ⟨blkx_ BK355.out⟩, ⟨blkx_ BK373.out⟩, ⟨blkx_ BK392.out⟩, ⟨by repeat (first | (with_reducible first | exact HB.out | apply below_alloc | apply pw_below_drewN | apply below_drew1 | refine below_set ?_ GE355.out | refine below_set ?_ GE373.out | refine below_set ?_ GE392.out) | exact HB.out)⟩⟩
                ·rw [if_neg c60] at H
                 exact absurd H (by simp)
              ·rw [if_neg c55] at H
               exact absurd H (by simp)
             ·rw [if_neg c54] at H
              have c54b0 : decide (x11_3 < ((rd_L1 l0_0 x10_2).length : Int)) = false := decide_eq_false c54
              clear c54
              have H' := Aside0.mk H
              clear H
              have hnb65 := NB355_373.out
              have hnc65 := NB373_355.out
              have hnb66 := NB355_392.out
              have hnc66 := NB392_355.out
              have hcz67_0 : wr.cell? ⟨gb355, 0, none⟩ = some (.slice A0_0 l0_0.length c0_0) := (blk_cell BK355.out 0).trans rfl
              have hcz67_1 : wr.cell? ⟨gb355, 1, none⟩ = some (.int .i64 a0_1) := (blk_cell BK355.out 1).trans rfl
              have hcz67_2 : wr.cell? ⟨gb355, 2, none⟩ = some (.bool a0_2) := (blk_cell BK355.out 2).trans rfl
              have hfz67_0 := blk_frozen BK355.out 0
              have hfz67_1 := blk_frozen BK355.out 1
              have hfz67_2 := blk_frozen BK355.out 2
              have p393 : 0 ≤ (x10_2 : Int) := of_decide_eq_true asm_
              have q393 : x10_2 < (l0_0.length : Int) := of_decide_eq_true asm_
              obtain ⟨ad393, A393_0, c393_0, e393, hx393_0, hl393_0, hi393_0⟩ := at_L1 HR0_0.out x10_2 p393 q393
              cases e393
              replace hx393_0 := (HB.out.cell (World.block_lt_of_cell? w _ hx393_0)).trans hx393_0
              have HR393_0 := Aside0.mk hi393_0
              have HC393_0 := Aside0.mk hl393_0
              clear hi393_0 hl393_0
              replace p393 := eq_true p393
              replace q393 := eq_true q393
              go_wp2
              go_roundg k3
              case measure => have := HK1.out; have := HK2.out; have := HK3.out; omega
              case rel => exact ⟨(x8_3), (wrap64 (x10_2 + 1)), (by first | rfl | (simp; done) | (simp [*]; done)), H', ⟨by have := HK1.out; have := HK2.out; have := HK3.out; omega⟩, ⟨kra_ HO_8.out⟩, ⟨by (with_reducible repeat (first | apply Kd.V_alloc | apply Kd.V_drewN | apply Kd.V_drew)); exact HO_374000.out⟩, ⟨by (with_reducible repeat (first | apply Kd.V_alloc | apply Kd.V_drewN | apply Kd.V_drew)); exact HO_393000.out⟩, ⟨blkx_ BK355.out⟩, ⟨blkx_ BK373.out⟩, ⟨blkx_ BK392.out⟩, ⟨by repeat (first | (with_reducible first | exact HB.out | apply below_alloc | apply pw_below_drewN | apply below_drew1 | refine below_set ?_ GE355.out | refine below_set ?_ GE373.out | refine below_set ?_ GE392.out) | exact HB.out)⟩⟩
            ·rw [if_neg c53] at H
             exact absurd H (by simp)
           ·rw [if_neg c52] at H
            exact absurd H (by simp)
        ·rw [if_neg c48] at H
         have c48b0 : decide (x10_2 < (l0_0.length : Int)) = false := decide_eq_false c48
         clear c48
         have H' := Aside0.mk H
         clear H
         have hnb68 := NB355_373.out
         have hnc68 := NB373_355.out
         have hnb69 := NB355_392.out
         have hnc69 := NB392_355.out
         have hcz70_0 : wr.cell? ⟨gb355, 0, none⟩ = some (.slice A0_0 l0_0.length c0_0) := (blk_cell BK355.out 0).trans rfl
         have hcz70_1 : wr.cell? ⟨gb355, 1, none⟩ = some (.int .i64 a0_1) := (blk_cell BK355.out 1).trans rfl
         have hcz70_2 : wr.cell? ⟨gb355, 2, none⟩ = some (.bool a0_2) := (blk_cell BK355.out 2).trans rfl
         have hfz70_0 := blk_frozen BK355.out 0
         have hfz70_1 := blk_frozen BK355.out 1
         have hfz70_2 := blk_frozen BK355.out 2
         go_wp2
         go_loopg [9, 12] k2 (fun kq v9 v12 w' => ∃ (x9_3 : List Int) (x12_3 : Int), v12 = .int .i64 x12_3 ∧ Aside0 (limelightlaw18_WatchOthers.l3 kq x8_2 x9_3 x12_3 l0_0 a0_1 a0_2 t387 t390 t391 = some r) ∧ Aside0 (kq ≤ k2) ∧ Aside0 (Kd.R (Kd.int .i64) 3 w' w.heap.size (fun k_ => some k_ ≠ (v9 : Value).ownBlock) u8 x8_2) ∧ Aside0 (Kd.R (Kd.int .i64) 3 w' w.heap.size (fun k_ => some k_ ≠ (u8 : Value).ownBlock) v9 x9_3) ∧ Aside0 (Kd.V (Kd.slice 3 (Kd.int .i64)) 22 w' w.heap.size (fun k_ => some k_ ≠ (u8 : Value).ownBlock ∧ some k_ ≠ (v9 : Value).ownBlock ∧ k_ ≠ gb355 ∧ k_ ≠ gb373 ∧ k_ ≠ gb392) (.slice Ao19 t368.length co19) t368) ∧ Aside0 (Kd.V (Kd.slice 3 (Kd.int .i64)) 22 w' w.heap.size (fun k_ => some k_ ≠ (u8 : Value).ownBlock ∧ some k_ ≠ (v9 : Value).ownBlock ∧ k_ ≠ gb355 ∧ k_ ≠ gb373 ∧ k_ ≠ gb392) (.slice Ao44 t387.length co44) t387) ∧ Aside0 (w'.heap[gb355]? = some (.cells #[(.slice A0_0 l0_0.length c0_0), .int .i64 a0_1, .bool a0_2] 33 (0, 0))) ∧ Aside0 (w'.heap[gb373]? = some (.cells #[(.slice Ao19 t368.length co19), .int .i64 t371, .bool t372] 33 (0, 0))) ∧ Aside0 (w'.heap[gb392]? = some (.cells #[(.slice Ao44 t387.length co44), .int .i64 t390, .bool t391] 33 (0, 0))) ∧ Aside0 (Below w.heap.size w w'))
         case atStart => exact ⟨(([] : List Int)), (0), (by first | rfl | (simp; done) | (simp [*]; done)), H', ⟨Nat.le_refl _⟩, ⟨by (with_reducible repeat (first | apply Kd.R_alloc | apply Kd.R_drewN | apply Kd.R_drew)); exact Kd.R_mono HO_8.out (fun _ hk => (by simp [Value.ownBlock]))⟩, ⟨by first | exact Kd.R_nil _ _ _ _ _ | exact Kd.N_nil _ _ _ _ _ | exact Kd.V_nil _ _ _ _ _ | exact Kd.Q_nil _ _ _ _ _ | exact Kd.S_nil _ _ _ _ _⟩, ⟨by (with_reducible repeat (first | apply Kd.V_alloc | apply Kd.V_drewN | apply Kd.V_drew)); exact Kd.V_mono HO_374000.out (fun _ hk => ⟨hk.1, ⟨(by simp [Value.ownBlock]), ⟨hk.2.1, ⟨hk.2.2.1, hk.2.2.2⟩⟩⟩⟩)⟩, ⟨by (with_reducible repeat (first | apply Kd.V_alloc | apply Kd.V_drewN | apply Kd.V_drew)); exact Kd.V_mono HO_393000.out (fun _ hk => ⟨hk.1, ⟨(by simp [Value.ownBlock]), ⟨hk.2.1, ⟨hk.2.2.1, hk.2.2.2⟩⟩⟩⟩)⟩, ⟨blkx_ BK355.out⟩, ⟨blkx_ BK373.out⟩, ⟨blkx_ BK392.out⟩, ⟨by repeat (first | (with_reducible first | exact HB.out | apply below_alloc | apply pw_below_drewN | apply below_drew1 | refine below_set ?_ GE355.out | refine below_set ?_ GE373.out | refine below_set ?_ GE392.out) | exact HB.out)⟩⟩
         case round =>
          clear H'
          try clear c1
          try clear c2
          try clear p2
          try clear c3
          try clear p3
          try clear q3
          try clear hx3
          try clear c4
          try clear c5
          try clear c6
          try clear p6
          try clear c7
          try clear c8
          try clear c8b0
          try clear c8b1
          try clear c11
          try clear c13
          try clear c14
          try clear c15
          try clear c17
          try clear c18
          try clear c20
          try clear c23
          try clear c23b0
          try clear c24
          try clear c24b0
          try clear c25
          try clear c25b0
          try clear c26
          try clear c26b0
          try clear c28
          try clear c29
          try clear c36
          try clear c37
          try clear p37
          try clear q37
          try clear hx37
          try clear c39
          try clear p39
          try clear q39
          try clear hx39
          try clear c45
          try clear c46
          try clear c48
          try clear c48b0
          try clear c49
          try clear c50
          try clear c52
          try clear c52b0
          try clear c53
          try clear c53b0
          try clear c54
          try clear c54b0
          try clear c55
          try clear c55b0
          try clear c56
          try clear c56b0
          try clear c56b1
          try clear c57
          try clear c58
          try clear c60
          try clear c61
          try clear c62
          try clear p64
          try clear c65
          try clear c66
          try clear c68
          try clear c69
          try clear hcz10_0
          try clear hcz10_1
          try clear hcz10_2
          try clear hcz12_0
          try clear hcz12_1
          try clear hcz12_2
          try clear hcz21_0
          try clear hcz21_1
          try clear hcz21_2
          try clear hcz22_0
          try clear hcz22_1
          try clear hcz22_2
          try clear hcz30_0
          try clear hcz30_1
          try clear hcz30_2
          try clear hcz37_0
          try clear hcz37_1
          try clear hcz37_2
          try clear hcz47_0
          try clear hcz47_1
          try clear hcz47_2
          try clear hcz51_0
          try clear hcz51_1
          try clear hcz51_2
          try clear hcz59_0
          try clear hcz59_1
          try clear hcz59_2
          try clear hcz63_0
          try clear hcz63_1
          try clear hcz63_2
          try clear hcz67_0
          try clear hcz67_1
          try clear hcz67_2
          try clear hcz70_0
          try clear hcz70_1
          try clear hcz70_2
          try clear hfz10_0
          try clear hfz10_1
          try clear hfz10_2
          try clear hfz12_0
          try clear hfz12_1
          try clear hfz12_2
          try clear hfz21_0
          try clear hfz21_1
          try clear hfz21_2
          try clear hfz22_0
          try clear hfz22_1
          try clear hfz22_2
          try clear hfz30_0
          try clear hfz30_1
          try clear hfz30_2
          try clear hfz37_0
          try clear hfz37_1
          try clear hfz37_2
          try clear hfz47_0
          try clear hfz47_1
          try clear hfz47_2
          try clear hfz51_0
          try clear hfz51_1
          try clear hfz51_2
          try clear hfz59_0
          try clear hfz59_1
          try clear hfz59_2
          try clear hfz63_0
          try clear hfz63_1
          try clear hfz63_2
          try clear hfz67_0
          try clear hfz67_1
          try clear hfz67_2
          try clear hfz70_0
          try clear hfz70_1
          try clear hfz70_2
          try clear hx374_0
          try clear hx375_0
          try clear hx393_0
          try clear hx394_0
          try clear hx395_0
          try clear hx396_0
          try clear hx397_0
          try clear p2
          try clear p3
          try clear p37
          try clear p374
          try clear p375
          try clear p393
          try clear p394
          try clear p395
          try clear p396
          try clear p397
          try clear p6
          try clear q3
          try clear q37
          try clear q374
          try clear q375
          try clear q393
          try clear q394
          try clear q395
          try clear q396
          try clear q397
          obtain ⟨x9_3, x12_3, rfl, HA, HK3, HO_8, HO_9, HO_374000, HO_393000, BK355, BK373, BK392, HB⟩ := hrel
          cases gk with
          | zero => exact absurd HA.out (by simp [limelightlaw18_WatchOthers.l3])
          | succ k3 =>
           have H := HA.out
           clear HA
           simp only [limelightlaw18_WatchOthers.l3] at H
           by_cases c71 : x12_3 < (t387.length : Int)
           ·rw [if_pos c71] at H
            have c71b0 : decide (x12_3 < (t387.length : Int)) = true := decide_eq_true c71
            clear c71
            by_cases c72 : 0 ≤ x12_3
            ·rw [if_pos c72] at H
             have c72b0 : decide (0 ≤ x12_3) = true := decide_eq_true c72
             clear c72
             by_cases c73 : ((rd_L1 t387 x12_3).length : Int) = 0
             ·rw [if_pos c73] at H
              exact absurd H (by simp)
             ·rw [if_neg c73] at H
              have c73b0 : (((rd_L1 t387 x12_3).length : Int) == 0) = false := beq_eq_false_iff_ne.mpr c73
              have c73b1 : (((rd_L1 t387 x12_3).length : Int) != 0) = true := bne_iff_ne.mpr c73
              have c73b2 : ¬ ((rd_L1 t387 x12_3) = []) := fun h_ => c73 (by rw [h_]; rfl)
              by_cases c74 : x9_3.length + (rd_L1 t387 x12_3).length < 17592186044416
              ·rw [if_pos c74] at H
               have LMc74 := Aside0.mk c74
               clear c74
               obtain ⟨y403, hy403⟩ : ∃ y_ : List Int, y_ = (x9_3 ++ (rd_L1 t387 x12_3)) := ⟨_, rfl⟩
               replace H : (limelightlaw18_WatchOthers.l3 k3 x8_2 y403 (wrap64 (x12_3 + 1)) l0_0 a0_1 a0_2 t387 t390 t391) = some r := by first | (rw [hy403]; with_reducible exact H) | (have H2_ := (Option.bind_some _ _).symm.trans H; rw [hy403]; with_reducible exact H2_) | (have H2_ := (Option.bind_some _ _).symm.trans H; with_reducible exact H2_) | with_reducible exact H | (rw [hy403]; exact H) | exact H
               have Ny403 := Aside0.mk hy403
               clear hy403
               have H' := Aside0.mk H
               clear H
               have hnb75 := NB392_355.out
               have hnc75 := NB355_392.out
               have hnb76 := NB392_373.out
               have hnc76 := NB373_392.out
               have hcz77_0 : wr.cell? ⟨gb392, 0, none⟩ = some (.slice Ao44 t387.length co44) := (blk_cell BK392.out 0).trans rfl
               have hcz77_1 : wr.cell? ⟨gb392, 1, none⟩ = some (.int .i64 t390) := (blk_cell BK392.out 1).trans rfl
               have hcz77_2 : wr.cell? ⟨gb392, 2, none⟩ = some (.bool t391) := (blk_cell BK392.out 2).trans rfl
               have hfz77_0 := blk_frozen BK392.out 0
               have hfz77_1 := blk_frozen BK392.out 1
               have hfz77_2 := blk_frozen BK392.out 2
               have p401 : 0 ≤ (x12_3 : Int) := of_decide_eq_true asm_
               have q401 : x12_3 < (t387.length : Int) := of_decide_eq_true asm_
               obtain ⟨ad401, A401_0, c401_0, e401, hx401_0, hl401_0, hi401_0⟩ := at_L1 (Kd.V_reads' HO_393000.out).2.2 x12_3 p401 q401
               cases e401
               obtain ⟨ce401, hce401, hMe401, hcc401⟩ := Kd.V_get HO_393000.out [] x12_3 p401 (by first | exact q401 | exact of_decide_eq_true asm_ | (have e_ := (Kd.V_reads' HO_393000.out).1; omega))
               obtain ⟨ua401_0, uc401_0, rfl, ul401_0, ge401_0⟩ := Kd.FK_slice_open hMe401
               have hv401_0 := hcc401 0 _ rfl
               rw [Nat.add_zero, show ((Kd.slice 3 (Kd.int .i64))).sz = 1 from rfl, Nat.mul_one] at hv401_0
               replace hv401_0 := Option.some.inj (hv401_0.symm.trans hx401_0)
               injection hv401_0 with hva_ hvn_ hvc_
               rw [hva_] at ge401_0
               rw [hvc_] at ul401_0
               have HL401_0 := Aside0.mk (show Kd.V (Kd.int .i64) 3 _ w.heap.size _ _ (rd_L1 t387 x12_3) from Kd.V_mk ul401_0 ge401_0)
               clear hva_ hvn_ hvc_ ge401_0 ul401_0
               clear hcc401 hce401
               have HR401_0 := Aside0.mk hi401_0
               have HC401_0 := Aside0.mk hl401_0
               clear hi401_0 hl401_0
               replace p401 := eq_true p401
               replace q401 := eq_true q401
               have p402 : 0 ≤ (x12_3 : Int) := of_decide_eq_true asm_
               have q402 : x12_3 < (t387.length : Int) := of_decide_eq_true asm_
               obtain ⟨ad402, A402_0, c402_0, e402, hx402_0, hl402_0, hi402_0⟩ := at_L1 (Kd.V_reads' HO_393000.out).2.2 x12_3 p402 q402
               obtain rfl : ad401 = ad402 := (by injection e402)
               obtain ⟨ce402, hce402, hMe402, hcc402⟩ := Kd.V_get HO_393000.out [] x12_3 p402 (by first | exact q402 | exact of_decide_eq_true asm_ | (have e_ := (Kd.V_reads' HO_393000.out).1; omega))
               obtain ⟨ua402_0, uc402_0, rfl, ul402_0, ge402_0⟩ := Kd.FK_slice_open hMe402
               have hv402_0 := hcc402 0 _ rfl
               rw [Nat.add_zero, show ((Kd.slice 3 (Kd.int .i64))).sz = 1 from rfl, Nat.mul_one] at hv402_0
               replace hv402_0 := Option.some.inj (hv402_0.symm.trans hx402_0)
               injection hv402_0 with hva_ hvn_ hvc_
               rw [hva_] at ge402_0
               rw [hvc_] at ul402_0
               have HL402_0 := Aside0.mk (show Kd.V (Kd.int .i64) 3 _ w.heap.size _ _ (rd_L1 t387 x12_3) from Kd.V_mk ul402_0 ge402_0)
               clear hva_ hvn_ hvc_ ge402_0 ul402_0
               clear hcc402 hce402
               have HR402_0 := Aside0.mk hi402_0
               have HC402_0 := Aside0.mk hl402_0
               clear hi402_0 hl402_0
               replace p402 := eq_true p402
               replace q402 := eq_true q402
               have ea_ := Option.some.inj (hx401_0.symm.trans hx402_0)
               injection ea_ with ea_ en_ ec_
               subst ea_
               subst ec_
               clear en_
               go_wp2_with (first | ((with_reducible refine gate_builtin (b := .append) (xs := #[.tmp 106, .tmp 111]) rfl ?_); at_builtin; refine Kd.R_append_rows (Kd.int .i64) (w0 := w) w.heap.size rfl (.tmp 106) (.tmp 111) 22 3 (.int .i64 0) 8 rfl Try.underlying22 info3 rfl (by decide) (by omega) u9 x9_3 (rd_L1 t387 x12_3) _ _ _ (fun k_ => some k_ ≠ (u8 : Value).ownBlock) (fun _ => False) rfl rfl ?aO ?aR (fun _ _ h => h) (fun _ h => h.elim) ?aF ?aB ?aS ?aL ?_; (case aR => repeat (first | exact (by repeat (first | (with_reducible exact HR402_0.out) | (with_reducible refine Kd.C_alloc ?_ _) | (with_reducible refine Kd.C_drewN ?_ _) | (with_reducible refine Kd.C_drew ?_) | exact HR402_0.out)) | (with_reducible refine Kd.C_alloc ?_ _) | (with_reducible refine Kd.C_drewN ?_ _) | (with_reducible refine Kd.C_drew ?_))); (case aB => exact (by repeat (first | (with_reducible first | exact HB.out | apply below_alloc | apply pw_below_drewN | apply below_drew1 | refine below_set ?_ GE355.out | refine below_set ?_ GE373.out | refine below_set ?_ GE392.out) | exact HB.out))); (case aF => exact (fun k_ hk => Kd.fresh' (Kd.R_lt (kra_ HO_8.out)) k_ hk)); (case aO => exact (kra_ HO_9.out)); (case aS => exact (below_size (by repeat (first | (with_reducible first | exact HB.out | apply below_alloc | apply pw_below_drewN | apply below_drew1 | refine below_set ?_ GE355.out | refine below_set ?_ GE373.out | refine below_set ?_ GE392.out) | exact HB.out)))); (case aL => have := LMc74.out; omega); intro v404 w78 ho hb hg hat; rw [← Ny403.out] at ho; have n0_ := Aside0.mk (Kd.R_after (ok := (fun _ => True)) (by (with_reducible repeat (first | apply Kd.R_alloc | apply Kd.R_drewN | apply Kd.R_drew)); exact Kd.R_mono HO_8.out (fun _ hk => ⟨trivial, hk⟩)) hg hat); have n1_ := Aside0.mk (Kd.V_afterv (ok := (fun k_ => some k_ ≠ (u8 : Value).ownBlock ∧ k_ ≠ gb355 ∧ k_ ≠ gb373 ∧ k_ ≠ gb392)) (by (with_reducible repeat (first | apply Kd.V_alloc | apply Kd.V_drewN | apply Kd.V_drew)); exact Kd.V_mono HO_374000.out (fun _ hk => ⟨⟨hk.1, ⟨hk.2.2.1, ⟨hk.2.2.2.1, hk.2.2.2.2⟩⟩⟩, hk.2.1⟩)) hg hat); have n2_ := Aside0.mk (Kd.V_afterv (ok := (fun k_ => some k_ ≠ (u8 : Value).ownBlock ∧ k_ ≠ gb355 ∧ k_ ≠ gb373 ∧ k_ ≠ gb392)) (by (with_reducible repeat (first | apply Kd.V_alloc | apply Kd.V_drewN | apply Kd.V_drew)); exact Kd.V_mono HO_393000.out (fun _ hk => ⟨⟨hk.1, ⟨hk.2.2.1, ⟨hk.2.2.2.1, hk.2.2.2.2⟩⟩⟩, hk.2.1⟩)) hg hat); have n3_ := Aside0.mk (blk_grown (g := gb355) (o := .cells #[.slice A0_0 l0_0.length c0_0, .int .i64 a0_1, .bool a0_2] 33 (0, 0)) (blkx_ BK355.out) hg (Kd.R_ne HO_9.out BK355.out (by decide))); have n4_ := Aside0.mk (blk_grown (g := gb373) (o := .cells #[.slice Ao19 t368.length co19, .int .i64 t371, .bool t372] 33 (0, 0)) (blkx_ BK373.out) hg (Kd.R_ne HO_9.out BK373.out (by decide))); have n5_ := Aside0.mk (blk_grown (g := gb392) (o := .cells #[.slice (some ad401) t387.length co44, .int .i64 t390, .bool t391] 33 (0, 0)) (blkx_ BK392.out) hg (Kd.R_ne HO_9.out BK392.out (by decide))); have n6_ := Aside0.mk (Kd.V_afterv (ok := (fun k_ => some k_ ≠ (u8 : Value).ownBlock ∧ k_ ≠ gb355 ∧ k_ ≠ gb373 ∧ k_ ≠ gb392)) (by (with_reducible repeat (first | apply Kd.V_alloc | apply Kd.V_drewN | apply Kd.V_drew)); exact Kd.V_mono HL401_0.out (fun _ hk => ⟨⟨hk.1, ⟨hk.2.2.1, ⟨hk.2.2.2.1, hk.2.2.2.2⟩⟩⟩, hk.2.1⟩)) hg hat); have n7_ := Aside0.mk (Kd.V_afterv (ok := (fun k_ => some k_ ≠ (u8 : Value).ownBlock ∧ k_ ≠ gb355 ∧ k_ ≠ gb373 ∧ k_ ≠ gb392)) (by (with_reducible repeat (first | apply Kd.V_alloc | apply Kd.V_drewN | apply Kd.V_drew)); exact Kd.V_mono HL402_0.out (fun _ hk => ⟨⟨hk.1, ⟨hk.2.2.1, ⟨hk.2.2.2.1, hk.2.2.2.2⟩⟩⟩, hk.2.1⟩)) hg hat); have n8_ := Aside0.mk (hb); have n9_ := Aside0.mk (ho); clear HO_8; clear HO_374000; clear HO_393000; clear BK355; clear BK373; clear BK392; clear HL401_0; clear HL402_0; clear HB; clear HO_9; have HO_8 := n0_; have HO_374000 := n1_; have HO_393000 := n2_; have BK355 := n3_; have BK373 := n4_; have BK392 := n5_; have HL401_0 := n6_; have HL402_0 := n7_; have HB := n8_; have HO405 := n9_; clear n0_ n1_ n2_ n3_ n4_ n5_ n6_ n7_ n8_ n9_; clear ho hb hg hat))
               go_roundg k3
               case measure => have := HK1.out; have := HK2.out; have := HK3.out; omega
               case rel => exact ⟨(y403), (wrap64 (x12_3 + 1)), (by first | rfl | (simp; done) | (simp [*]; done)), H', ⟨by have := HK1.out; have := HK2.out; have := HK3.out; omega⟩, ⟨by (with_reducible repeat (first | apply Kd.R_alloc | apply Kd.R_drewN | apply Kd.R_drew)); exact Kd.R_mono HO_8.out (fun _ hk => hk.2)⟩, ⟨kra_ HO405.out⟩, ⟨by (with_reducible repeat (first | apply Kd.V_alloc | apply Kd.V_drewN | apply Kd.V_drew)); exact Kd.V_mono HO_374000.out (fun _ hk => ⟨hk.1.1, ⟨hk.2, ⟨hk.1.2.1, ⟨hk.1.2.2.1, hk.1.2.2.2⟩⟩⟩⟩)⟩, ⟨by (with_reducible repeat (first | apply Kd.V_alloc | apply Kd.V_drewN | apply Kd.V_drew)); exact Kd.V_mono HO_393000.out (fun _ hk => ⟨hk.1.1, ⟨hk.2, ⟨hk.1.2.1, ⟨hk.1.2.2.1, hk.1.2.2.2⟩⟩⟩⟩)⟩, ⟨blkx_ BK355.out⟩, ⟨blkx_ BK373.out⟩, ⟨blkx_ BK392.out⟩, ⟨by repeat (first | (with_reducible first | exact HB.out | apply below_alloc | apply pw_below_drewN | apply below_drew1 | refine below_set ?_ GE355.out | refine below_set ?_ GE373.out | refine below_set ?_ GE392.out) | exact HB.out)⟩⟩
              ·rw [if_neg c74] at H
               exact absurd H (by simp)
            ·rw [if_neg c72] at H
             exact absurd H (by simp)
           ·rw [if_neg c71] at H
            have c71b0 : decide (x12_3 < (t387.length : Int)) = false := decide_eq_false c71
            clear c71
            replace H := Option.bind_eq_some_iff.mp H
            obtain ⟨t406, A790, H⟩ := H
            replace H : (if t406 = true then (if t390 = a0_1 then (if (t391 == a0_2) = true then ((limelightlaw18_live.f).bind fun t407 => (some t407)) else (none)) else (none)) else (none)) = some r := H
            have A79 := Aside0.mk A790
            clear A790
            by_cases c80 : t406 = true
            ·subst c80
             have H1 : (if t390 = a0_1 then (if (t391 == a0_2) = true then ((limelightlaw18_live.f).bind fun t407 => (some t407)) else (none)) else (none)) = some r := by rw [if_pos rfl] at H; exact H
             clear H
             have H := H1
             clear H1
             by_cases c81 : t390 = a0_1
             ·rw [if_pos c81] at H
              have c81b0 : (t390 == a0_1) = true := beq_iff_eq.mpr c81
              have c81b1 : (t390 != a0_1) = false := bne_eq_false_iff_eq.mpr c81
              clear c81
              by_cases c82 : (t391 == a0_2) = true
              ·rw [if_pos c82] at H
               have c82b0 : (t391 == a0_2) = true := c82
               (try (have c82b1 : decide (t391 = a0_2) = true := by simpa using c82))
               (try (have c82b2 : (t391 == a0_2) = true := by simpa using c82))
               clear c82
               replace H := Option.bind_eq_some_iff.mp H
               obtain ⟨t407, A830, H⟩ := H
               replace H : (some t407) = some r := H
               have A83 := Aside0.mk A830
               clear A830
               obtain rfl := Option.some.inj H
               have hnb84 := NB392_355.out
               have hnc84 := NB355_392.out
               have hnb85 := NB392_373.out
               have hnc85 := NB373_392.out
               have hcz86_0 : wr.cell? ⟨gb392, 0, none⟩ = some (.slice Ao44 t387.length co44) := (blk_cell BK392.out 0).trans rfl
               have hcz86_1 : wr.cell? ⟨gb392, 1, none⟩ = some (.int .i64 t390) := (blk_cell BK392.out 1).trans rfl
               have hcz86_2 : wr.cell? ⟨gb392, 2, none⟩ = some (.bool t391) := (blk_cell BK392.out 2).trans rfl
               have hfz86_0 := blk_frozen BK392.out 0
               have hfz86_1 := blk_frozen BK392.out 1
               have hfz86_2 := blk_frozen BK392.out 2
               obtain ⟨Ao87, co87, eo87⟩ := Kd.R_slice HO_8.out
               subst eo87
               obtain ⟨Ao88, co88, eo88⟩ := Kd.R_slice HO_9.out
               subst eo88
               go_wp2_with (first | ((with_reducible refine gate_callee (f := 18) rfl ?_); refine goesL_ (some 115) rfl rfl Try.func18 (by kernel_rfl) rfl #[.slice Ao87 x8_2.length co87, .slice Ao88 x9_3.length co88] rfl margs_ ?_; (with_reducible refine (limelightref01_Ints.calls _ _ x8_2 _ _ x9_3 true _ ?side1 ?side2 ?side3 ?side4 A79.out).mono ?_); (case side1 => exact kcb_ ((Kd.R_reads' HO_8.out).2.2)); (case side2 => exact (Kd.R_reads' HO_8.out).2.1); (case side3 => exact kcb_ ((Kd.R_reads' HO_9.out).2.2)); (case side4 => exact (Kd.R_reads' HO_9.out).2.1); rintro e w89 ⟨rfl, hb⟩; refine ⟨_, rfl, ?_⟩; have n0_ := Aside0.mk (Kd.R_below (kra_ HO_8.out) hb); have n1_ := Aside0.mk (Kd.R_below (kra_ HO_9.out) hb); have n2_ := Aside0.mk (Kd.V_below (by (with_reducible repeat (first | apply Kd.V_alloc | apply Kd.V_drewN | apply Kd.V_drew)); exact HO_374000.out) hb); have n3_ := Aside0.mk (Kd.V_below (by (with_reducible repeat (first | apply Kd.V_alloc | apply Kd.V_drewN | apply Kd.V_drew)); exact HO_393000.out) hb); have n4_ := Aside0.mk (blk_below (g := gb355) (o := .cells #[.slice A0_0 l0_0.length c0_0, .int .i64 a0_1, .bool a0_2] 33 (0, 0)) (blkx_ BK355.out) hb); have n5_ := Aside0.mk (blk_below (g := gb373) (o := .cells #[.slice Ao19 t368.length co19, .int .i64 t371, .bool t372] 33 (0, 0)) (blkx_ BK373.out) hb); have n6_ := Aside0.mk (blk_below (g := gb392) (o := .cells #[.slice Ao44 t387.length co44, .int .i64 t390, .bool t391] 33 (0, 0)) (blkx_ BK392.out) hb); have n7_ := Aside0.mk (below_step (by repeat (first | (with_reducible first | exact HB.out | apply below_alloc | apply pw_below_drewN | apply below_drew1 | refine below_set ?_ GE355.out | refine below_set ?_ GE373.out | refine below_set ?_ GE392.out) | exact HB.out)) hb); clear HO_8; clear HO_9; clear HO_374000; clear HO_393000; clear BK355; clear BK373; clear BK392; clear HB; have HO_8 := n0_; have HO_9 := n1_; have HO_374000 := n2_; have HO_393000 := n3_; have BK355 := n4_; have BK373 := n5_; have BK392 := n6_; have HB := n7_; clear n0_ n1_ n2_ n3_ n4_ n5_ n6_ n7_; (try clear hb); (try clear hb2); (try clear hk); (try clear hi); have hcz90_0 : w89.cell? ⟨gb392, 0, none⟩ = some (.slice Ao44 t387.length co44) := (blk_cell BK392.out 0).trans rfl; have hcz90_1 : w89.cell? ⟨gb392, 1, none⟩ = some (.int .i64 t390) := (blk_cell BK392.out 1).trans rfl; have hcz90_2 : w89.cell? ⟨gb392, 2, none⟩ = some (.bool t391) := (blk_cell BK392.out 2).trans rfl; have hfz90_0 := blk_frozen BK392.out 0; have hfz90_1 := blk_frozen BK392.out 1; have hfz90_2 := blk_frozen BK392.out 2; have hnb91 := NB355_373.out; have hnc91 := NB373_355.out; have hcz92_0 : w89.cell? ⟨gb355, 0, none⟩ = some (.slice A0_0 l0_0.length c0_0) := (blk_cell BK355.out 0).trans rfl; have hcz92_1 : w89.cell? ⟨gb355, 1, none⟩ = some (.int .i64 a0_1) := (blk_cell BK355.out 1).trans rfl; have hcz92_2 : w89.cell? ⟨gb355, 2, none⟩ = some (.bool a0_2) := (blk_cell BK355.out 2).trans rfl; have hfz92_0 := blk_frozen BK355.out 0; have hfz92_1 := blk_frozen BK355.out 1; have hfz92_2 := blk_frozen BK355.out 2) | (go_at_call 8; (with_reducible refine (limelightlaw18_live.calls  t407 _ A83.out).mono ?_); rintro e w93 ⟨rfl, hb⟩; have n0_ := Aside0.mk (Kd.R_below (kra_ HO_8.out) hb); have n1_ := Aside0.mk (Kd.R_below (kra_ HO_9.out) hb); have n2_ := Aside0.mk (Kd.V_below (by (with_reducible repeat (first | apply Kd.V_alloc | apply Kd.V_drewN | apply Kd.V_drew)); exact HO_374000.out) hb); have n3_ := Aside0.mk (Kd.V_below (by (with_reducible repeat (first | apply Kd.V_alloc | apply Kd.V_drewN | apply Kd.V_drew)); exact HO_393000.out) hb); have n4_ := Aside0.mk (blk_below (g := gb355) (o := .cells #[.slice A0_0 l0_0.length c0_0, .int .i64 a0_1, .bool a0_2] 33 (0, 0)) (blkx_ BK355.out) hb); have n5_ := Aside0.mk (blk_below (g := gb373) (o := .cells #[.slice Ao19 t368.length co19, .int .i64 t371, .bool t372] 33 (0, 0)) (blkx_ BK373.out) hb); have n6_ := Aside0.mk (blk_below (g := gb392) (o := .cells #[.slice Ao44 t387.length co44, .int .i64 t390, .bool t391] 33 (0, 0)) (blkx_ BK392.out) hb); have n7_ := Aside0.mk (below_step (by repeat (first | (with_reducible first | exact HB.out | apply below_alloc | apply pw_below_drewN | apply below_drew1 | refine below_set ?_ GE355.out | refine below_set ?_ GE373.out | refine below_set ?_ GE392.out) | exact HB.out)) hb); clear HO_8; clear HO_9; clear HO_374000; clear HO_393000; clear BK355; clear BK373; clear BK392; clear HB; have HO_8 := n0_; have HO_9 := n1_; have HO_374000 := n2_; have HO_393000 := n3_; have BK355 := n4_; have BK373 := n5_; have BK392 := n6_; have HB := n7_; clear n0_ n1_ n2_ n3_ n4_ n5_ n6_ n7_; (try clear hb); (try clear hb2); (try clear hk); (try clear hi)))
               go_ret
               exact ⟨by first | rfl | (simp [errW_none, errW_some] <;> rfl) | (simp [*, errW_none, errW_some] <;> rfl), by repeat (first | (with_reducible first | exact HB.out | apply below_alloc | apply pw_below_drewN | apply below_drew1 | refine below_set ?_ GE355.out | refine below_set ?_ GE373.out | refine below_set ?_ GE392.out) | exact HB.out)⟩
              ·rw [if_neg c82] at H
               exact absurd H (by simp)
             ·rw [if_neg c81] at H
              exact absurd H (by simp)
            ·replace c80 := Bool.eq_false_iff.mpr c80
             subst c80
             have H1 : (none) = some r := by rw [if_neg (show ¬ (false = true) by decide)] at H; exact H
             clear H
             have H := H1
             clear H1
             exact absurd H (by simp)
 ·replace c4 := Bool.eq_false_iff.mpr c4
  subst c4
  have H1 : ((limelightlaw18_live.f).bind fun t357 => (some t357)) = some r := by rw [if_neg (show ¬ (false = true) by decide)] at H; exact H
  clear H
  have H := H1
  clear H1
  replace H := Option.bind_eq_some_iff.mp H
  obtain ⟨t357, A940, H⟩ := H
  replace H : (some t357) = some r := H
  have A94 := Aside0.mk A940
  clear A940
  obtain rfl := Option.some.inj H
  go_enter Try.func7, Try.ntmps7
  go_wp2_with (first | ((with_reducible refine gate_dst (N := 2) rfl ?_); refine box_event ?hg (N := 2) ?hd (cs := #[.slice A0_0 l0_0.length c0_0, .int .i64 a0_1, .bool a0_2]) (t := 33) ?hr ?_; (case hd => rfl); (case hg => rfl); (case hr => first | (go_simp; done) | (go_simp; rfl)); intro gb355 hg w95 hbox hb; have n0_ := Aside0.mk (below_step bel_ hb); have n1_ := Aside0.mk (hbox); have n2_ := Aside0.mk ((by rw [hg]; exact (below_size bel_) : w.heap.size ≤ gb355)); have n3_ := Aside0.mk ((by rw [hg]; exact (below_size bel_) : w.heap.size ≤ gb355)); clear HB; have HB := n0_; have BK355 := n1_; have GW355 := n2_; have GE355 := n3_; clear n0_ n1_ n2_ n3_; clear hb hbox hg; have hcz96_0 : w95.cell? ⟨gb355, 0, none⟩ = some (.slice A0_0 l0_0.length c0_0) := (blk_cell BK355.out 0).trans rfl; have hcz96_1 : w95.cell? ⟨gb355, 1, none⟩ = some (.int .i64 a0_1) := (blk_cell BK355.out 1).trans rfl; have hcz96_2 : w95.cell? ⟨gb355, 2, none⟩ = some (.bool a0_2) := (blk_cell BK355.out 2).trans rfl; have hfz96_0 := blk_frozen BK355.out 0; have hfz96_1 := blk_frozen BK355.out 1; have hfz96_2 := blk_frozen BK355.out 2) | ((with_reducible refine gate_callee (f := 13) rfl ?_); refine goesL_ (some 14) rfl rfl Try.func13 (by kernel_rfl) rfl #[.agg #[.slice A0_0 l0_0.length c0_0, .int .i64 a0_1, .bool a0_2]] rfl margs_ ?_; (with_reducible refine (limelightlaw18_small.calls k _ _ l0_0 a0_1 a0_2 false _ ?side1 ?side2 A3.out).mono ?_); (case side1 => exact kcb_ ((Kd.C_below HR0_0.out HB.out))); (case side2 => exact HC0_0.out); rintro e w97 ⟨rfl, hb⟩; refine ⟨_, rfl, ?_⟩; have n0_ := Aside0.mk (blk_below (g := gb355) (o := .cells #[.slice A0_0 l0_0.length c0_0, .int .i64 a0_1, .bool a0_2] 33 (0, 0)) (blkx_ BK355.out) hb); have n1_ := Aside0.mk (below_step (belg_ GE355.out) hb); clear BK355; clear HB; have BK355 := n0_; have HB := n1_; clear n0_ n1_; (try clear hb); (try clear hb2); (try clear hk); (try clear hi)) | ((with_reducible refine gate_callee (f := 8) rfl ?_); refine goesL_ (some 16) rfl rfl Try.func8 (by kernel_rfl) rfl #[] rfl margs_ ?_; (with_reducible refine (limelightlaw18_live.calls  t357 _ A94.out).mono ?_); rintro e w98 ⟨rfl, hb⟩; refine ⟨_, rfl, ?_⟩; have n0_ := Aside0.mk (blk_below (g := gb355) (o := .cells #[.slice A0_0 l0_0.length c0_0, .int .i64 a0_1, .bool a0_2] 33 (0, 0)) (blkx_ BK355.out) hb); have n1_ := Aside0.mk (below_step (belg_ GE355.out) hb); clear BK355; clear HB; have BK355 := n0_; have HB := n1_; clear n0_ n1_; (try clear hb); (try clear hb2); (try clear hk); (try clear hi)))
  go_ret
  exact ⟨by first | rfl | (simp [errW_none, errW_some] <;> rfl) | (simp [*, errW_none, errW_some] <;> rfl), belg_ GE355.out⟩

end Go.Proofs.Ytpklhnggbhkmiaa.P
