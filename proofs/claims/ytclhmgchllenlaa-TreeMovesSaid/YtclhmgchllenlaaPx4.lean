import Derived.Test.YtclhmgchllenlaaPx0
import Derived.Test.YtclhmgchllenlaaPx1
import Derived.Test.YtclhmgchllenlaaME
-- printed by wip/tools/pp.sh (a patched copy of the print's program), for this claim.
namespace Go.Proofs.Ytclhmgchllenlaa.P
open Go.RowKit Go.Proofs.YtclhmgchllenlaaW.PrintWords Go.Proofs.YtclhmgchllenlaaW.PrintLast Go.Proofs.YtclhmgchllenlaaW.PrintMore
attribute [local go_sem] max2_int min2_int max_two min_two max_three min_three max_four min_four   -- for this text's walks alone
set_option linter.unusedVariables false
set_option linter.unusedSimpArgs false

attribute [local go_sem high] eqA65
/-! ### limelightref01_One: function 26 -/
mutual
def limelightref01_One.j0 : Nat → Bool → Int → Int → Int → List Int → Int → Int → List (S65) → Int → Int → Int → List Int → Int → Int → List (S65) → Option (Bool)
 | 0, _, _, _, _, _, _, _, _, _, _, _, _, _, _, _ => none
 | k + 1, x47, x137000, x137001, x137002, x137003, x137004, x137005, x137006, x138000, x138001, x138002, x138003, x138004, x138005, x138006 => if x47 = true then (some false) else (limelightref01_One.l0 k 0 x137000 x137001 x137002 x137003 x137004 x137005 x137006 x138000 x138001 x138002 x138003 x138004 x138005 x138006)
def limelightref01_One.l0 : Nat → Int → Int → Int → Int → List Int → Int → Int → List (S65) → Int → Int → Int → List Int → Int → Int → List (S65) → Option (Bool)
 | 0, _, _, _, _, _, _, _, _, _, _, _, _, _, _, _ => none
 | k + 1, x5, x137000, x137001, x137002, x137003, x137004, x137005, x137006, x138000, x138001, x138002, x138003, x138004, x138005, x138006 => if x5 < (x137006.length : Int) then (if 0 ≤ x5 then (if x5 < (x138006.length : Int) then (if (!(((rd_T65 x137006 x5).f0) == ((rd_T65 x138006 x5).f0)) || (!(((rd_T65 x137006 x5).f1) == ((rd_T65 x138006 x5).f1)))) = true then (some false) else (limelightref01_One.l0 k (wrap64 (x5 + 1)) x137000 x137001 x137002 x137003 x137004 x137005 x137006 x138000 x138001 x138002 x138003 x138004 x138005 x138006)) else (none)) else (none)) else ((limelightref01_Ints.f x137003 x138003).bind fun t140 => (some t140))
end
def limelightref01_One.f (k : Nat) (a0_0 : Int) (a0_1 : Int) (a0_2 : Int) (l0_3 : List Int) (a0_4 : Int) (a0_5 : Int) (l0_6 : List (S65)) (a1_0 : Int) (a1_1 : Int) (a1_2 : Int) (l1_3 : List Int) (a1_4 : Int) (a1_5 : Int) (l1_6 : List (S65)) : Option (Bool) := if a0_0 = a1_0 then (if a0_1 = a1_1 then (if a0_2 = a1_2 then (if a0_4 = a1_4 then (if a0_5 = a1_5 then (limelightref01_One.j0 k ((l0_6.length : Int) != (l1_6.length : Int)) a0_0 a0_1 a0_2 l0_3 a0_4 a0_5 l0_6 a1_0 a1_1 a1_2 l1_3 a1_4 a1_5 l1_6) else (limelightref01_One.j0 k true a0_0 a0_1 a0_2 l0_3 a0_4 a0_5 l0_6 a1_0 a1_1 a1_2 l1_3 a1_4 a1_5 l1_6)) else (limelightref01_One.j0 k true a0_0 a0_1 a0_2 l0_3 a0_4 a0_5 l0_6 a1_0 a1_1 a1_2 l1_3 a1_4 a1_5 l1_6)) else (limelightref01_One.j0 k true a0_0 a0_1 a0_2 l0_3 a0_4 a0_5 l0_6 a1_0 a1_1 a1_2 l1_3 a1_4 a1_5 l1_6)) else (limelightref01_One.j0 k true a0_0 a0_1 a0_2 l0_3 a0_4 a0_5 l0_6 a1_0 a1_1 a1_2 l1_3 a1_4 a1_5 l1_6)) else (limelightref01_One.j0 k true a0_0 a0_1 a0_2 l0_3 a0_4 a0_5 l0_6 a1_0 a1_1 a1_2 l1_3 a1_4 a1_5 l1_6)
theorem limelightref01_One.mono_l : ∀ k, (∀ y0 y1 y2 y3 y4 y5 y6 y7 y8 y9 y10 y11 y12 y13 y14, LeO (limelightref01_One.j0 k y0 y1 y2 y3 y4 y5 y6 y7 y8 y9 y10 y11 y12 y13 y14) (limelightref01_One.j0 (k + 1) y0 y1 y2 y3 y4 y5 y6 y7 y8 y9 y10 y11 y12 y13 y14)) ∧ (∀ y0 y1 y2 y3 y4 y5 y6 y7 y8 y9 y10 y11 y12 y13 y14, LeO (limelightref01_One.l0 k y0 y1 y2 y3 y4 y5 y6 y7 y8 y9 y10 y11 y12 y13 y14) (limelightref01_One.l0 (k + 1) y0 y1 y2 y3 y4 y5 y6 y7 y8 y9 y10 y11 y12 y13 y14))
 | 0 => ⟨fun _ _ _ _ _ _ _ _ _ _ _ _ _ _ _ r h => by simp [limelightref01_One.j0] at h, fun _ _ _ _ _ _ _ _ _ _ _ _ _ _ _ r h => by simp [limelightref01_One.l0] at h⟩
 | k + 1 => by
  obtain ⟨ih0, ih1⟩ := limelightref01_One.mono_l k
  refine ⟨?_, ?_⟩
  ·intro y0 y1 y2 y3 y4 y5 y6 y7 y8 y9 y10 y11 y12 y13 y14
   unfold limelightref01_One.j0
   repeat' first
   | (with_reducible exact ih0 _ _ _ _ _ _ _ _ _ _ _ _ _ _ _)
   | (with_reducible exact ih1 _ _ _ _ _ _ _ _ _ _ _ _ _ _ _)
   | (with_reducible exact LeO.refl _)
   | (with_reducible exact LeO.none _)
   | (with_reducible refine LeO.ite ?_ ?_)
   | (with_reducible refine LeO.bind ?_ (fun _ => ?_))
   | exact ih0 _ _ _ _ _ _ _ _ _ _ _ _ _ _ _
   | exact ih1 _ _ _ _ _ _ _ _ _ _ _ _ _ _ _
   | exact LeO.none _
   | refine LeO.ite ?_ ?_
   | refine LeO.bind ?_ (fun _ => ?_)
  ·intro y0 y1 y2 y3 y4 y5 y6 y7 y8 y9 y10 y11 y12 y13 y14
   unfold limelightref01_One.l0
   repeat' first
   | (with_reducible exact ih0 _ _ _ _ _ _ _ _ _ _ _ _ _ _ _)
   | (with_reducible exact ih1 _ _ _ _ _ _ _ _ _ _ _ _ _ _ _)
   | (with_reducible exact LeO.refl _)
   | (with_reducible exact LeO.none _)
   | (with_reducible refine LeO.ite ?_ ?_)
   | (with_reducible refine LeO.bind ?_ (fun _ => ?_))
   | exact ih0 _ _ _ _ _ _ _ _ _ _ _ _ _ _ _
   | exact ih1 _ _ _ _ _ _ _ _ _ _ _ _ _ _ _
   | exact LeO.none _
   | refine LeO.ite ?_ ?_
   | refine LeO.bind ?_ (fun _ => ?_)
theorem limelightref01_One.mono : ∀ a0 a1 a2 a3 a4 a5 a6 a7 a8 a9 a10 a11 a12 a13 k, LeO (limelightref01_One.f k a0 a1 a2 a3 a4 a5 a6 a7 a8 a9 a10 a11 a12 a13) (limelightref01_One.f (k + 1) a0 a1 a2 a3 a4 a5 a6 a7 a8 a9 a10 a11 a12 a13) := by
 intro a0 a1 a2 a3 a4 a5 a6 a7 a8 a9 a10 a11 a12 a13 k
 obtain ⟨ih0, ih1⟩ := limelightref01_One.mono_l k
 unfold limelightref01_One.f
 repeat' first
   | (with_reducible exact ih0 _ _ _ _ _ _ _ _ _ _ _ _ _ _ _)
   | (with_reducible exact ih1 _ _ _ _ _ _ _ _ _ _ _ _ _ _ _)
   | (with_reducible exact LeO.refl _)
   | (with_reducible exact LeO.none _)
   | (with_reducible refine LeO.ite ?_ ?_)
   | (with_reducible refine LeO.bind ?_ (fun _ => ?_))
   | exact ih0 _ _ _ _ _ _ _ _ _ _ _ _ _ _ _
   | exact ih1 _ _ _ _ _ _ _ _ _ _ _ _ _ _ _
   | exact LeO.none _
   | refine LeO.ite ?_ ?_
   | refine LeO.bind ?_ (fun _ => ?_)
set_option maxHeartbeats 8000000 in
set_option maxRecDepth 100000 in
theorem limelightref01_One.calls (k : Nat) (a0_0 : Int) (a0_1 : Int) (a0_2 : Int) (A0_3 : Option Addr) (c0_3 : Nat) (l0_3 : List Int) (a0_4 : Int) (a0_5 : Int) (A0_6 : Option Addr) (c0_6 : Nat) (l0_6 : List (S65)) (a1_0 : Int) (a1_1 : Int) (a1_2 : Int) (A1_3 : Option Addr) (c1_3 : Nat) (l1_3 : List Int) (a1_4 : Int) (a1_5 : Int) (A1_6 : Option Addr) (c1_6 : Nat) (l1_6 : List (S65)) (r : Bool) (w : World) (hr0_3 : Kd.C (Kd.int .i64) w A0_3 l0_3.length l0_3) (hc0_3 : l0_3.length ≤ c0_3) (hr0_6 : Kd.C k65 w A0_6 l0_6.length l0_6) (hc0_6 : l0_6.length ≤ c0_6) (hr1_3 : Kd.C (Kd.int .i64) w A1_3 l1_3.length l1_3) (hc1_3 : l1_3.length ≤ c1_3) (hr1_6 : Kd.C k65 w A1_6 l1_6.length l1_6) (hc1_6 : l1_6.length ≤ c1_6) (h : limelightref01_One.f k a0_0 a0_1 a0_2 l0_3 a0_4 a0_5 l0_6 a1_0 a1_1 a1_2 l1_3 a1_4 a1_5 l1_6 = some r) :
  Calls Try.prog 26 #[.agg #[.int .i64 a0_0, .int .i64 a0_1, .int .i64 a0_2, .slice A0_3 l0_3.length c0_3, .int .i64 a0_4, .int .i64 a0_5, .slice A0_6 l0_6.length c0_6], .agg #[.int .i64 a1_0, .int .i64 a1_1, .int .i64 a1_2, .slice A1_3 l1_3.length c1_3, .int .i64 a1_4, .int .i64 a1_5, .slice A1_6 l1_6.length c1_6]] w fun e w' => e = .returned (.bool r) ∧ Below w.heap.size w w' := by
 have hu49 := Try.underlying49
 have hu65 := Try.underlying65
 have HR0_3 := Aside0.mk hr0_3
 have HC0_3 := Aside0.mk hc0_3
 clear hr0_3 hc0_3
 have HR0_6 := Aside0.mk hr0_6
 have HC0_6 := Aside0.mk hc0_6
 clear hr0_6 hc0_6
 have HR1_3 := Aside0.mk hr1_3
 have HC1_3 := Aside0.mk hc1_3
 clear hr1_3 hc1_3
 have HR1_6 := Aside0.mk hr1_6
 have HC1_6 := Aside0.mk hc1_6
 clear hr1_6 hc1_6
 have HB := Aside0.mk (Below.refl w.heap.size w)
 have H : (if a0_0 = a1_0 then (if a0_1 = a1_1 then (if a0_2 = a1_2 then (if a0_4 = a1_4 then (if a0_5 = a1_5 then (limelightref01_One.j0 k ((l0_6.length : Int) != (l1_6.length : Int)) a0_0 a0_1 a0_2 l0_3 a0_4 a0_5 l0_6 a1_0 a1_1 a1_2 l1_3 a1_4 a1_5 l1_6) else (limelightref01_One.j0 k true a0_0 a0_1 a0_2 l0_3 a0_4 a0_5 l0_6 a1_0 a1_1 a1_2 l1_3 a1_4 a1_5 l1_6)) else (limelightref01_One.j0 k true a0_0 a0_1 a0_2 l0_3 a0_4 a0_5 l0_6 a1_0 a1_1 a1_2 l1_3 a1_4 a1_5 l1_6)) else (limelightref01_One.j0 k true a0_0 a0_1 a0_2 l0_3 a0_4 a0_5 l0_6 a1_0 a1_1 a1_2 l1_3 a1_4 a1_5 l1_6)) else (limelightref01_One.j0 k true a0_0 a0_1 a0_2 l0_3 a0_4 a0_5 l0_6 a1_0 a1_1 a1_2 l1_3 a1_4 a1_5 l1_6)) else (limelightref01_One.j0 k true a0_0 a0_1 a0_2 l0_3 a0_4 a0_5 l0_6 a1_0 a1_1 a1_2 l1_3 a1_4 a1_5 l1_6)) = some r := h
 clear h
 have HC3 := Aside0.mk H
 clear H
 go_enter Try.func26, Try.ntmps26
 go_upto_region 1 with (first | ((with_reducible refine gate_dst (N := 2) rfl ?_); (try (refine gate_guard (by rfl) ?_; dsimp only)); refine box_event ?hg (N := 2) ?hd (cs := #[.int .i64 a0_0, .int .i64 a0_1, .int .i64 a0_2, .slice A0_3 l0_3.length c0_3, .int .i64 a0_4, .int .i64 a0_5, .slice A0_6 l0_6.length c0_6]) (t := 49) ?hr ?_; (case hd => rfl); (case hg => rfl); (case hr => first | (go_simp; done) | (go_simp; rfl)); intro gb136 hg w4 hbox hb; have n0_ := Aside0.mk (below_step bel_ hb); have n1_ := Aside0.mk (hbox); have n2_ := Aside0.mk ((by rw [hg]; exact (below_size bel_) : w.heap.size ≤ gb136)); have n3_ := Aside0.mk ((by rw [hg]; exact (below_size bel_) : w.heap.size ≤ gb136)); clear HB; have HB := n0_; have BK136 := n1_; have GW136 := n2_; have GE136 := n3_; clear n0_ n1_ n2_ n3_; clear hb hbox hg) | ((with_reducible refine gate_dst (N := 3) rfl ?_); (try (refine gate_guard (by rfl) ?_; dsimp only)); refine box_event ?hg (N := 3) ?hd (cs := #[.int .i64 a1_0, .int .i64 a1_1, .int .i64 a1_2, .slice A1_3 l1_3.length c1_3, .int .i64 a1_4, .int .i64 a1_5, .slice A1_6 l1_6.length c1_6]) (t := 49) ?hr ?_; (case hd => rfl); (case hg => rfl); (case hr => first | (go_simp; done) | (go_simp; rfl)); intro gb137 hg w5 hbox hb; have n0_ := Aside0.mk (blk_below (g := gb136) (o := .cells #[.int .i64 a0_0, .int .i64 a0_1, .int .i64 a0_2, .slice A0_3 l0_3.length c0_3, .int .i64 a0_4, .int .i64 a0_5, .slice A0_6 l0_6.length c0_6] 49 (0, 0)) (blkx_ BK136.out) hb); have n1_ := Aside0.mk (below_step (belg_ GE136.out) hb); have n2_ := Aside0.mk (hbox); have n3_ := Aside0.mk ((by rw [hg]; exact (below_size (belg_ GE136.out)) : w.heap.size ≤ gb137)); have n4_ := Aside0.mk ((by rw [hg]; exact (below_size (belg_ GE136.out)) : w.heap.size ≤ gb137)); have n5_ := Aside0.mk ((by rw [hg]; exact Nat.ne_of_lt (blk_lt (g := gb136) (o := .cells #[.int .i64 a0_0, .int .i64 a0_1, .int .i64 a0_2, .slice A0_3 l0_3.length c0_3, .int .i64 a0_4, .int .i64 a0_5, .slice A0_6 l0_6.length c0_6] 49 (0, 0)) (blkx_ BK136.out)) : gb136 ≠ gb137)); have n6_ := Aside0.mk ((by rw [hg]; exact Nat.ne_of_gt (blk_lt (g := gb136) (o := .cells #[.int .i64 a0_0, .int .i64 a0_1, .int .i64 a0_2, .slice A0_3 l0_3.length c0_3, .int .i64 a0_4, .int .i64 a0_5, .slice A0_6 l0_6.length c0_6] 49 (0, 0)) (blkx_ BK136.out)) : gb137 ≠ gb136)); clear BK136; clear HB; have BK136 := n0_; have HB := n1_; have BK137 := n2_; have GW137 := n3_; have GE137 := n4_; have NB136_137 := n5_; have NB137_136 := n6_; clear n0_ n1_ n2_ n3_ n4_ n5_ n6_; clear hb hbox hg))
 repeat (go_quiet (first | ((with_reducible refine gate_dst (N := 2) rfl ?_); (try (refine gate_guard (by rfl) ?_; dsimp only)); refine box_event ?hg (N := 2) ?hd (cs := #[.int .i64 a0_0, .int .i64 a0_1, .int .i64 a0_2, .slice A0_3 l0_3.length c0_3, .int .i64 a0_4, .int .i64 a0_5, .slice A0_6 l0_6.length c0_6]) (t := 49) ?hr ?_; (case hd => rfl); (case hg => rfl); (case hr => first | (go_simp; done) | (go_simp; rfl)); intro gb136 hg w4 hbox hb; have n0_ := Aside0.mk (below_step bel_ hb); have n1_ := Aside0.mk (hbox); have n2_ := Aside0.mk ((by rw [hg]; exact (below_size bel_) : w.heap.size ≤ gb136)); have n3_ := Aside0.mk ((by rw [hg]; exact (below_size bel_) : w.heap.size ≤ gb136)); clear HB; have HB := n0_; have BK136 := n1_; have GW136 := n2_; have GE136 := n3_; clear n0_ n1_ n2_ n3_; clear hb hbox hg) | ((with_reducible refine gate_dst (N := 3) rfl ?_); (try (refine gate_guard (by rfl) ?_; dsimp only)); refine box_event ?hg (N := 3) ?hd (cs := #[.int .i64 a1_0, .int .i64 a1_1, .int .i64 a1_2, .slice A1_3 l1_3.length c1_3, .int .i64 a1_4, .int .i64 a1_5, .slice A1_6 l1_6.length c1_6]) (t := 49) ?hr ?_; (case hd => rfl); (case hg => rfl); (case hr => first | (go_simp; done) | (go_simp; rfl)); intro gb137 hg w5 hbox hb; have n0_ := Aside0.mk (blk_below (g := gb136) (o := .cells #[.int .i64 a0_0, .int .i64 a0_1, .int .i64 a0_2, .slice A0_3 l0_3.length c0_3, .int .i64 a0_4, .int .i64 a0_5, .slice A0_6 l0_6.length c0_6] 49 (0, 0)) (blkx_ BK136.out) hb); have n1_ := Aside0.mk (below_step (belg_ GE136.out) hb); have n2_ := Aside0.mk (hbox); have n3_ := Aside0.mk ((by rw [hg]; exact (below_size (belg_ GE136.out)) : w.heap.size ≤ gb137)); have n4_ := Aside0.mk ((by rw [hg]; exact (below_size (belg_ GE136.out)) : w.heap.size ≤ gb137)); have n5_ := Aside0.mk ((by rw [hg]; exact Nat.ne_of_lt (blk_lt (g := gb136) (o := .cells #[.int .i64 a0_0, .int .i64 a0_1, .int .i64 a0_2, .slice A0_3 l0_3.length c0_3, .int .i64 a0_4, .int .i64 a0_5, .slice A0_6 l0_6.length c0_6] 49 (0, 0)) (blkx_ BK136.out)) : gb136 ≠ gb137)); have n6_ := Aside0.mk ((by rw [hg]; exact Nat.ne_of_gt (blk_lt (g := gb136) (o := .cells #[.int .i64 a0_0, .int .i64 a0_1, .int .i64 a0_2, .slice A0_3 l0_3.length c0_3, .int .i64 a0_4, .int .i64 a0_5, .slice A0_6 l0_6.length c0_6] 49 (0, 0)) (blkx_ BK136.out)) : gb137 ≠ gb136)); clear BK136; clear HB; have BK136 := n0_; have HB := n1_; have BK137 := n2_; have GW137 := n3_; have GE137 := n4_; have NB136_137 := n5_; have NB137_136 := n6_; clear n0_ n1_ n2_ n3_ n4_ n5_ n6_; clear hb hbox hg)); go_upto_region 1 with (first | ((with_reducible refine gate_dst (N := 2) rfl ?_); (try (refine gate_guard (by rfl) ?_; dsimp only)); refine box_event ?hg (N := 2) ?hd (cs := #[.int .i64 a0_0, .int .i64 a0_1, .int .i64 a0_2, .slice A0_3 l0_3.length c0_3, .int .i64 a0_4, .int .i64 a0_5, .slice A0_6 l0_6.length c0_6]) (t := 49) ?hr ?_; (case hd => rfl); (case hg => rfl); (case hr => first | (go_simp; done) | (go_simp; rfl)); intro gb136 hg w4 hbox hb; have n0_ := Aside0.mk (below_step bel_ hb); have n1_ := Aside0.mk (hbox); have n2_ := Aside0.mk ((by rw [hg]; exact (below_size bel_) : w.heap.size ≤ gb136)); have n3_ := Aside0.mk ((by rw [hg]; exact (below_size bel_) : w.heap.size ≤ gb136)); clear HB; have HB := n0_; have BK136 := n1_; have GW136 := n2_; have GE136 := n3_; clear n0_ n1_ n2_ n3_; clear hb hbox hg) | ((with_reducible refine gate_dst (N := 3) rfl ?_); (try (refine gate_guard (by rfl) ?_; dsimp only)); refine box_event ?hg (N := 3) ?hd (cs := #[.int .i64 a1_0, .int .i64 a1_1, .int .i64 a1_2, .slice A1_3 l1_3.length c1_3, .int .i64 a1_4, .int .i64 a1_5, .slice A1_6 l1_6.length c1_6]) (t := 49) ?hr ?_; (case hd => rfl); (case hg => rfl); (case hr => first | (go_simp; done) | (go_simp; rfl)); intro gb137 hg w5 hbox hb; have n0_ := Aside0.mk (blk_below (g := gb136) (o := .cells #[.int .i64 a0_0, .int .i64 a0_1, .int .i64 a0_2, .slice A0_3 l0_3.length c0_3, .int .i64 a0_4, .int .i64 a0_5, .slice A0_6 l0_6.length c0_6] 49 (0, 0)) (blkx_ BK136.out) hb); have n1_ := Aside0.mk (below_step (belg_ GE136.out) hb); have n2_ := Aside0.mk (hbox); have n3_ := Aside0.mk ((by rw [hg]; exact (below_size (belg_ GE136.out)) : w.heap.size ≤ gb137)); have n4_ := Aside0.mk ((by rw [hg]; exact (below_size (belg_ GE136.out)) : w.heap.size ≤ gb137)); have n5_ := Aside0.mk ((by rw [hg]; exact Nat.ne_of_lt (blk_lt (g := gb136) (o := .cells #[.int .i64 a0_0, .int .i64 a0_1, .int .i64 a0_2, .slice A0_3 l0_3.length c0_3, .int .i64 a0_4, .int .i64 a0_5, .slice A0_6 l0_6.length c0_6] 49 (0, 0)) (blkx_ BK136.out)) : gb136 ≠ gb137)); have n6_ := Aside0.mk ((by rw [hg]; exact Nat.ne_of_gt (blk_lt (g := gb136) (o := .cells #[.int .i64 a0_0, .int .i64 a0_1, .int .i64 a0_2, .slice A0_3 l0_3.length c0_3, .int .i64 a0_4, .int .i64 a0_5, .slice A0_6 l0_6.length c0_6] 49 (0, 0)) (blkx_ BK136.out)) : gb137 ≠ gb136)); clear BK136; clear HB; have BK136 := n0_; have HB := n1_; have BK137 := n2_; have GW137 := n3_; have GE137 := n4_; have NB136_137 := n5_; have NB137_136 := n6_; clear n0_ n1_ n2_ n3_ n4_ n5_ n6_; clear hb hbox hg)))
 (try simp only [Act.put, List.setIfInBounds_toArray, List.set_cons_zero, List.set_cons_succ])
 go_cut [47] (fun v47 wc => ∃ (kq : Nat) (x47_2 : Bool), v47 = .bool x47_2 ∧ Aside0 (limelightref01_One.j0 kq x47_2 a0_0 a0_1 a0_2 l0_3 a0_4 a0_5 l0_6 a1_0 a1_1 a1_2 l1_3 a1_4 a1_5 l1_6 = some r) ∧ Aside0 (kq ≤ k) ∧ Aside0 (wc.heap[gb136]? = some (.cells #[.int .i64 a0_0, .int .i64 a0_1, .int .i64 a0_2, (.slice A0_3 l0_3.length c0_3), .int .i64 a0_4, .int .i64 a0_5, (.slice A0_6 l0_6.length c0_6)] 49 (0, 0))) ∧ Aside0 (wc.heap[gb137]? = some (.cells #[.int .i64 a1_0, .int .i64 a1_1, .int .i64 a1_2, (.slice A1_3 l1_3.length c1_3), .int .i64 a1_4, .int .i64 a1_5, (.slice A1_6 l1_6.length c1_6)] 49 (0, 0))) ∧ Aside0 (Below w.heap.size w wc))
 case first =>
  have H := HC3.out
  clear HC3
  by_cases c6 : a0_0 = a1_0
  ·rw [if_pos c6] at H
   have c6b0 : (a0_0 == a1_0) = true := beq_iff_eq.mpr c6
   have c6b1 : (a0_0 != a1_0) = false := bne_eq_false_iff_eq.mpr c6
   clear c6
   (first | rw [c6b0] | (simp only [i64_w, i32_w]; rw [c6b0]) | skip)
   by_cases c7 : a0_1 = a1_1
   ·rw [if_pos c7] at H
    have c7b0 : (a0_1 == a1_1) = true := beq_iff_eq.mpr c7
    have c7b1 : (a0_1 != a1_1) = false := bne_eq_false_iff_eq.mpr c7
    clear c7
    by_cases c8 : a0_2 = a1_2
    ·rw [if_pos c8] at H
     have c8b0 : (a0_2 == a1_2) = true := beq_iff_eq.mpr c8
     have c8b1 : (a0_2 != a1_2) = false := bne_eq_false_iff_eq.mpr c8
     clear c8
     by_cases c9 : a0_4 = a1_4
     ·rw [if_pos c9] at H
      have c9b0 : (a0_4 == a1_4) = true := beq_iff_eq.mpr c9
      have c9b1 : (a0_4 != a1_4) = false := bne_eq_false_iff_eq.mpr c9
      clear c9
      by_cases c10 : a0_5 = a1_5
      ·rw [if_pos c10] at H
       have c10b0 : (a0_5 == a1_5) = true := beq_iff_eq.mpr c10
       have c10b1 : (a0_5 != a1_5) = false := bne_eq_false_iff_eq.mpr c10
       clear c10
       have H' := Aside0.mk H
       clear H
       have hnb11 := NB136_137.out
       have hnc11 := NB137_136.out
       have hcz12_0 : w5.cell? ⟨gb136, 0, none⟩ = some (.int .i64 a0_0) := (blk_cell BK136.out 0).trans rfl
       have hcz12_1 : w5.cell? ⟨gb136, 1, none⟩ = some (.int .i64 a0_1) := (blk_cell BK136.out 1).trans rfl
       have hcz12_2 : w5.cell? ⟨gb136, 2, none⟩ = some (.int .i64 a0_2) := (blk_cell BK136.out 2).trans rfl
       have hcz12_3 : w5.cell? ⟨gb136, 3, none⟩ = some (.slice A0_3 l0_3.length c0_3) := (blk_cell BK136.out 3).trans rfl
       have hcz12_4 : w5.cell? ⟨gb136, 4, none⟩ = some (.int .i64 a0_4) := (blk_cell BK136.out 4).trans rfl
       have hcz12_5 : w5.cell? ⟨gb136, 5, none⟩ = some (.int .i64 a0_5) := (blk_cell BK136.out 5).trans rfl
       have hcz12_6 : w5.cell? ⟨gb136, 6, none⟩ = some (.slice A0_6 l0_6.length c0_6) := (blk_cell BK136.out 6).trans rfl
       have hfz12_0 := blk_frozen BK136.out 0
       have hfz12_1 := blk_frozen BK136.out 1
       have hfz12_2 := blk_frozen BK136.out 2
       have hfz12_3 := blk_frozen BK136.out 3
       have hfz12_4 := blk_frozen BK136.out 4
       have hfz12_5 := blk_frozen BK136.out 5
       have hfz12_6 := blk_frozen BK136.out 6
       have hcz13_0 : w5.cell? ⟨gb137, 0, none⟩ = some (.int .i64 a1_0) := (blk_cell BK137.out 0).trans rfl
       have hcz13_1 : w5.cell? ⟨gb137, 1, none⟩ = some (.int .i64 a1_1) := (blk_cell BK137.out 1).trans rfl
       have hcz13_2 : w5.cell? ⟨gb137, 2, none⟩ = some (.int .i64 a1_2) := (blk_cell BK137.out 2).trans rfl
       have hcz13_3 : w5.cell? ⟨gb137, 3, none⟩ = some (.slice A1_3 l1_3.length c1_3) := (blk_cell BK137.out 3).trans rfl
       have hcz13_4 : w5.cell? ⟨gb137, 4, none⟩ = some (.int .i64 a1_4) := (blk_cell BK137.out 4).trans rfl
       have hcz13_5 : w5.cell? ⟨gb137, 5, none⟩ = some (.int .i64 a1_5) := (blk_cell BK137.out 5).trans rfl
       have hcz13_6 : w5.cell? ⟨gb137, 6, none⟩ = some (.slice A1_6 l1_6.length c1_6) := (blk_cell BK137.out 6).trans rfl
       have hfz13_0 := blk_frozen BK137.out 0
       have hfz13_1 := blk_frozen BK137.out 1
       have hfz13_2 := blk_frozen BK137.out 2
       have hfz13_3 := blk_frozen BK137.out 3
       have hfz13_4 := blk_frozen BK137.out 4
       have hfz13_5 := blk_frozen BK137.out 5
       have hfz13_6 := blk_frozen BK137.out 6
       go_wp2
       repeat (go_quiet (fail); try go_wp2)
       go_meet
       case rel => exact ⟨_, (((l0_6.length : Int) != (l1_6.length : Int))), (by first | rfl | (simp; done) | (simp [*]; done)), H', ⟨by first | omega | exact Nat.le_refl _⟩, ⟨blkx_ BK136.out⟩, ⟨blkx_ BK137.out⟩, ⟨by repeat (first | (with_reducible first | exact HB.out | apply below_alloc | apply pw_below_drewN | apply below_drew1 | refine below_set ?_ GE136.out | refine below_set ?_ GE137.out) | exact HB.out)⟩⟩
      ·rw [if_neg c10] at H
       have c10b0 : (a0_5 == a1_5) = false := beq_eq_false_iff_ne.mpr c10
       have c10b1 : (a0_5 != a1_5) = true := bne_iff_ne.mpr c10
       have H' := Aside0.mk H
       clear H
       have hnb14 := NB136_137.out
       have hnc14 := NB137_136.out
       have hcz15_0 : w5.cell? ⟨gb136, 0, none⟩ = some (.int .i64 a0_0) := (blk_cell BK136.out 0).trans rfl
       have hcz15_1 : w5.cell? ⟨gb136, 1, none⟩ = some (.int .i64 a0_1) := (blk_cell BK136.out 1).trans rfl
       have hcz15_2 : w5.cell? ⟨gb136, 2, none⟩ = some (.int .i64 a0_2) := (blk_cell BK136.out 2).trans rfl
       have hcz15_3 : w5.cell? ⟨gb136, 3, none⟩ = some (.slice A0_3 l0_3.length c0_3) := (blk_cell BK136.out 3).trans rfl
       have hcz15_4 : w5.cell? ⟨gb136, 4, none⟩ = some (.int .i64 a0_4) := (blk_cell BK136.out 4).trans rfl
       have hcz15_5 : w5.cell? ⟨gb136, 5, none⟩ = some (.int .i64 a0_5) := (blk_cell BK136.out 5).trans rfl
       have hcz15_6 : w5.cell? ⟨gb136, 6, none⟩ = some (.slice A0_6 l0_6.length c0_6) := (blk_cell BK136.out 6).trans rfl
       have hfz15_0 := blk_frozen BK136.out 0
       have hfz15_1 := blk_frozen BK136.out 1
       have hfz15_2 := blk_frozen BK136.out 2
       have hfz15_3 := blk_frozen BK136.out 3
       have hfz15_4 := blk_frozen BK136.out 4
       have hfz15_5 := blk_frozen BK136.out 5
       have hfz15_6 := blk_frozen BK136.out 6
       have hcz16_0 : w5.cell? ⟨gb137, 0, none⟩ = some (.int .i64 a1_0) := (blk_cell BK137.out 0).trans rfl
       have hcz16_1 : w5.cell? ⟨gb137, 1, none⟩ = some (.int .i64 a1_1) := (blk_cell BK137.out 1).trans rfl
       have hcz16_2 : w5.cell? ⟨gb137, 2, none⟩ = some (.int .i64 a1_2) := (blk_cell BK137.out 2).trans rfl
       have hcz16_3 : w5.cell? ⟨gb137, 3, none⟩ = some (.slice A1_3 l1_3.length c1_3) := (blk_cell BK137.out 3).trans rfl
       have hcz16_4 : w5.cell? ⟨gb137, 4, none⟩ = some (.int .i64 a1_4) := (blk_cell BK137.out 4).trans rfl
       have hcz16_5 : w5.cell? ⟨gb137, 5, none⟩ = some (.int .i64 a1_5) := (blk_cell BK137.out 5).trans rfl
       have hcz16_6 : w5.cell? ⟨gb137, 6, none⟩ = some (.slice A1_6 l1_6.length c1_6) := (blk_cell BK137.out 6).trans rfl
       have hfz16_0 := blk_frozen BK137.out 0
       have hfz16_1 := blk_frozen BK137.out 1
       have hfz16_2 := blk_frozen BK137.out 2
       have hfz16_3 := blk_frozen BK137.out 3
       have hfz16_4 := blk_frozen BK137.out 4
       have hfz16_5 := blk_frozen BK137.out 5
       have hfz16_6 := blk_frozen BK137.out 6
       go_wp2
       repeat (go_quiet (fail); try go_wp2)
       go_meet
       case rel => exact ⟨_, (true), (by first | rfl | (simp; done) | (simp [*]; done)), H', ⟨by first | omega | exact Nat.le_refl _⟩, ⟨blkx_ BK136.out⟩, ⟨blkx_ BK137.out⟩, ⟨by repeat (first | (with_reducible first | exact HB.out | apply below_alloc | apply pw_below_drewN | apply below_drew1 | refine below_set ?_ GE136.out | refine below_set ?_ GE137.out) | exact HB.out)⟩⟩
     ·rw [if_neg c9] at H
      have c9b0 : (a0_4 == a1_4) = false := beq_eq_false_iff_ne.mpr c9
      have c9b1 : (a0_4 != a1_4) = true := bne_iff_ne.mpr c9
      have H' := Aside0.mk H
      clear H
      have hnb17 := NB136_137.out
      have hnc17 := NB137_136.out
      have hcz18_0 : w5.cell? ⟨gb136, 0, none⟩ = some (.int .i64 a0_0) := (blk_cell BK136.out 0).trans rfl
      have hcz18_1 : w5.cell? ⟨gb136, 1, none⟩ = some (.int .i64 a0_1) := (blk_cell BK136.out 1).trans rfl
      have hcz18_2 : w5.cell? ⟨gb136, 2, none⟩ = some (.int .i64 a0_2) := (blk_cell BK136.out 2).trans rfl
      have hcz18_3 : w5.cell? ⟨gb136, 3, none⟩ = some (.slice A0_3 l0_3.length c0_3) := (blk_cell BK136.out 3).trans rfl
      have hcz18_4 : w5.cell? ⟨gb136, 4, none⟩ = some (.int .i64 a0_4) := (blk_cell BK136.out 4).trans rfl
      have hcz18_5 : w5.cell? ⟨gb136, 5, none⟩ = some (.int .i64 a0_5) := (blk_cell BK136.out 5).trans rfl
      have hcz18_6 : w5.cell? ⟨gb136, 6, none⟩ = some (.slice A0_6 l0_6.length c0_6) := (blk_cell BK136.out 6).trans rfl
      have hfz18_0 := blk_frozen BK136.out 0
      have hfz18_1 := blk_frozen BK136.out 1
      have hfz18_2 := blk_frozen BK136.out 2
      have hfz18_3 := blk_frozen BK136.out 3
      have hfz18_4 := blk_frozen BK136.out 4
      have hfz18_5 := blk_frozen BK136.out 5
      have hfz18_6 := blk_frozen BK136.out 6
      have hcz19_0 : w5.cell? ⟨gb137, 0, none⟩ = some (.int .i64 a1_0) := (blk_cell BK137.out 0).trans rfl
      have hcz19_1 : w5.cell? ⟨gb137, 1, none⟩ = some (.int .i64 a1_1) := (blk_cell BK137.out 1).trans rfl
      have hcz19_2 : w5.cell? ⟨gb137, 2, none⟩ = some (.int .i64 a1_2) := (blk_cell BK137.out 2).trans rfl
      have hcz19_3 : w5.cell? ⟨gb137, 3, none⟩ = some (.slice A1_3 l1_3.length c1_3) := (blk_cell BK137.out 3).trans rfl
      have hcz19_4 : w5.cell? ⟨gb137, 4, none⟩ = some (.int .i64 a1_4) := (blk_cell BK137.out 4).trans rfl
      have hcz19_5 : w5.cell? ⟨gb137, 5, none⟩ = some (.int .i64 a1_5) := (blk_cell BK137.out 5).trans rfl
      have hcz19_6 : w5.cell? ⟨gb137, 6, none⟩ = some (.slice A1_6 l1_6.length c1_6) := (blk_cell BK137.out 6).trans rfl
      have hfz19_0 := blk_frozen BK137.out 0
      have hfz19_1 := blk_frozen BK137.out 1
      have hfz19_2 := blk_frozen BK137.out 2
      have hfz19_3 := blk_frozen BK137.out 3
      have hfz19_4 := blk_frozen BK137.out 4
      have hfz19_5 := blk_frozen BK137.out 5
      have hfz19_6 := blk_frozen BK137.out 6
      go_wp2
      repeat (go_quiet (fail); try go_wp2)
      go_meet
      case rel => exact ⟨_, (true), (by first | rfl | (simp; done) | (simp [*]; done)), H', ⟨by first | omega | exact Nat.le_refl _⟩, ⟨blkx_ BK136.out⟩, ⟨blkx_ BK137.out⟩, ⟨by repeat (first | (with_reducible first | exact HB.out | apply below_alloc | apply pw_below_drewN | apply below_drew1 | refine below_set ?_ GE136.out | refine below_set ?_ GE137.out) | exact HB.out)⟩⟩
    ·rw [if_neg c8] at H
     have c8b0 : (a0_2 == a1_2) = false := beq_eq_false_iff_ne.mpr c8
     have c8b1 : (a0_2 != a1_2) = true := bne_iff_ne.mpr c8
     have H' := Aside0.mk H
     clear H
     have hnb20 := NB136_137.out
     have hnc20 := NB137_136.out
     have hcz21_0 : w5.cell? ⟨gb136, 0, none⟩ = some (.int .i64 a0_0) := (blk_cell BK136.out 0).trans rfl
     have hcz21_1 : w5.cell? ⟨gb136, 1, none⟩ = some (.int .i64 a0_1) := (blk_cell BK136.out 1).trans rfl
     have hcz21_2 : w5.cell? ⟨gb136, 2, none⟩ = some (.int .i64 a0_2) := (blk_cell BK136.out 2).trans rfl
     have hcz21_3 : w5.cell? ⟨gb136, 3, none⟩ = some (.slice A0_3 l0_3.length c0_3) := (blk_cell BK136.out 3).trans rfl
     have hcz21_4 : w5.cell? ⟨gb136, 4, none⟩ = some (.int .i64 a0_4) := (blk_cell BK136.out 4).trans rfl
     have hcz21_5 : w5.cell? ⟨gb136, 5, none⟩ = some (.int .i64 a0_5) := (blk_cell BK136.out 5).trans rfl
     have hcz21_6 : w5.cell? ⟨gb136, 6, none⟩ = some (.slice A0_6 l0_6.length c0_6) := (blk_cell BK136.out 6).trans rfl
     have hfz21_0 := blk_frozen BK136.out 0
     have hfz21_1 := blk_frozen BK136.out 1
     have hfz21_2 := blk_frozen BK136.out 2
     have hfz21_3 := blk_frozen BK136.out 3
     have hfz21_4 := blk_frozen BK136.out 4
     have hfz21_5 := blk_frozen BK136.out 5
     have hfz21_6 := blk_frozen BK136.out 6
     have hcz22_0 : w5.cell? ⟨gb137, 0, none⟩ = some (.int .i64 a1_0) := (blk_cell BK137.out 0).trans rfl
     have hcz22_1 : w5.cell? ⟨gb137, 1, none⟩ = some (.int .i64 a1_1) := (blk_cell BK137.out 1).trans rfl
     have hcz22_2 : w5.cell? ⟨gb137, 2, none⟩ = some (.int .i64 a1_2) := (blk_cell BK137.out 2).trans rfl
     have hcz22_3 : w5.cell? ⟨gb137, 3, none⟩ = some (.slice A1_3 l1_3.length c1_3) := (blk_cell BK137.out 3).trans rfl
     have hcz22_4 : w5.cell? ⟨gb137, 4, none⟩ = some (.int .i64 a1_4) := (blk_cell BK137.out 4).trans rfl
     have hcz22_5 : w5.cell? ⟨gb137, 5, none⟩ = some (.int .i64 a1_5) := (blk_cell BK137.out 5).trans rfl
     have hcz22_6 : w5.cell? ⟨gb137, 6, none⟩ = some (.slice A1_6 l1_6.length c1_6) := (blk_cell BK137.out 6).trans rfl
     have hfz22_0 := blk_frozen BK137.out 0
     have hfz22_1 := blk_frozen BK137.out 1
     have hfz22_2 := blk_frozen BK137.out 2
     have hfz22_3 := blk_frozen BK137.out 3
     have hfz22_4 := blk_frozen BK137.out 4
     have hfz22_5 := blk_frozen BK137.out 5
     have hfz22_6 := blk_frozen BK137.out 6
     go_wp2
     repeat (go_quiet (fail); try go_wp2)
     go_meet
     case rel => exact ⟨_, (true), (by first | rfl | (simp; done) | (simp [*]; done)), H', ⟨by first | omega | exact Nat.le_refl _⟩, ⟨blkx_ BK136.out⟩, ⟨blkx_ BK137.out⟩, ⟨by repeat (first | (with_reducible first | exact HB.out | apply below_alloc | apply pw_below_drewN | apply below_drew1 | refine below_set ?_ GE136.out | refine below_set ?_ GE137.out) | exact HB.out)⟩⟩
   ·rw [if_neg c7] at H
    have c7b0 : (a0_1 == a1_1) = false := beq_eq_false_iff_ne.mpr c7
    have c7b1 : (a0_1 != a1_1) = true := bne_iff_ne.mpr c7
    have H' := Aside0.mk H
    clear H
    have hnb23 := NB136_137.out
    have hnc23 := NB137_136.out
    have hcz24_0 : w5.cell? ⟨gb136, 0, none⟩ = some (.int .i64 a0_0) := (blk_cell BK136.out 0).trans rfl
    have hcz24_1 : w5.cell? ⟨gb136, 1, none⟩ = some (.int .i64 a0_1) := (blk_cell BK136.out 1).trans rfl
    have hcz24_2 : w5.cell? ⟨gb136, 2, none⟩ = some (.int .i64 a0_2) := (blk_cell BK136.out 2).trans rfl
    have hcz24_3 : w5.cell? ⟨gb136, 3, none⟩ = some (.slice A0_3 l0_3.length c0_3) := (blk_cell BK136.out 3).trans rfl
    have hcz24_4 : w5.cell? ⟨gb136, 4, none⟩ = some (.int .i64 a0_4) := (blk_cell BK136.out 4).trans rfl
    have hcz24_5 : w5.cell? ⟨gb136, 5, none⟩ = some (.int .i64 a0_5) := (blk_cell BK136.out 5).trans rfl
    have hcz24_6 : w5.cell? ⟨gb136, 6, none⟩ = some (.slice A0_6 l0_6.length c0_6) := (blk_cell BK136.out 6).trans rfl
    have hfz24_0 := blk_frozen BK136.out 0
    have hfz24_1 := blk_frozen BK136.out 1
    have hfz24_2 := blk_frozen BK136.out 2
    have hfz24_3 := blk_frozen BK136.out 3
    have hfz24_4 := blk_frozen BK136.out 4
    have hfz24_5 := blk_frozen BK136.out 5
    have hfz24_6 := blk_frozen BK136.out 6
    have hcz25_0 : w5.cell? ⟨gb137, 0, none⟩ = some (.int .i64 a1_0) := (blk_cell BK137.out 0).trans rfl
    have hcz25_1 : w5.cell? ⟨gb137, 1, none⟩ = some (.int .i64 a1_1) := (blk_cell BK137.out 1).trans rfl
    have hcz25_2 : w5.cell? ⟨gb137, 2, none⟩ = some (.int .i64 a1_2) := (blk_cell BK137.out 2).trans rfl
    have hcz25_3 : w5.cell? ⟨gb137, 3, none⟩ = some (.slice A1_3 l1_3.length c1_3) := (blk_cell BK137.out 3).trans rfl
    have hcz25_4 : w5.cell? ⟨gb137, 4, none⟩ = some (.int .i64 a1_4) := (blk_cell BK137.out 4).trans rfl
    have hcz25_5 : w5.cell? ⟨gb137, 5, none⟩ = some (.int .i64 a1_5) := (blk_cell BK137.out 5).trans rfl
    have hcz25_6 : w5.cell? ⟨gb137, 6, none⟩ = some (.slice A1_6 l1_6.length c1_6) := (blk_cell BK137.out 6).trans rfl
    have hfz25_0 := blk_frozen BK137.out 0
    have hfz25_1 := blk_frozen BK137.out 1
    have hfz25_2 := blk_frozen BK137.out 2
    have hfz25_3 := blk_frozen BK137.out 3
    have hfz25_4 := blk_frozen BK137.out 4
    have hfz25_5 := blk_frozen BK137.out 5
    have hfz25_6 := blk_frozen BK137.out 6
    go_wp2
    repeat (go_quiet (fail); try go_wp2)
    go_meet
    case rel => exact ⟨_, (true), (by first | rfl | (simp; done) | (simp [*]; done)), H', ⟨by first | omega | exact Nat.le_refl _⟩, ⟨blkx_ BK136.out⟩, ⟨blkx_ BK137.out⟩, ⟨by repeat (first | (with_reducible first | exact HB.out | apply below_alloc | apply pw_below_drewN | apply below_drew1 | refine below_set ?_ GE136.out | refine below_set ?_ GE137.out) | exact HB.out)⟩⟩
  ·rw [if_neg c6] at H
   have c6b0 : (a0_0 == a1_0) = false := beq_eq_false_iff_ne.mpr c6
   have c6b1 : (a0_0 != a1_0) = true := bne_iff_ne.mpr c6
   (first | rw [c6b0] | (simp only [i64_w, i32_w]; rw [c6b0]) | skip)
   have H' := Aside0.mk H
   clear H
   have hnb26 := NB136_137.out
   have hnc26 := NB137_136.out
   have hcz27_0 : w5.cell? ⟨gb136, 0, none⟩ = some (.int .i64 a0_0) := (blk_cell BK136.out 0).trans rfl
   have hcz27_1 : w5.cell? ⟨gb136, 1, none⟩ = some (.int .i64 a0_1) := (blk_cell BK136.out 1).trans rfl
   have hcz27_2 : w5.cell? ⟨gb136, 2, none⟩ = some (.int .i64 a0_2) := (blk_cell BK136.out 2).trans rfl
   have hcz27_3 : w5.cell? ⟨gb136, 3, none⟩ = some (.slice A0_3 l0_3.length c0_3) := (blk_cell BK136.out 3).trans rfl
   have hcz27_4 : w5.cell? ⟨gb136, 4, none⟩ = some (.int .i64 a0_4) := (blk_cell BK136.out 4).trans rfl
   have hcz27_5 : w5.cell? ⟨gb136, 5, none⟩ = some (.int .i64 a0_5) := (blk_cell BK136.out 5).trans rfl
   have hcz27_6 : w5.cell? ⟨gb136, 6, none⟩ = some (.slice A0_6 l0_6.length c0_6) := (blk_cell BK136.out 6).trans rfl
   have hfz27_0 := blk_frozen BK136.out 0
   have hfz27_1 := blk_frozen BK136.out 1
   have hfz27_2 := blk_frozen BK136.out 2
   have hfz27_3 := blk_frozen BK136.out 3
   have hfz27_4 := blk_frozen BK136.out 4
   have hfz27_5 := blk_frozen BK136.out 5
   have hfz27_6 := blk_frozen BK136.out 6
   have hcz28_0 : w5.cell? ⟨gb137, 0, none⟩ = some (.int .i64 a1_0) := (blk_cell BK137.out 0).trans rfl
   have hcz28_1 : w5.cell? ⟨gb137, 1, none⟩ = some (.int .i64 a1_1) := (blk_cell BK137.out 1).trans rfl
   have hcz28_2 : w5.cell? ⟨gb137, 2, none⟩ = some (.int .i64 a1_2) := (blk_cell BK137.out 2).trans rfl
   have hcz28_3 : w5.cell? ⟨gb137, 3, none⟩ = some (.slice A1_3 l1_3.length c1_3) := (blk_cell BK137.out 3).trans rfl
   have hcz28_4 : w5.cell? ⟨gb137, 4, none⟩ = some (.int .i64 a1_4) := (blk_cell BK137.out 4).trans rfl
   have hcz28_5 : w5.cell? ⟨gb137, 5, none⟩ = some (.int .i64 a1_5) := (blk_cell BK137.out 5).trans rfl
   have hcz28_6 : w5.cell? ⟨gb137, 6, none⟩ = some (.slice A1_6 l1_6.length c1_6) := (blk_cell BK137.out 6).trans rfl
   have hfz28_0 := blk_frozen BK137.out 0
   have hfz28_1 := blk_frozen BK137.out 1
   have hfz28_2 := blk_frozen BK137.out 2
   have hfz28_3 := blk_frozen BK137.out 3
   have hfz28_4 := blk_frozen BK137.out 4
   have hfz28_5 := blk_frozen BK137.out 5
   have hfz28_6 := blk_frozen BK137.out 6
   go_wp2
   repeat (go_quiet (fail); try go_wp2)
   go_meet
   case rel => exact ⟨_, (true), (by first | rfl | (simp; done) | (simp [*]; done)), H', ⟨by first | omega | exact Nat.le_refl _⟩, ⟨blkx_ BK136.out⟩, ⟨blkx_ BK137.out⟩, ⟨by repeat (first | (with_reducible first | exact HB.out | apply below_alloc | apply pw_below_drewN | apply below_drew1 | refine below_set ?_ GE136.out | refine below_set ?_ GE137.out) | exact HB.out)⟩⟩
 case rest =>
  clear HC3
  try clear c1
  try clear c2
  try clear p2
  try clear c6
  try clear c6b0
  try clear c6b1
  try clear c7
  try clear c7b0
  try clear c7b1
  try clear c8
  try clear c8b0
  try clear c8b1
  try clear c9
  try clear c9b0
  try clear c9b1
  try clear c10
  try clear c10b0
  try clear c10b1
  try clear c11
  try clear c14
  try clear c17
  try clear c20
  try clear c23
  try clear c26
  try clear hcz12_0
  try clear hcz12_1
  try clear hcz12_2
  try clear hcz12_3
  try clear hcz12_4
  try clear hcz12_5
  try clear hcz12_6
  try clear hcz13_0
  try clear hcz13_1
  try clear hcz13_2
  try clear hcz13_3
  try clear hcz13_4
  try clear hcz13_5
  try clear hcz13_6
  try clear hcz15_0
  try clear hcz15_1
  try clear hcz15_2
  try clear hcz15_3
  try clear hcz15_4
  try clear hcz15_5
  try clear hcz15_6
  try clear hcz16_0
  try clear hcz16_1
  try clear hcz16_2
  try clear hcz16_3
  try clear hcz16_4
  try clear hcz16_5
  try clear hcz16_6
  try clear hcz18_0
  try clear hcz18_1
  try clear hcz18_2
  try clear hcz18_3
  try clear hcz18_4
  try clear hcz18_5
  try clear hcz18_6
  try clear hcz19_0
  try clear hcz19_1
  try clear hcz19_2
  try clear hcz19_3
  try clear hcz19_4
  try clear hcz19_5
  try clear hcz19_6
  try clear hcz21_0
  try clear hcz21_1
  try clear hcz21_2
  try clear hcz21_3
  try clear hcz21_4
  try clear hcz21_5
  try clear hcz21_6
  try clear hcz22_0
  try clear hcz22_1
  try clear hcz22_2
  try clear hcz22_3
  try clear hcz22_4
  try clear hcz22_5
  try clear hcz22_6
  try clear hcz24_0
  try clear hcz24_1
  try clear hcz24_2
  try clear hcz24_3
  try clear hcz24_4
  try clear hcz24_5
  try clear hcz24_6
  try clear hcz25_0
  try clear hcz25_1
  try clear hcz25_2
  try clear hcz25_3
  try clear hcz25_4
  try clear hcz25_5
  try clear hcz25_6
  try clear hcz27_0
  try clear hcz27_1
  try clear hcz27_2
  try clear hcz27_3
  try clear hcz27_4
  try clear hcz27_5
  try clear hcz27_6
  try clear hcz28_0
  try clear hcz28_1
  try clear hcz28_2
  try clear hcz28_3
  try clear hcz28_4
  try clear hcz28_5
  try clear hcz28_6
  try clear hfz12_0
  try clear hfz12_1
  try clear hfz12_2
  try clear hfz12_3
  try clear hfz12_4
  try clear hfz12_5
  try clear hfz12_6
  try clear hfz13_0
  try clear hfz13_1
  try clear hfz13_2
  try clear hfz13_3
  try clear hfz13_4
  try clear hfz13_5
  try clear hfz13_6
  try clear hfz15_0
  try clear hfz15_1
  try clear hfz15_2
  try clear hfz15_3
  try clear hfz15_4
  try clear hfz15_5
  try clear hfz15_6
  try clear hfz16_0
  try clear hfz16_1
  try clear hfz16_2
  try clear hfz16_3
  try clear hfz16_4
  try clear hfz16_5
  try clear hfz16_6
  try clear hfz18_0
  try clear hfz18_1
  try clear hfz18_2
  try clear hfz18_3
  try clear hfz18_4
  try clear hfz18_5
  try clear hfz18_6
  try clear hfz19_0
  try clear hfz19_1
  try clear hfz19_2
  try clear hfz19_3
  try clear hfz19_4
  try clear hfz19_5
  try clear hfz19_6
  try clear hfz21_0
  try clear hfz21_1
  try clear hfz21_2
  try clear hfz21_3
  try clear hfz21_4
  try clear hfz21_5
  try clear hfz21_6
  try clear hfz22_0
  try clear hfz22_1
  try clear hfz22_2
  try clear hfz22_3
  try clear hfz22_4
  try clear hfz22_5
  try clear hfz22_6
  try clear hfz24_0
  try clear hfz24_1
  try clear hfz24_2
  try clear hfz24_3
  try clear hfz24_4
  try clear hfz24_5
  try clear hfz24_6
  try clear hfz25_0
  try clear hfz25_1
  try clear hfz25_2
  try clear hfz25_3
  try clear hfz25_4
  try clear hfz25_5
  try clear hfz25_6
  try clear hfz27_0
  try clear hfz27_1
  try clear hfz27_2
  try clear hfz27_3
  try clear hfz27_4
  try clear hfz27_5
  try clear hfz27_6
  try clear hfz28_0
  try clear hfz28_1
  try clear hfz28_2
  try clear hfz28_3
  try clear hfz28_4
  try clear hfz28_5
  try clear hfz28_6
  obtain ⟨kq, x47_2, rfl, HA, HJ2, BK136, BK137, HB⟩ := hcut
  cases kq with
  | zero => exact absurd HA.out (by simp [limelightref01_One.j0])
  | succ kj2 =>
   have H := HA.out
   clear HA
   simp only [limelightref01_One.j0] at H
   by_cases c29 : x47_2 = true
   ·subst c29
    have H1 : (some false) = some r := by rw [if_pos rfl] at H; exact H
    clear H
    have H := H1
    clear H1
    obtain rfl := Option.some.inj H
    go_wp2
    repeat (go_quiet (fail); try go_wp2)
    go_ret
    exact ⟨by first | rfl | (simp [errW_none, errW_some] <;> rfl) | (simp [*, errW_none, errW_some] <;> rfl), by repeat (first | (with_reducible first | exact HB.out | apply below_alloc | apply pw_below_drewN | apply below_drew1 | refine below_set ?_ GE136.out | refine below_set ?_ GE137.out) | exact HB.out)⟩
   ·replace c29 := Bool.eq_false_iff.mpr c29
    subst c29
    have H1 : (limelightref01_One.l0 kj2 0 a0_0 a0_1 a0_2 l0_3 a0_4 a0_5 l0_6 a1_0 a1_1 a1_2 l1_3 a1_4 a1_5 l1_6) = some r := by rw [if_neg (show ¬ (false = true) by decide)] at H; exact H
    clear H
    have H := H1
    clear H1
    have H' := Aside0.mk H
    clear H
    go_wp2
    repeat (go_quiet (fail); try go_wp2)
    go_loopg [5] kj2 (fun kq v5 w' => ∃ (x5_2 : Int), v5 = .int .i64 x5_2 ∧ Aside0 (limelightref01_One.l0 kq x5_2 a0_0 a0_1 a0_2 l0_3 a0_4 a0_5 l0_6 a1_0 a1_1 a1_2 l1_3 a1_4 a1_5 l1_6 = some r) ∧ Aside0 (kq ≤ kj2) ∧ Aside0 (w'.heap[gb136]? = some (.cells #[.int .i64 a0_0, .int .i64 a0_1, .int .i64 a0_2, (.slice A0_3 l0_3.length c0_3), .int .i64 a0_4, .int .i64 a0_5, (.slice A0_6 l0_6.length c0_6)] 49 (0, 0))) ∧ Aside0 (w'.heap[gb137]? = some (.cells #[.int .i64 a1_0, .int .i64 a1_1, .int .i64 a1_2, (.slice A1_3 l1_3.length c1_3), .int .i64 a1_4, .int .i64 a1_5, (.slice A1_6 l1_6.length c1_6)] 49 (0, 0))) ∧ Aside0 (Below w.heap.size w w'))
    case atStart => exact ⟨(0), (by first | rfl | (simp; done) | (simp [*]; done)), H', ⟨Nat.le_refl _⟩, ⟨blkx_ BK136.out⟩, ⟨blkx_ BK137.out⟩, ⟨by repeat (first | (with_reducible first | exact HB.out | apply below_alloc | apply pw_below_drewN | apply below_drew1 | refine below_set ?_ GE136.out | refine below_set ?_ GE137.out) | exact HB.out)⟩⟩
    case round =>
     clear H'
     try clear c1
     try clear c2
     try clear p2
     try clear c6
     try clear c6b0
     try clear c6b1
     try clear c7
     try clear c7b0
     try clear c7b1
     try clear c8
     try clear c8b0
     try clear c8b1
     try clear c9
     try clear c9b0
     try clear c9b1
     try clear c10
     try clear c10b0
     try clear c10b1
     try clear c11
     try clear c14
     try clear c17
     try clear c20
     try clear c23
     try clear c26
     try clear c29
     try clear hcz12_0
     try clear hcz12_1
     try clear hcz12_2
     try clear hcz12_3
     try clear hcz12_4
     try clear hcz12_5
     try clear hcz12_6
     try clear hcz13_0
     try clear hcz13_1
     try clear hcz13_2
     try clear hcz13_3
     try clear hcz13_4
     try clear hcz13_5
     try clear hcz13_6
     try clear hcz15_0
     try clear hcz15_1
     try clear hcz15_2
     try clear hcz15_3
     try clear hcz15_4
     try clear hcz15_5
     try clear hcz15_6
     try clear hcz16_0
     try clear hcz16_1
     try clear hcz16_2
     try clear hcz16_3
     try clear hcz16_4
     try clear hcz16_5
     try clear hcz16_6
     try clear hcz18_0
     try clear hcz18_1
     try clear hcz18_2
     try clear hcz18_3
     try clear hcz18_4
     try clear hcz18_5
     try clear hcz18_6
     try clear hcz19_0
     try clear hcz19_1
     try clear hcz19_2
     try clear hcz19_3
     try clear hcz19_4
     try clear hcz19_5
     try clear hcz19_6
     try clear hcz21_0
     try clear hcz21_1
     try clear hcz21_2
     try clear hcz21_3
     try clear hcz21_4
     try clear hcz21_5
     try clear hcz21_6
     try clear hcz22_0
     try clear hcz22_1
     try clear hcz22_2
     try clear hcz22_3
     try clear hcz22_4
     try clear hcz22_5
     try clear hcz22_6
     try clear hcz24_0
     try clear hcz24_1
     try clear hcz24_2
     try clear hcz24_3
     try clear hcz24_4
     try clear hcz24_5
     try clear hcz24_6
     try clear hcz25_0
     try clear hcz25_1
     try clear hcz25_2
     try clear hcz25_3
     try clear hcz25_4
     try clear hcz25_5
     try clear hcz25_6
     try clear hcz27_0
     try clear hcz27_1
     try clear hcz27_2
     try clear hcz27_3
     try clear hcz27_4
     try clear hcz27_5
     try clear hcz27_6
     try clear hcz28_0
     try clear hcz28_1
     try clear hcz28_2
     try clear hcz28_3
     try clear hcz28_4
     try clear hcz28_5
     try clear hcz28_6
     try clear hfz12_0
     try clear hfz12_1
     try clear hfz12_2
     try clear hfz12_3
     try clear hfz12_4
     try clear hfz12_5
     try clear hfz12_6
     try clear hfz13_0
     try clear hfz13_1
     try clear hfz13_2
     try clear hfz13_3
     try clear hfz13_4
     try clear hfz13_5
     try clear hfz13_6
     try clear hfz15_0
     try clear hfz15_1
     try clear hfz15_2
     try clear hfz15_3
     try clear hfz15_4
     try clear hfz15_5
     try clear hfz15_6
     try clear hfz16_0
     try clear hfz16_1
     try clear hfz16_2
     try clear hfz16_3
     try clear hfz16_4
     try clear hfz16_5
     try clear hfz16_6
     try clear hfz18_0
     try clear hfz18_1
     try clear hfz18_2
     try clear hfz18_3
     try clear hfz18_4
     try clear hfz18_5
     try clear hfz18_6
     try clear hfz19_0
     try clear hfz19_1
     try clear hfz19_2
     try clear hfz19_3
     try clear hfz19_4
     try clear hfz19_5
     try clear hfz19_6
     try clear hfz21_0
     try clear hfz21_1
     try clear hfz21_2
     try clear hfz21_3
     try clear hfz21_4
     try clear hfz21_5
     try clear hfz21_6
     try clear hfz22_0
     try clear hfz22_1
     try clear hfz22_2
     try clear hfz22_3
     try clear hfz22_4
     try clear hfz22_5
     try clear hfz22_6
     try clear hfz24_0
     try clear hfz24_1
     try clear hfz24_2
     try clear hfz24_3
     try clear hfz24_4
     try clear hfz24_5
     try clear hfz24_6
     try clear hfz25_0
     try clear hfz25_1
     try clear hfz25_2
     try clear hfz25_3
     try clear hfz25_4
     try clear hfz25_5
     try clear hfz25_6
     try clear hfz27_0
     try clear hfz27_1
     try clear hfz27_2
     try clear hfz27_3
     try clear hfz27_4
     try clear hfz27_5
     try clear hfz27_6
     try clear hfz28_0
     try clear hfz28_1
     try clear hfz28_2
     try clear hfz28_3
     try clear hfz28_4
     try clear hfz28_5
     try clear hfz28_6
     try clear p2
     obtain ⟨x5_2, rfl, HA, HK2, BK136, BK137, HB⟩ := hrel
     cases gk with
     | zero => exact absurd HA.out (by simp [limelightref01_One.l0])
     | succ k2 =>
      have H := HA.out
      clear HA
      simp only [limelightref01_One.l0] at H
      by_cases c30 : x5_2 < (l0_6.length : Int)
      ·rw [if_pos c30] at H
       have c30b0 : decide (x5_2 < (l0_6.length : Int)) = true := decide_eq_true c30
       clear c30
       by_cases c31 : 0 ≤ x5_2
       ·rw [if_pos c31] at H
        have c31b0 : decide (0 ≤ x5_2) = true := decide_eq_true c31
        clear c31
        by_cases c32 : x5_2 < (l1_6.length : Int)
        ·rw [if_pos c32] at H
         have c32b0 : decide (x5_2 < (l1_6.length : Int)) = true := decide_eq_true c32
         clear c32
         by_cases c33 : (!(((rd_T65 l0_6 x5_2).f0) == ((rd_T65 l1_6 x5_2).f0)) || (!(((rd_T65 l0_6 x5_2).f1) == ((rd_T65 l1_6 x5_2).f1)))) = true
         ·rw [if_pos c33] at H
          have c33b0 : (!(((rd_T65 l0_6 x5_2).f0) == ((rd_T65 l1_6 x5_2).f0)) || (!(((rd_T65 l0_6 x5_2).f1) == ((rd_T65 l1_6 x5_2).f1)))) = true := c33
          clear c33
          obtain rfl := Option.some.inj H
          have hnb34 := NB136_137.out
          have hnc34 := NB137_136.out
          have hcz35_0 : wr.cell? ⟨gb136, 0, none⟩ = some (.int .i64 a0_0) := (blk_cell BK136.out 0).trans rfl
          have hcz35_1 : wr.cell? ⟨gb136, 1, none⟩ = some (.int .i64 a0_1) := (blk_cell BK136.out 1).trans rfl
          have hcz35_2 : wr.cell? ⟨gb136, 2, none⟩ = some (.int .i64 a0_2) := (blk_cell BK136.out 2).trans rfl
          have hcz35_3 : wr.cell? ⟨gb136, 3, none⟩ = some (.slice A0_3 l0_3.length c0_3) := (blk_cell BK136.out 3).trans rfl
          have hcz35_4 : wr.cell? ⟨gb136, 4, none⟩ = some (.int .i64 a0_4) := (blk_cell BK136.out 4).trans rfl
          have hcz35_5 : wr.cell? ⟨gb136, 5, none⟩ = some (.int .i64 a0_5) := (blk_cell BK136.out 5).trans rfl
          have hcz35_6 : wr.cell? ⟨gb136, 6, none⟩ = some (.slice A0_6 l0_6.length c0_6) := (blk_cell BK136.out 6).trans rfl
          have hfz35_0 := blk_frozen BK136.out 0
          have hfz35_1 := blk_frozen BK136.out 1
          have hfz35_2 := blk_frozen BK136.out 2
          have hfz35_3 := blk_frozen BK136.out 3
          have hfz35_4 := blk_frozen BK136.out 4
          have hfz35_5 := blk_frozen BK136.out 5
          have hfz35_6 := blk_frozen BK136.out 6
          have p138 : 0 ≤ (x5_2 : Int) := of_decide_eq_true asm_
          have q138 : x5_2 < (l0_6.length : Int) := of_decide_eq_true asm_
          obtain ⟨ad138, e138, hx138_0, hx138_1⟩ := at_T65 HR0_6.out x5_2 p138 q138
          cases e138
          replace hx138_0 := (HB.out.cell (World.block_lt_of_cell? w _ hx138_0)).trans hx138_0
          replace hx138_1 := (HB.out.cell (World.block_lt_of_cell? w _ hx138_1)).trans hx138_1
          replace p138 := eq_true p138
          replace q138 := eq_true q138
          have hcz36_0 : wr.cell? ⟨gb137, 0, none⟩ = some (.int .i64 a1_0) := (blk_cell BK137.out 0).trans rfl
          have hcz36_1 : wr.cell? ⟨gb137, 1, none⟩ = some (.int .i64 a1_1) := (blk_cell BK137.out 1).trans rfl
          have hcz36_2 : wr.cell? ⟨gb137, 2, none⟩ = some (.int .i64 a1_2) := (blk_cell BK137.out 2).trans rfl
          have hcz36_3 : wr.cell? ⟨gb137, 3, none⟩ = some (.slice A1_3 l1_3.length c1_3) := (blk_cell BK137.out 3).trans rfl
          have hcz36_4 : wr.cell? ⟨gb137, 4, none⟩ = some (.int .i64 a1_4) := (blk_cell BK137.out 4).trans rfl
          have hcz36_5 : wr.cell? ⟨gb137, 5, none⟩ = some (.int .i64 a1_5) := (blk_cell BK137.out 5).trans rfl
          have hcz36_6 : wr.cell? ⟨gb137, 6, none⟩ = some (.slice A1_6 l1_6.length c1_6) := (blk_cell BK137.out 6).trans rfl
          have hfz36_0 := blk_frozen BK137.out 0
          have hfz36_1 := blk_frozen BK137.out 1
          have hfz36_2 := blk_frozen BK137.out 2
          have hfz36_3 := blk_frozen BK137.out 3
          have hfz36_4 := blk_frozen BK137.out 4
          have hfz36_5 := blk_frozen BK137.out 5
          have hfz36_6 := blk_frozen BK137.out 6
          have p139 : 0 ≤ (x5_2 : Int) := of_decide_eq_true asm_
          have q139 : x5_2 < (l1_6.length : Int) := of_decide_eq_true asm_
          obtain ⟨ad139, e139, hx139_0, hx139_1⟩ := at_T65 HR1_6.out x5_2 p139 q139
          cases e139
          replace hx139_0 := (HB.out.cell (World.block_lt_of_cell? w _ hx139_0)).trans hx139_0
          replace hx139_1 := (HB.out.cell (World.block_lt_of_cell? w _ hx139_1)).trans hx139_1
          replace p139 := eq_true p139
          replace q139 := eq_true q139
          go_wp2
          repeat (go_quiet (fail); try go_wp2)
          go_ret
          exact ⟨by first | rfl | (simp [errW_none, errW_some] <;> rfl) | (simp [*, errW_none, errW_some] <;> rfl), by repeat (first | (with_reducible first | exact HB.out | apply below_alloc | apply pw_below_drewN | apply below_drew1 | refine below_set ?_ GE136.out | refine below_set ?_ GE137.out) | exact HB.out)⟩
         ·rw [if_neg c33] at H
          have c33b0 : (!(((rd_T65 l0_6 x5_2).f0) == ((rd_T65 l1_6 x5_2).f0)) || (!(((rd_T65 l0_6 x5_2).f1) == ((rd_T65 l1_6 x5_2).f1)))) = false := by simpa using c33
          clear c33
          have H' := Aside0.mk H
          clear H
          have hnb37 := NB136_137.out
          have hnc37 := NB137_136.out
          have hcz38_0 : wr.cell? ⟨gb136, 0, none⟩ = some (.int .i64 a0_0) := (blk_cell BK136.out 0).trans rfl
          have hcz38_1 : wr.cell? ⟨gb136, 1, none⟩ = some (.int .i64 a0_1) := (blk_cell BK136.out 1).trans rfl
          have hcz38_2 : wr.cell? ⟨gb136, 2, none⟩ = some (.int .i64 a0_2) := (blk_cell BK136.out 2).trans rfl
          have hcz38_3 : wr.cell? ⟨gb136, 3, none⟩ = some (.slice A0_3 l0_3.length c0_3) := (blk_cell BK136.out 3).trans rfl
          have hcz38_4 : wr.cell? ⟨gb136, 4, none⟩ = some (.int .i64 a0_4) := (blk_cell BK136.out 4).trans rfl
          have hcz38_5 : wr.cell? ⟨gb136, 5, none⟩ = some (.int .i64 a0_5) := (blk_cell BK136.out 5).trans rfl
          have hcz38_6 : wr.cell? ⟨gb136, 6, none⟩ = some (.slice A0_6 l0_6.length c0_6) := (blk_cell BK136.out 6).trans rfl
          have hfz38_0 := blk_frozen BK136.out 0
          have hfz38_1 := blk_frozen BK136.out 1
          have hfz38_2 := blk_frozen BK136.out 2
          have hfz38_3 := blk_frozen BK136.out 3
          have hfz38_4 := blk_frozen BK136.out 4
          have hfz38_5 := blk_frozen BK136.out 5
          have hfz38_6 := blk_frozen BK136.out 6
          have p138 : 0 ≤ (x5_2 : Int) := of_decide_eq_true asm_
          have q138 : x5_2 < (l0_6.length : Int) := of_decide_eq_true asm_
          obtain ⟨ad138, e138, hx138_0, hx138_1⟩ := at_T65 HR0_6.out x5_2 p138 q138
          cases e138
          replace hx138_0 := (HB.out.cell (World.block_lt_of_cell? w _ hx138_0)).trans hx138_0
          replace hx138_1 := (HB.out.cell (World.block_lt_of_cell? w _ hx138_1)).trans hx138_1
          replace p138 := eq_true p138
          replace q138 := eq_true q138
          have hcz39_0 : wr.cell? ⟨gb137, 0, none⟩ = some (.int .i64 a1_0) := (blk_cell BK137.out 0).trans rfl
          have hcz39_1 : wr.cell? ⟨gb137, 1, none⟩ = some (.int .i64 a1_1) := (blk_cell BK137.out 1).trans rfl
          have hcz39_2 : wr.cell? ⟨gb137, 2, none⟩ = some (.int .i64 a1_2) := (blk_cell BK137.out 2).trans rfl
          have hcz39_3 : wr.cell? ⟨gb137, 3, none⟩ = some (.slice A1_3 l1_3.length c1_3) := (blk_cell BK137.out 3).trans rfl
          have hcz39_4 : wr.cell? ⟨gb137, 4, none⟩ = some (.int .i64 a1_4) := (blk_cell BK137.out 4).trans rfl
          have hcz39_5 : wr.cell? ⟨gb137, 5, none⟩ = some (.int .i64 a1_5) := (blk_cell BK137.out 5).trans rfl
          have hcz39_6 : wr.cell? ⟨gb137, 6, none⟩ = some (.slice A1_6 l1_6.length c1_6) := (blk_cell BK137.out 6).trans rfl
          have hfz39_0 := blk_frozen BK137.out 0
          have hfz39_1 := blk_frozen BK137.out 1
          have hfz39_2 := blk_frozen BK137.out 2
          have hfz39_3 := blk_frozen BK137.out 3
          have hfz39_4 := blk_frozen BK137.out 4
          have hfz39_5 := blk_frozen BK137.out 5
          have hfz39_6 := blk_frozen BK137.out 6
          have p139 : 0 ≤ (x5_2 : Int) := of_decide_eq_true asm_
          have q139 : x5_2 < (l1_6.length : Int) := of_decide_eq_true asm_
          obtain ⟨ad139, e139, hx139_0, hx139_1⟩ := at_T65 HR1_6.out x5_2 p139 q139
          cases e139
          replace hx139_0 := (HB.out.cell (World.block_lt_of_cell? w _ hx139_0)).trans hx139_0
          replace hx139_1 := (HB.out.cell (World.block_lt_of_cell? w _ hx139_1)).trans hx139_1
          replace p139 := eq_true p139
          replace q139 := eq_true q139
          go_wp2
          repeat (go_quiet (fail); try go_wp2)
          go_roundg k2
          case measure => have := HJ2.out; have := HK2.out; omega
          case rel => exact ⟨(wrap64 (x5_2 + 1)), (by first | rfl | (simp; done) | (simp [*]; done)), H', ⟨by have := HJ2.out; have := HK2.out; omega⟩, ⟨blkx_ BK136.out⟩, ⟨blkx_ BK137.out⟩, ⟨by repeat (first | (with_reducible first | exact HB.out | apply below_alloc | apply pw_below_drewN | apply below_drew1 | refine below_set ?_ GE136.out | refine below_set ?_ GE137.out) | exact HB.out)⟩⟩
        ·rw [if_neg c32] at H
         exact absurd H (by simp)
       ·rw [if_neg c31] at H
        exact absurd H (by simp)
      ·rw [if_neg c30] at H
       have c30b0 : decide (x5_2 < (l0_6.length : Int)) = false := decide_eq_false c30
       clear c30
       replace H := Option.bind_eq_some_iff.mp H
       obtain ⟨t140, A400, H⟩ := H
       replace H : (some t140) = some r := H
       have A40 := Aside0.mk A400
       clear A400
       obtain rfl := Option.some.inj H
       have hnb41 := NB136_137.out
       have hnc41 := NB137_136.out
       have hcz42_0 : wr.cell? ⟨gb136, 0, none⟩ = some (.int .i64 a0_0) := (blk_cell BK136.out 0).trans rfl
       have hcz42_1 : wr.cell? ⟨gb136, 1, none⟩ = some (.int .i64 a0_1) := (blk_cell BK136.out 1).trans rfl
       have hcz42_2 : wr.cell? ⟨gb136, 2, none⟩ = some (.int .i64 a0_2) := (blk_cell BK136.out 2).trans rfl
       have hcz42_3 : wr.cell? ⟨gb136, 3, none⟩ = some (.slice A0_3 l0_3.length c0_3) := (blk_cell BK136.out 3).trans rfl
       have hcz42_4 : wr.cell? ⟨gb136, 4, none⟩ = some (.int .i64 a0_4) := (blk_cell BK136.out 4).trans rfl
       have hcz42_5 : wr.cell? ⟨gb136, 5, none⟩ = some (.int .i64 a0_5) := (blk_cell BK136.out 5).trans rfl
       have hcz42_6 : wr.cell? ⟨gb136, 6, none⟩ = some (.slice A0_6 l0_6.length c0_6) := (blk_cell BK136.out 6).trans rfl
       have hfz42_0 := blk_frozen BK136.out 0
       have hfz42_1 := blk_frozen BK136.out 1
       have hfz42_2 := blk_frozen BK136.out 2
       have hfz42_3 := blk_frozen BK136.out 3
       have hfz42_4 := blk_frozen BK136.out 4
       have hfz42_5 := blk_frozen BK136.out 5
       have hfz42_6 := blk_frozen BK136.out 6
       have hcz43_0 : wr.cell? ⟨gb137, 0, none⟩ = some (.int .i64 a1_0) := (blk_cell BK137.out 0).trans rfl
       have hcz43_1 : wr.cell? ⟨gb137, 1, none⟩ = some (.int .i64 a1_1) := (blk_cell BK137.out 1).trans rfl
       have hcz43_2 : wr.cell? ⟨gb137, 2, none⟩ = some (.int .i64 a1_2) := (blk_cell BK137.out 2).trans rfl
       have hcz43_3 : wr.cell? ⟨gb137, 3, none⟩ = some (.slice A1_3 l1_3.length c1_3) := (blk_cell BK137.out 3).trans rfl
       have hcz43_4 : wr.cell? ⟨gb137, 4, none⟩ = some (.int .i64 a1_4) := (blk_cell BK137.out 4).trans rfl
       have hcz43_5 : wr.cell? ⟨gb137, 5, none⟩ = some (.int .i64 a1_5) := (blk_cell BK137.out 5).trans rfl
       have hcz43_6 : wr.cell? ⟨gb137, 6, none⟩ = some (.slice A1_6 l1_6.length c1_6) := (blk_cell BK137.out 6).trans rfl
       have hfz43_0 := blk_frozen BK137.out 0
       have hfz43_1 := blk_frozen BK137.out 1
       have hfz43_2 := blk_frozen BK137.out 2
       have hfz43_3 := blk_frozen BK137.out 3
       have hfz43_4 := blk_frozen BK137.out 4
       have hfz43_5 := blk_frozen BK137.out 5
       have hfz43_6 := blk_frozen BK137.out 6
       go_wp2_with (first | (go_at_call 27; (with_reducible refine (limelightref01_Ints.calls _ _ l0_3 _ _ l1_3 t140 _ ?side1 ?side2 ?side3 ?side4 A40.out).mono ?_); (case side1 => exact kcb_ ((Kd.C_below HR0_3.out HB.out))); (case side2 => exact HC0_3.out); (case side3 => exact kcb_ ((Kd.C_below HR1_3.out HB.out))); (case side4 => exact HC1_3.out); rintro e w44 ⟨rfl, hb⟩; have n0_ := Aside0.mk (blk_below (g := gb136) (o := .cells #[.int .i64 a0_0, .int .i64 a0_1, .int .i64 a0_2, .slice A0_3 l0_3.length c0_3, .int .i64 a0_4, .int .i64 a0_5, .slice A0_6 l0_6.length c0_6] 49 (0, 0)) (blkx_ BK136.out) hb); have n1_ := Aside0.mk (blk_below (g := gb137) (o := .cells #[.int .i64 a1_0, .int .i64 a1_1, .int .i64 a1_2, .slice A1_3 l1_3.length c1_3, .int .i64 a1_4, .int .i64 a1_5, .slice A1_6 l1_6.length c1_6] 49 (0, 0)) (blkx_ BK137.out) hb); have n2_ := Aside0.mk (below_step (by repeat (first | (with_reducible first | exact HB.out | apply below_alloc | apply pw_below_drewN | apply below_drew1 | refine below_set ?_ GE136.out | refine below_set ?_ GE137.out) | exact HB.out)) hb); clear BK136; clear BK137; clear HB; have BK136 := n0_; have BK137 := n1_; have HB := n2_; clear n0_ n1_ n2_; (try clear hb); (try clear hb2); (try clear hk); (try clear hi)))
       repeat (go_quiet (first | (go_at_call 27; (with_reducible refine (limelightref01_Ints.calls _ _ l0_3 _ _ l1_3 t140 _ ?side1 ?side2 ?side3 ?side4 A40.out).mono ?_); (case side1 => exact kcb_ ((Kd.C_below HR0_3.out HB.out))); (case side2 => exact HC0_3.out); (case side3 => exact kcb_ ((Kd.C_below HR1_3.out HB.out))); (case side4 => exact HC1_3.out); rintro e w44 ⟨rfl, hb⟩; have n0_ := Aside0.mk (blk_below (g := gb136) (o := .cells #[.int .i64 a0_0, .int .i64 a0_1, .int .i64 a0_2, .slice A0_3 l0_3.length c0_3, .int .i64 a0_4, .int .i64 a0_5, .slice A0_6 l0_6.length c0_6] 49 (0, 0)) (blkx_ BK136.out) hb); have n1_ := Aside0.mk (blk_below (g := gb137) (o := .cells #[.int .i64 a1_0, .int .i64 a1_1, .int .i64 a1_2, .slice A1_3 l1_3.length c1_3, .int .i64 a1_4, .int .i64 a1_5, .slice A1_6 l1_6.length c1_6] 49 (0, 0)) (blkx_ BK137.out) hb); have n2_ := Aside0.mk (below_step (by repeat (first | (with_reducible first | exact HB.out | apply below_alloc | apply pw_below_drewN | apply below_drew1 | refine below_set ?_ GE136.out | refine below_set ?_ GE137.out) | exact HB.out)) hb); clear BK136; clear BK137; clear HB; have BK136 := n0_; have BK137 := n1_; have HB := n2_; clear n0_ n1_ n2_; (try clear hb); (try clear hb2); (try clear hk); (try clear hi))); try go_wp2_with (first | (go_at_call 27; (with_reducible refine (limelightref01_Ints.calls _ _ l0_3 _ _ l1_3 t140 _ ?side1 ?side2 ?side3 ?side4 A40.out).mono ?_); (case side1 => exact kcb_ ((Kd.C_below HR0_3.out HB.out))); (case side2 => exact HC0_3.out); (case side3 => exact kcb_ ((Kd.C_below HR1_3.out HB.out))); (case side4 => exact HC1_3.out); rintro e w44 ⟨rfl, hb⟩; have n0_ := Aside0.mk (blk_below (g := gb136) (o := .cells #[.int .i64 a0_0, .int .i64 a0_1, .int .i64 a0_2, .slice A0_3 l0_3.length c0_3, .int .i64 a0_4, .int .i64 a0_5, .slice A0_6 l0_6.length c0_6] 49 (0, 0)) (blkx_ BK136.out) hb); have n1_ := Aside0.mk (blk_below (g := gb137) (o := .cells #[.int .i64 a1_0, .int .i64 a1_1, .int .i64 a1_2, .slice A1_3 l1_3.length c1_3, .int .i64 a1_4, .int .i64 a1_5, .slice A1_6 l1_6.length c1_6] 49 (0, 0)) (blkx_ BK137.out) hb); have n2_ := Aside0.mk (below_step (by repeat (first | (with_reducible first | exact HB.out | apply below_alloc | apply pw_below_drewN | apply below_drew1 | refine below_set ?_ GE136.out | refine below_set ?_ GE137.out) | exact HB.out)) hb); clear BK136; clear BK137; clear HB; have BK136 := n0_; have BK137 := n1_; have HB := n2_; clear n0_ n1_ n2_; (try clear hb); (try clear hb2); (try clear hk); (try clear hi))))
       go_ret
       exact ⟨by first | rfl | (simp [errW_none, errW_some] <;> rfl) | (simp [*, errW_none, errW_some] <;> rfl), by repeat (first | (with_reducible first | exact HB.out | apply below_alloc | apply pw_below_drewN | apply below_drew1 | refine below_set ?_ GE136.out | refine below_set ?_ GE137.out) | exact HB.out)⟩

/-! ### limelightref01_Same: function 15 -/
def limelightref01_Same.l0 : Nat → List (S49) → List (S49) → Int → Option (Bool)
 | 0, _, _, _ => none
 | k + 1, x0, x1, x5 => if x5 < (x0.length : Int) then (if 0 ≤ x5 then (if x5 < (x1.length : Int) then ((limelightref01_One.f k ((rd_T49 x0 x5).f0) ((rd_T49 x0 x5).f1) ((rd_T49 x0 x5).f2) ((rd_T49 x0 x5).f3) ((rd_T49 x0 x5).f4) ((rd_T49 x0 x5).f5) ((rd_T49 x0 x5).f6) ((rd_T49 x1 x5).f0) ((rd_T49 x1 x5).f1) ((rd_T49 x1 x5).f2) ((rd_T49 x1 x5).f3) ((rd_T49 x1 x5).f4) ((rd_T49 x1 x5).f5) ((rd_T49 x1 x5).f6)).bind fun t143 => (if t143 = true then (limelightref01_Same.l0 k x0 x1 (wrap64 (x5 + 1))) else (some false))) else (none)) else (none)) else (some true)
def limelightref01_Same.f (k : Nat) (l0 : List (S49)) (l1 : List (S49)) : Option (Bool) := if (l0.length : Int) = (l1.length : Int) then (limelightref01_Same.l0 k l0 l1 0) else (some false)
theorem limelightref01_Same.mono_l : ∀ k, (∀ y0 y1 y2, LeO (limelightref01_Same.l0 k y0 y1 y2) (limelightref01_Same.l0 (k + 1) y0 y1 y2))
 | 0 => fun _ _ _ r h => by simp [limelightref01_Same.l0] at h
 | k + 1 => by
  have ih0 := limelightref01_Same.mono_l k
  ·intro y0 y1 y2
   unfold limelightref01_Same.l0
   repeat' first
   | (with_reducible exact ih0 _ _ _)
   | (with_reducible exact limelightref01_One.mono _ _ _ _ _ _ _ _ _ _ _ _ _ _ _)
   | (with_reducible exact LeO.refl _)
   | (with_reducible exact LeO.none _)
   | (with_reducible refine LeO.ite ?_ ?_)
   | (with_reducible refine LeO.bind ?_ (fun _ => ?_))
   | exact ih0 _ _ _
   | exact limelightref01_One.mono _ _ _ _ _ _ _ _ _ _ _ _ _ _ _
   | exact LeO.none _
   | refine LeO.ite ?_ ?_
   | refine LeO.bind ?_ (fun _ => ?_)
theorem limelightref01_Same.mono : ∀ a0 a1 k, LeO (limelightref01_Same.f k a0 a1) (limelightref01_Same.f (k + 1) a0 a1) := by
 intro a0 a1 k
 have ih0 := limelightref01_Same.mono_l k
 unfold limelightref01_Same.f
 repeat' first
   | (with_reducible exact ih0 _ _ _)
   | (with_reducible exact limelightref01_One.mono _ _ _ _ _ _ _ _ _ _ _ _ _ _ _)
   | (with_reducible exact LeO.refl _)
   | (with_reducible exact LeO.none _)
   | (with_reducible refine LeO.ite ?_ ?_)
   | (with_reducible refine LeO.bind ?_ (fun _ => ?_))
   | exact ih0 _ _ _
   | exact limelightref01_One.mono _ _ _ _ _ _ _ _ _ _ _ _ _ _ _
   | exact LeO.none _
   | refine LeO.ite ?_ ?_
   | refine LeO.bind ?_ (fun _ => ?_)
def limelightref01_Same.T6 : Bool × List (List Nat × List Nat) := (true, [([], []), ([], []), ([0, 1], [0, 1]), ([2], [2]), ([], []), ([], []), ([4, 5], [4, 5]), ([6], [6]), ([3, 7], [3, 7]), ([8], [8])])
def limelightref01_Same.B6 : List Nat := [0, 0, 3, 7, 0, 0, 48, 112, 255, 511]
theorem limelightref01_Same.tab6 : rtab .any (opsOf Try.f15 6) = limelightref01_Same.T6 := by kernel_rfl
theorem limelightref01_Same.bits6 : waitsOk limelightref01_Same.T6.2 limelightref01_Same.B6 = true := by kernel_rfl
set_option maxHeartbeats 8000000 in
set_option maxRecDepth 100000 in
theorem limelightref01_Same.calls (k : Nat) (A0 : Option Addr) (c0 : Nat) (l0 : List (S49)) (A1 : Option Addr) (c1 : Nat) (l1 : List (S49)) (r : Bool) (w : World) (hr0 : Kd.C k49 w A0 l0.length l0) (hc0 : l0.length ≤ c0) (hr1 : Kd.C k49 w A1 l1.length l1) (hc1 : l1.length ≤ c1) (h : limelightref01_Same.f k l0 l1 = some r) :
  Calls Try.prog 15 #[.slice A0 l0.length c0, .slice A1 l1.length c1] w fun e w' => e = .returned (.bool r) ∧ Below w.heap.size w w' := by
 have hu49 := Try.underlying49
 have HR0 := Aside0.mk hr0
 have HC0 := Aside0.mk hc0
 clear hr0 hc0
 have HR1 := Aside0.mk hr1
 have HC1 := Aside0.mk hc1
 clear hr1 hc1
 have HB := Aside0.mk (Below.refl w.heap.size w)
 have H : (if (l0.length : Int) = (l1.length : Int) then (limelightref01_Same.l0 k l0 l1 0) else (some false)) = some r := h
 clear h
 by_cases c3 : (l0.length : Int) = (l1.length : Int)
 ·rw [if_pos c3] at H
  have c3b0 : ((l0.length : Int) == (l1.length : Int)) = true := beq_iff_eq.mpr c3
  have c3b1 : ((l0.length : Int) != (l1.length : Int)) = false := bne_eq_false_iff_eq.mpr c3
  have c3b2 : (l0.length == l1.length) = true := by first | simpa using c3 | (simp at c3 ⊢; omega)
  clear c3
  have H' := Aside0.mk H
  clear H
  go_enter Try.func15, Try.ntmps15
  go_wp2
  go_loopg [5] k (fun kq v5 w' => ∃ (x5_1 : Int), v5 = .int .i64 x5_1 ∧ Aside0 (limelightref01_Same.l0 kq l0 l1 x5_1 = some r) ∧ Aside0 (kq ≤ k) ∧ Aside0 (Below w.heap.size w w'))
  case atStart => exact ⟨(0), (by first | rfl | (simp; done) | (simp [*]; done)), H', ⟨Nat.le_refl _⟩, ⟨bel_⟩⟩
  case round =>
   clear H'
   try clear c1
   try clear p2
   try clear c3
   try clear c3b0
   try clear c3b1
   try clear c3b2
   obtain ⟨x5_1, rfl, HA, HK1, HB⟩ := hrel
   cases gk with
   | zero => exact absurd HA.out (by simp [limelightref01_Same.l0])
   | succ k1 =>
    have H := HA.out
    clear HA
    simp only [limelightref01_Same.l0] at H
    by_cases c4 : x5_1 < (l0.length : Int)
    ·rw [if_pos c4] at H
     have c4b0 : decide (x5_1 < (l0.length : Int)) = true := decide_eq_true c4
     clear c4
     by_cases c5 : 0 ≤ x5_1
     ·rw [if_pos c5] at H
      have c5b0 : decide (0 ≤ x5_1) = true := decide_eq_true c5
      clear c5
      by_cases c6 : x5_1 < (l1.length : Int)
      ·rw [if_pos c6] at H
       have c6b0 : decide (x5_1 < (l1.length : Int)) = true := decide_eq_true c6
       clear c6
       replace H := Option.bind_eq_some_iff.mp H
       obtain ⟨t143, A70, H⟩ := H
       replace H : (if t143 = true then (limelightref01_Same.l0 k1 l0 l1 (wrap64 (x5_1 + 1))) else (some false)) = some r := H
       have A7 := Aside0.mk A70
       clear A70
       by_cases c8 : t143 = true
       ·subst c8
        have H1 : (limelightref01_Same.l0 k1 l0 l1 (wrap64 (x5_1 + 1))) = some r := by rw [if_pos rfl] at H; exact H
        clear H
        have H := H1
        clear H1
        have H' := Aside0.mk H
        clear H
        try go_wp2
        have n0_ := Aside0.mk (below_drew1 HB.out)
        clear HB
        have HB := n0_
        clear n0_
        have p141 : 0 ≤ (x5_1 : Int) := of_decide_eq_true asm_
        have q141 : x5_1 < (l0.length : Int) := of_decide_eq_true asm_
        obtain ⟨ad141, A141_3, c141_3, A141_6, c141_6, e141, hx141_0, hx141_1, hx141_2, hx141_3, hx141_4, hx141_5, hx141_6, hl141_3, hi141_3, hl141_6, hi141_6⟩ := at_T49 HR0.out x5_1 p141 q141
        have hw141_6 := hx141_6
        have hw141_5 := hx141_5
        have hw141_4 := hx141_4
        have hw141_3 := hx141_3
        have hw141_2 := hx141_2
        have hw141_1 := hx141_1
        have hw141_0 := hx141_0
        cases e141
        replace hx141_0 := (HB.out.cell (World.block_lt_of_cell? w _ hx141_0)).trans hx141_0
        replace hx141_1 := (HB.out.cell (World.block_lt_of_cell? w _ hx141_1)).trans hx141_1
        replace hx141_2 := (HB.out.cell (World.block_lt_of_cell? w _ hx141_2)).trans hx141_2
        replace hx141_3 := (HB.out.cell (World.block_lt_of_cell? w _ hx141_3)).trans hx141_3
        replace hx141_4 := (HB.out.cell (World.block_lt_of_cell? w _ hx141_4)).trans hx141_4
        replace hx141_5 := (HB.out.cell (World.block_lt_of_cell? w _ hx141_5)).trans hx141_5
        replace hx141_6 := (HB.out.cell (World.block_lt_of_cell? w _ hx141_6)).trans hx141_6
        have HR141_3 := Aside0.mk hi141_3
        have HC141_3 := Aside0.mk hl141_3
        clear hi141_3 hl141_3
        have HR141_6 := Aside0.mk hi141_6
        have HC141_6 := Aside0.mk hl141_6
        clear hi141_6 hl141_6
        replace p141 := eq_true p141
        replace q141 := eq_true q141
        have p142 : 0 ≤ (x5_1 : Int) := of_decide_eq_true asm_
        have q142 : x5_1 < (l1.length : Int) := of_decide_eq_true asm_
        obtain ⟨ad142, A142_3, c142_3, A142_6, c142_6, e142, hx142_0, hx142_1, hx142_2, hx142_3, hx142_4, hx142_5, hx142_6, hl142_3, hi142_3, hl142_6, hi142_6⟩ := at_T49 HR1.out x5_1 p142 q142
        have hw142_6 := hx142_6
        have hw142_5 := hx142_5
        have hw142_4 := hx142_4
        have hw142_3 := hx142_3
        have hw142_2 := hx142_2
        have hw142_1 := hx142_1
        have hw142_0 := hx142_0
        cases e142
        replace hx142_0 := (HB.out.cell (World.block_lt_of_cell? w _ hx142_0)).trans hx142_0
        replace hx142_1 := (HB.out.cell (World.block_lt_of_cell? w _ hx142_1)).trans hx142_1
        replace hx142_2 := (HB.out.cell (World.block_lt_of_cell? w _ hx142_2)).trans hx142_2
        replace hx142_3 := (HB.out.cell (World.block_lt_of_cell? w _ hx142_3)).trans hx142_3
        replace hx142_4 := (HB.out.cell (World.block_lt_of_cell? w _ hx142_4)).trans hx142_4
        replace hx142_5 := (HB.out.cell (World.block_lt_of_cell? w _ hx142_5)).trans hx142_5
        replace hx142_6 := (HB.out.cell (World.block_lt_of_cell? w _ hx142_6)).trans hx142_6
        have HR142_3 := Aside0.mk hi142_3
        have HC142_3 := Aside0.mk hl142_3
        clear hi142_3 hl142_3
        have HR142_6 := Aside0.mk hi142_6
        have HC142_6 := Aside0.mk hl142_6
        clear hi142_6 hl142_6
        replace p142 := eq_true p142
        replace q142 := eq_true q142
        refine start_ (n := 10) (S := fun w' => w'.cell? (ad141.add ((x5_1).toNat * 7)) = some (.int .i64 ((rd_T49 l0 x5_1).f0)) ∧ w'.cell? ⟨(ad141.add ((x5_1).toNat * 7)).block, (ad141.add ((x5_1).toNat * 7)).off + 1, none⟩ = some (.int .i64 ((rd_T49 l0 x5_1).f1)) ∧ w'.cell? ⟨(ad141.add ((x5_1).toNat * 7)).block, (ad141.add ((x5_1).toNat * 7)).off + 2, none⟩ = some (.int .i64 ((rd_T49 l0 x5_1).f2)) ∧ w'.cell? ⟨(ad141.add ((x5_1).toNat * 7)).block, (ad141.add ((x5_1).toNat * 7)).off + 3, none⟩ = some (.slice A141_3 ((rd_T49 l0 x5_1).f3).length c141_3) ∧ w'.cell? ⟨(ad141.add ((x5_1).toNat * 7)).block, (ad141.add ((x5_1).toNat * 7)).off + 4, none⟩ = some (.int .i64 ((rd_T49 l0 x5_1).f4)) ∧ w'.cell? ⟨(ad141.add ((x5_1).toNat * 7)).block, (ad141.add ((x5_1).toNat * 7)).off + 5, none⟩ = some (.int .i64 ((rd_T49 l0 x5_1).f5)) ∧ w'.cell? ⟨(ad141.add ((x5_1).toNat * 7)).block, (ad141.add ((x5_1).toNat * 7)).off + 6, none⟩ = some (.slice A141_6 ((rd_T49 l0 x5_1).f6).length c141_6) ∧ w'.cell? (ad142.add ((x5_1).toNat * 7)) = some (.int .i64 ((rd_T49 l1 x5_1).f0)) ∧ w'.cell? ⟨(ad142.add ((x5_1).toNat * 7)).block, (ad142.add ((x5_1).toNat * 7)).off + 1, none⟩ = some (.int .i64 ((rd_T49 l1 x5_1).f1)) ∧ w'.cell? ⟨(ad142.add ((x5_1).toNat * 7)).block, (ad142.add ((x5_1).toNat * 7)).off + 2, none⟩ = some (.int .i64 ((rd_T49 l1 x5_1).f2)) ∧ w'.cell? ⟨(ad142.add ((x5_1).toNat * 7)).block, (ad142.add ((x5_1).toNat * 7)).off + 3, none⟩ = some (.slice A142_3 ((rd_T49 l1 x5_1).f3).length c142_3) ∧ w'.cell? ⟨(ad142.add ((x5_1).toNat * 7)).block, (ad142.add ((x5_1).toNat * 7)).off + 4, none⟩ = some (.int .i64 ((rd_T49 l1 x5_1).f4)) ∧ w'.cell? ⟨(ad142.add ((x5_1).toNat * 7)).block, (ad142.add ((x5_1).toNat * 7)).off + 5, none⟩ = some (.int .i64 ((rd_T49 l1 x5_1).f5)) ∧ w'.cell? ⟨(ad142.add ((x5_1).toNat * 7)).block, (ad142.add ((x5_1).toNat * 7)).off + 6, none⟩ = some (.slice A142_6 ((rd_T49 l1 x5_1).f6).length c142_6)) (ds := []) #[false, false, false, false, false, false, false, false, false, false] (by kernel_rfl) rfl rfl ⟨((HB.out.cell (World.block_lt_of_cell? w _ hw141_0)).trans hw141_0), ((HB.out.cell (World.block_lt_of_cell? w _ hw141_1)).trans hw141_1), ((HB.out.cell (World.block_lt_of_cell? w _ hw141_2)).trans hw141_2), ((HB.out.cell (World.block_lt_of_cell? w _ hw141_3)).trans hw141_3), ((HB.out.cell (World.block_lt_of_cell? w _ hw141_4)).trans hw141_4), ((HB.out.cell (World.block_lt_of_cell? w _ hw141_5)).trans hw141_5), ((HB.out.cell (World.block_lt_of_cell? w _ hw141_6)).trans hw141_6), ((HB.out.cell (World.block_lt_of_cell? w _ hw142_0)).trans hw142_0), ((HB.out.cell (World.block_lt_of_cell? w _ hw142_1)).trans hw142_1), ((HB.out.cell (World.block_lt_of_cell? w _ hw142_2)).trans hw142_2), ((HB.out.cell (World.block_lt_of_cell? w _ hw142_3)).trans hw142_3), ((HB.out.cell (World.block_lt_of_cell? w _ hw142_4)).trans hw142_4), ((HB.out.cell (World.block_lt_of_cell? w _ hw142_5)).trans hw142_5), ((HB.out.cell (World.block_lt_of_cell? w _ hw142_6)).trans hw142_6)⟩ (fun hHeld => ?_); refine with_tabW limelightref01_Same.tab6 limelightref01_Same.bits6 (fun HT_ HW_ => ?_)
        generalize wr.drew = w9 at HB HR141_3 HR141_6 HR142_3 HR142_6 hx141_0 hx141_1 hx141_2 hx141_3 hx141_4 hx141_5 hx141_6 hx142_0 hx142_1 hx142_2 hx142_3 hx142_4 hx142_5 hx142_6 hHeld ⊢
        refine pure_ (i := 0) (N := some 17) (v := ?_) (a' := ?_) #[true, false, false, false, false, false, false, false, false, false] rfl rfl (any_of HT_.out (by kernel_rfl)) (fun _ _ _ h => h) (Or.inl ⟨by rfl, ?_⟩) ?_ ?_
        rotate_left
        ·intro w'
         go_simp
         with_reducible rfl
        rotate_left
        ·simp only [Act.put, List.setIfInBounds_toArray, List.set_cons_zero, List.set_cons_succ, i64_w, i32_w]
         rfl
        refine pure_ (i := 1) (N := some 18) (v := ?_) (a' := ?_) #[true, true, false, false, false, false, false, false, false, false] rfl rfl (any_of HT_.out (by kernel_rfl)) (fun _ _ _ h => h) (Or.inl ⟨by rfl, ?_⟩) ?_ ?_
        rotate_left
        ·intro w'
         go_simp
         with_reducible rfl
        rotate_left
        ·simp only [Act.put, List.setIfInBounds_toArray, List.set_cons_zero, List.set_cons_succ, i64_w, i32_w]
         rfl
        refine pure_ (i := 2) (N := some 19) (v := ?_) (a' := ?_) #[true, true, true, false, false, false, false, false, false, false] rfl rfl (any_of HT_.out (by kernel_rfl)) (fun _ _ _ h => h) (Or.inl ⟨by rfl, ?_⟩) ?_ ?_
        rotate_left
        ·intro w'
         go_simp
         with_reducible rfl
        rotate_left
        ·simp only [Act.put, List.setIfInBounds_toArray, List.set_cons_zero, List.set_cons_succ, i64_w, i32_w]
         rfl
        refine pure_ (i := 4) (N := some 21) (v := ?_) (a' := ?_) #[true, true, true, false, true, false, false, false, false, false] rfl rfl (any_of HT_.out (by kernel_rfl)) (fun _ _ _ h => h) (Or.inl ⟨by rfl, ?_⟩) ?_ ?_
        rotate_left
        ·intro w'
         go_simp
         with_reducible rfl
        rotate_left
        ·simp only [Act.put, List.setIfInBounds_toArray, List.set_cons_zero, List.set_cons_succ, i64_w, i32_w]
         rfl
        refine pure_ (i := 5) (N := some 22) (v := ?_) (a' := ?_) #[true, true, true, false, true, true, false, false, false, false] rfl rfl (any_of HT_.out (by kernel_rfl)) (fun _ _ _ h => h) (Or.inl ⟨by rfl, ?_⟩) ?_ ?_
        rotate_left
        ·intro w'
         go_simp
         with_reducible rfl
        rotate_left
        ·simp only [Act.put, List.setIfInBounds_toArray, List.set_cons_zero, List.set_cons_succ, i64_w, i32_w]
         rfl
        refine pure_ (i := 6) (N := some 23) (v := ?_) (a' := ?_) #[true, true, true, false, true, true, true, false, false, false] rfl rfl (any_of HT_.out (by kernel_rfl)) (fun _ _ _ h => h) (Or.inl ⟨by rfl, ?_⟩) ?_ ?_
        rotate_left
        ·intro w'
         go_simp
         with_reducible rfl
        rotate_left
        ·simp only [Act.put, List.setIfInBounds_toArray, List.set_cons_zero, List.set_cons_succ, i64_w, i32_w]
         rfl
        refine take_ (i := 3) (N := some 20) (v := ?_) (a' := ?_) #[true, true, true, true, true, true, true, false, false, false] rfl rfl (take_ofW HT_.out HW_.out (by kernel_rfl)) (fun _ _ _ h => h) (Or.inl ⟨by rfl, ?_⟩) hHeld ?_ ?_
        rotate_left
        ·rintro w' ⟨s0, s1, s2, s3, s4, s5, s6, s7, s8, s9, s10, s11, s12, s13⟩
         go_simp
         with_reducible rfl
        rotate_left
        ·simp only [Act.put, List.setIfInBounds_toArray, List.set_cons_zero, List.set_cons_succ, i64_w, i32_w]
         rfl
        refine take_ (i := 7) (N := some 24) (v := ?_) (a' := ?_) #[true, true, true, true, true, true, true, true, false, false] rfl rfl (take_ofW HT_.out HW_.out (by kernel_rfl)) (fun _ _ _ h => h) (Or.inl ⟨by rfl, ?_⟩) hHeld ?_ ?_
        rotate_left
        ·rintro w' ⟨s0, s1, s2, s3, s4, s5, s6, s7, s8, s9, s10, s11, s12, s13⟩
         go_simp
         with_reducible rfl
        rotate_left
        ·simp only [Act.put, List.setIfInBounds_toArray, List.set_cons_zero, List.set_cons_succ, i64_w, i32_w]
         rfl
        refine one_ (i := 8) (N := some 25) #[true, true, true, true, true, true, true, true, true, false] rfl rfl (one_of HT_.out (by kernel_rfl)) (by decide) (fun K hK => ?_)
        refine goes_ Try.func26 (by kernel_rfl) rfl #[.agg #[.int .i64 ((rd_T49 l0 x5_1).f0), .int .i64 ((rd_T49 l0 x5_1).f1), .int .i64 ((rd_T49 l0 x5_1).f2), .slice A141_3 ((rd_T49 l0 x5_1).f3).length c141_3, .int .i64 ((rd_T49 l0 x5_1).f4), .int .i64 ((rd_T49 l0 x5_1).f5), .slice A141_6 ((rd_T49 l0 x5_1).f6).length c141_6], .agg #[.int .i64 ((rd_T49 l1 x5_1).f0), .int .i64 ((rd_T49 l1 x5_1).f1), .int .i64 ((rd_T49 l1 x5_1).f2), .slice A142_3 ((rd_T49 l1 x5_1).f3).length c142_3, .int .i64 ((rd_T49 l1 x5_1).f4), .int .i64 ((rd_T49 l1 x5_1).f5), .slice A142_6 ((rd_T49 l1 x5_1).f6).length c142_6]] (by rfl) rfl rfl margs_ ?_
        with_reducible refine (limelightref01_One.calls k1 ((rd_T49 l0 x5_1).f0) ((rd_T49 l0 x5_1).f1) ((rd_T49 l0 x5_1).f2) _ _ ((rd_T49 l0 x5_1).f3) ((rd_T49 l0 x5_1).f4) ((rd_T49 l0 x5_1).f5) _ _ ((rd_T49 l0 x5_1).f6) ((rd_T49 l1 x5_1).f0) ((rd_T49 l1 x5_1).f1) ((rd_T49 l1 x5_1).f2) _ _ ((rd_T49 l1 x5_1).f3) ((rd_T49 l1 x5_1).f4) ((rd_T49 l1 x5_1).f5) _ _ ((rd_T49 l1 x5_1).f6) true _ ?side1 ?side2 ?side3 ?side4 ?side5 ?side6 ?side7 ?side8 A7.out).mono ?_
        (case side1 => exact kcb_ ((Kd.C_below HR141_3.out HB.out)))
        (case side2 => exact HC141_3.out)
        (case side3 => exact kcb_ ((Kd.C_below HR141_6.out HB.out)))
        (case side4 => exact HC141_6.out)
        (case side5 => exact kcb_ ((Kd.C_below HR142_3.out HB.out)))
        (case side6 => exact HC142_3.out)
        (case side7 => exact kcb_ ((Kd.C_below HR142_6.out HB.out)))
        (case side8 => exact HC142_6.out)
        rintro e w10 ⟨rfl, hb⟩
        refine ⟨_, rfl, ?_⟩
        have n0_ := Aside0.mk (below_step bel_ hb)
        clear HB
        have HB := n0_
        clear n0_
        (try clear hb)
        (try clear hb2)
        (try clear hk)
        (try clear hi)
        refine hK.out _ _ ⟨((HB.out.cell (World.block_lt_of_cell? w _ hw141_0)).trans hw141_0), ((HB.out.cell (World.block_lt_of_cell? w _ hw141_1)).trans hw141_1), ((HB.out.cell (World.block_lt_of_cell? w _ hw141_2)).trans hw141_2), ((HB.out.cell (World.block_lt_of_cell? w _ hw141_3)).trans hw141_3), ((HB.out.cell (World.block_lt_of_cell? w _ hw141_4)).trans hw141_4), ((HB.out.cell (World.block_lt_of_cell? w _ hw141_5)).trans hw141_5), ((HB.out.cell (World.block_lt_of_cell? w _ hw141_6)).trans hw141_6), ((HB.out.cell (World.block_lt_of_cell? w _ hw142_0)).trans hw142_0), ((HB.out.cell (World.block_lt_of_cell? w _ hw142_1)).trans hw142_1), ((HB.out.cell (World.block_lt_of_cell? w _ hw142_2)).trans hw142_2), ((HB.out.cell (World.block_lt_of_cell? w _ hw142_3)).trans hw142_3), ((HB.out.cell (World.block_lt_of_cell? w _ hw142_4)).trans hw142_4), ((HB.out.cell (World.block_lt_of_cell? w _ hw142_5)).trans hw142_5), ((HB.out.cell (World.block_lt_of_cell? w _ hw142_6)).trans hw142_6)⟩ (fun hHeld => ?_)
        clear hK K
        refine norm_ (a' := ?_) ?_ ?_
        rotate_left
        ·show Act.put _ (some 25) _ = _
         simp only [Act.put, List.setIfInBounds_toArray, List.set_cons_zero, List.set_cons_succ, i64_w, i32_w]
         rfl
        refine pure_ (i := 9) (N := some 26) (v := ?_) (a' := ?_) #[true, true, true, true, true, true, true, true, true, true] rfl rfl (any_of HT_.out (by kernel_rfl)) (fun _ _ _ h => h) (Or.inl ⟨by rfl, ?_⟩) ?_ ?_
        rotate_left
        ·intro w'
         go_simp
         with_reducible rfl
        rotate_left
        ·simp only [Act.put, List.setIfInBounds_toArray, List.set_cons_zero, List.set_cons_succ, i64_w, i32_w]
         rfl
        refine done_ (done_of HT_.out (by kernel_rfl)) ?_
        try go_wp2
        go_roundg k1
        case measure => have := HK1.out; omega
        case rel => exact ⟨(wrap64 (x5_1 + 1)), (by first | rfl | (simp; done) | (simp [*]; done)), H', ⟨by have := HK1.out; omega⟩, ⟨bel_⟩⟩
       ·replace c8 := Bool.eq_false_iff.mpr c8
        subst c8
        have H1 : (some false) = some r := by rw [if_neg (show ¬ (false = true) by decide)] at H; exact H
        clear H
        have H := H1
        clear H1
        obtain rfl := Option.some.inj H
        try go_wp2
        have n0_ := Aside0.mk (below_drew1 HB.out)
        clear HB
        have HB := n0_
        clear n0_
        have p141 : 0 ≤ (x5_1 : Int) := of_decide_eq_true asm_
        have q141 : x5_1 < (l0.length : Int) := of_decide_eq_true asm_
        obtain ⟨ad141, A141_3, c141_3, A141_6, c141_6, e141, hx141_0, hx141_1, hx141_2, hx141_3, hx141_4, hx141_5, hx141_6, hl141_3, hi141_3, hl141_6, hi141_6⟩ := at_T49 HR0.out x5_1 p141 q141
        have hw141_6 := hx141_6
        have hw141_5 := hx141_5
        have hw141_4 := hx141_4
        have hw141_3 := hx141_3
        have hw141_2 := hx141_2
        have hw141_1 := hx141_1
        have hw141_0 := hx141_0
        cases e141
        replace hx141_0 := (HB.out.cell (World.block_lt_of_cell? w _ hx141_0)).trans hx141_0
        replace hx141_1 := (HB.out.cell (World.block_lt_of_cell? w _ hx141_1)).trans hx141_1
        replace hx141_2 := (HB.out.cell (World.block_lt_of_cell? w _ hx141_2)).trans hx141_2
        replace hx141_3 := (HB.out.cell (World.block_lt_of_cell? w _ hx141_3)).trans hx141_3
        replace hx141_4 := (HB.out.cell (World.block_lt_of_cell? w _ hx141_4)).trans hx141_4
        replace hx141_5 := (HB.out.cell (World.block_lt_of_cell? w _ hx141_5)).trans hx141_5
        replace hx141_6 := (HB.out.cell (World.block_lt_of_cell? w _ hx141_6)).trans hx141_6
        have HR141_3 := Aside0.mk hi141_3
        have HC141_3 := Aside0.mk hl141_3
        clear hi141_3 hl141_3
        have HR141_6 := Aside0.mk hi141_6
        have HC141_6 := Aside0.mk hl141_6
        clear hi141_6 hl141_6
        replace p141 := eq_true p141
        replace q141 := eq_true q141
        have p142 : 0 ≤ (x5_1 : Int) := of_decide_eq_true asm_
        have q142 : x5_1 < (l1.length : Int) := of_decide_eq_true asm_
        obtain ⟨ad142, A142_3, c142_3, A142_6, c142_6, e142, hx142_0, hx142_1, hx142_2, hx142_3, hx142_4, hx142_5, hx142_6, hl142_3, hi142_3, hl142_6, hi142_6⟩ := at_T49 HR1.out x5_1 p142 q142
        have hw142_6 := hx142_6
        have hw142_5 := hx142_5
        have hw142_4 := hx142_4
        have hw142_3 := hx142_3
        have hw142_2 := hx142_2
        have hw142_1 := hx142_1
        have hw142_0 := hx142_0
        cases e142
        replace hx142_0 := (HB.out.cell (World.block_lt_of_cell? w _ hx142_0)).trans hx142_0
        replace hx142_1 := (HB.out.cell (World.block_lt_of_cell? w _ hx142_1)).trans hx142_1
        replace hx142_2 := (HB.out.cell (World.block_lt_of_cell? w _ hx142_2)).trans hx142_2
        replace hx142_3 := (HB.out.cell (World.block_lt_of_cell? w _ hx142_3)).trans hx142_3
        replace hx142_4 := (HB.out.cell (World.block_lt_of_cell? w _ hx142_4)).trans hx142_4
        replace hx142_5 := (HB.out.cell (World.block_lt_of_cell? w _ hx142_5)).trans hx142_5
        replace hx142_6 := (HB.out.cell (World.block_lt_of_cell? w _ hx142_6)).trans hx142_6
        have HR142_3 := Aside0.mk hi142_3
        have HC142_3 := Aside0.mk hl142_3
        clear hi142_3 hl142_3
        have HR142_6 := Aside0.mk hi142_6
        have HC142_6 := Aside0.mk hl142_6
        clear hi142_6 hl142_6
        replace p142 := eq_true p142
        replace q142 := eq_true q142
        refine start_ (n := 10) (S := fun w' => w'.cell? (ad141.add ((x5_1).toNat * 7)) = some (.int .i64 ((rd_T49 l0 x5_1).f0)) ∧ w'.cell? ⟨(ad141.add ((x5_1).toNat * 7)).block, (ad141.add ((x5_1).toNat * 7)).off + 1, none⟩ = some (.int .i64 ((rd_T49 l0 x5_1).f1)) ∧ w'.cell? ⟨(ad141.add ((x5_1).toNat * 7)).block, (ad141.add ((x5_1).toNat * 7)).off + 2, none⟩ = some (.int .i64 ((rd_T49 l0 x5_1).f2)) ∧ w'.cell? ⟨(ad141.add ((x5_1).toNat * 7)).block, (ad141.add ((x5_1).toNat * 7)).off + 3, none⟩ = some (.slice A141_3 ((rd_T49 l0 x5_1).f3).length c141_3) ∧ w'.cell? ⟨(ad141.add ((x5_1).toNat * 7)).block, (ad141.add ((x5_1).toNat * 7)).off + 4, none⟩ = some (.int .i64 ((rd_T49 l0 x5_1).f4)) ∧ w'.cell? ⟨(ad141.add ((x5_1).toNat * 7)).block, (ad141.add ((x5_1).toNat * 7)).off + 5, none⟩ = some (.int .i64 ((rd_T49 l0 x5_1).f5)) ∧ w'.cell? ⟨(ad141.add ((x5_1).toNat * 7)).block, (ad141.add ((x5_1).toNat * 7)).off + 6, none⟩ = some (.slice A141_6 ((rd_T49 l0 x5_1).f6).length c141_6) ∧ w'.cell? (ad142.add ((x5_1).toNat * 7)) = some (.int .i64 ((rd_T49 l1 x5_1).f0)) ∧ w'.cell? ⟨(ad142.add ((x5_1).toNat * 7)).block, (ad142.add ((x5_1).toNat * 7)).off + 1, none⟩ = some (.int .i64 ((rd_T49 l1 x5_1).f1)) ∧ w'.cell? ⟨(ad142.add ((x5_1).toNat * 7)).block, (ad142.add ((x5_1).toNat * 7)).off + 2, none⟩ = some (.int .i64 ((rd_T49 l1 x5_1).f2)) ∧ w'.cell? ⟨(ad142.add ((x5_1).toNat * 7)).block, (ad142.add ((x5_1).toNat * 7)).off + 3, none⟩ = some (.slice A142_3 ((rd_T49 l1 x5_1).f3).length c142_3) ∧ w'.cell? ⟨(ad142.add ((x5_1).toNat * 7)).block, (ad142.add ((x5_1).toNat * 7)).off + 4, none⟩ = some (.int .i64 ((rd_T49 l1 x5_1).f4)) ∧ w'.cell? ⟨(ad142.add ((x5_1).toNat * 7)).block, (ad142.add ((x5_1).toNat * 7)).off + 5, none⟩ = some (.int .i64 ((rd_T49 l1 x5_1).f5)) ∧ w'.cell? ⟨(ad142.add ((x5_1).toNat * 7)).block, (ad142.add ((x5_1).toNat * 7)).off + 6, none⟩ = some (.slice A142_6 ((rd_T49 l1 x5_1).f6).length c142_6)) (ds := []) #[false, false, false, false, false, false, false, false, false, false] (by kernel_rfl) rfl rfl ⟨((HB.out.cell (World.block_lt_of_cell? w _ hw141_0)).trans hw141_0), ((HB.out.cell (World.block_lt_of_cell? w _ hw141_1)).trans hw141_1), ((HB.out.cell (World.block_lt_of_cell? w _ hw141_2)).trans hw141_2), ((HB.out.cell (World.block_lt_of_cell? w _ hw141_3)).trans hw141_3), ((HB.out.cell (World.block_lt_of_cell? w _ hw141_4)).trans hw141_4), ((HB.out.cell (World.block_lt_of_cell? w _ hw141_5)).trans hw141_5), ((HB.out.cell (World.block_lt_of_cell? w _ hw141_6)).trans hw141_6), ((HB.out.cell (World.block_lt_of_cell? w _ hw142_0)).trans hw142_0), ((HB.out.cell (World.block_lt_of_cell? w _ hw142_1)).trans hw142_1), ((HB.out.cell (World.block_lt_of_cell? w _ hw142_2)).trans hw142_2), ((HB.out.cell (World.block_lt_of_cell? w _ hw142_3)).trans hw142_3), ((HB.out.cell (World.block_lt_of_cell? w _ hw142_4)).trans hw142_4), ((HB.out.cell (World.block_lt_of_cell? w _ hw142_5)).trans hw142_5), ((HB.out.cell (World.block_lt_of_cell? w _ hw142_6)).trans hw142_6)⟩ (fun hHeld => ?_); refine with_tabW limelightref01_Same.tab6 limelightref01_Same.bits6 (fun HT_ HW_ => ?_)
        generalize wr.drew = w11 at HB HR141_3 HR141_6 HR142_3 HR142_6 hx141_0 hx141_1 hx141_2 hx141_3 hx141_4 hx141_5 hx141_6 hx142_0 hx142_1 hx142_2 hx142_3 hx142_4 hx142_5 hx142_6 hHeld ⊢
        refine pure_ (i := 0) (N := some 17) (v := ?_) (a' := ?_) #[true, false, false, false, false, false, false, false, false, false] rfl rfl (any_of HT_.out (by kernel_rfl)) (fun _ _ _ h => h) (Or.inl ⟨by rfl, ?_⟩) ?_ ?_
        rotate_left
        ·intro w'
         go_simp
         with_reducible rfl
        rotate_left
        ·simp only [Act.put, List.setIfInBounds_toArray, List.set_cons_zero, List.set_cons_succ, i64_w, i32_w]
         rfl
        refine pure_ (i := 1) (N := some 18) (v := ?_) (a' := ?_) #[true, true, false, false, false, false, false, false, false, false] rfl rfl (any_of HT_.out (by kernel_rfl)) (fun _ _ _ h => h) (Or.inl ⟨by rfl, ?_⟩) ?_ ?_
        rotate_left
        ·intro w'
         go_simp
         with_reducible rfl
        rotate_left
        ·simp only [Act.put, List.setIfInBounds_toArray, List.set_cons_zero, List.set_cons_succ, i64_w, i32_w]
         rfl
        refine pure_ (i := 2) (N := some 19) (v := ?_) (a' := ?_) #[true, true, true, false, false, false, false, false, false, false] rfl rfl (any_of HT_.out (by kernel_rfl)) (fun _ _ _ h => h) (Or.inl ⟨by rfl, ?_⟩) ?_ ?_
        rotate_left
        ·intro w'
         go_simp
         with_reducible rfl
        rotate_left
        ·simp only [Act.put, List.setIfInBounds_toArray, List.set_cons_zero, List.set_cons_succ, i64_w, i32_w]
         rfl
        refine pure_ (i := 4) (N := some 21) (v := ?_) (a' := ?_) #[true, true, true, false, true, false, false, false, false, false] rfl rfl (any_of HT_.out (by kernel_rfl)) (fun _ _ _ h => h) (Or.inl ⟨by rfl, ?_⟩) ?_ ?_
        rotate_left
        ·intro w'
         go_simp
         with_reducible rfl
        rotate_left
        ·simp only [Act.put, List.setIfInBounds_toArray, List.set_cons_zero, List.set_cons_succ, i64_w, i32_w]
         rfl
        refine pure_ (i := 5) (N := some 22) (v := ?_) (a' := ?_) #[true, true, true, false, true, true, false, false, false, false] rfl rfl (any_of HT_.out (by kernel_rfl)) (fun _ _ _ h => h) (Or.inl ⟨by rfl, ?_⟩) ?_ ?_
        rotate_left
        ·intro w'
         go_simp
         with_reducible rfl
        rotate_left
        ·simp only [Act.put, List.setIfInBounds_toArray, List.set_cons_zero, List.set_cons_succ, i64_w, i32_w]
         rfl
        refine pure_ (i := 6) (N := some 23) (v := ?_) (a' := ?_) #[true, true, true, false, true, true, true, false, false, false] rfl rfl (any_of HT_.out (by kernel_rfl)) (fun _ _ _ h => h) (Or.inl ⟨by rfl, ?_⟩) ?_ ?_
        rotate_left
        ·intro w'
         go_simp
         with_reducible rfl
        rotate_left
        ·simp only [Act.put, List.setIfInBounds_toArray, List.set_cons_zero, List.set_cons_succ, i64_w, i32_w]
         rfl
        refine take_ (i := 3) (N := some 20) (v := ?_) (a' := ?_) #[true, true, true, true, true, true, true, false, false, false] rfl rfl (take_ofW HT_.out HW_.out (by kernel_rfl)) (fun _ _ _ h => h) (Or.inl ⟨by rfl, ?_⟩) hHeld ?_ ?_
        rotate_left
        ·rintro w' ⟨s0, s1, s2, s3, s4, s5, s6, s7, s8, s9, s10, s11, s12, s13⟩
         go_simp
         with_reducible rfl
        rotate_left
        ·simp only [Act.put, List.setIfInBounds_toArray, List.set_cons_zero, List.set_cons_succ, i64_w, i32_w]
         rfl
        refine take_ (i := 7) (N := some 24) (v := ?_) (a' := ?_) #[true, true, true, true, true, true, true, true, false, false] rfl rfl (take_ofW HT_.out HW_.out (by kernel_rfl)) (fun _ _ _ h => h) (Or.inl ⟨by rfl, ?_⟩) hHeld ?_ ?_
        rotate_left
        ·rintro w' ⟨s0, s1, s2, s3, s4, s5, s6, s7, s8, s9, s10, s11, s12, s13⟩
         go_simp
         with_reducible rfl
        rotate_left
        ·simp only [Act.put, List.setIfInBounds_toArray, List.set_cons_zero, List.set_cons_succ, i64_w, i32_w]
         rfl
        refine one_ (i := 8) (N := some 25) #[true, true, true, true, true, true, true, true, true, false] rfl rfl (one_of HT_.out (by kernel_rfl)) (by decide) (fun K hK => ?_)
        refine goes_ Try.func26 (by kernel_rfl) rfl #[.agg #[.int .i64 ((rd_T49 l0 x5_1).f0), .int .i64 ((rd_T49 l0 x5_1).f1), .int .i64 ((rd_T49 l0 x5_1).f2), .slice A141_3 ((rd_T49 l0 x5_1).f3).length c141_3, .int .i64 ((rd_T49 l0 x5_1).f4), .int .i64 ((rd_T49 l0 x5_1).f5), .slice A141_6 ((rd_T49 l0 x5_1).f6).length c141_6], .agg #[.int .i64 ((rd_T49 l1 x5_1).f0), .int .i64 ((rd_T49 l1 x5_1).f1), .int .i64 ((rd_T49 l1 x5_1).f2), .slice A142_3 ((rd_T49 l1 x5_1).f3).length c142_3, .int .i64 ((rd_T49 l1 x5_1).f4), .int .i64 ((rd_T49 l1 x5_1).f5), .slice A142_6 ((rd_T49 l1 x5_1).f6).length c142_6]] (by rfl) rfl rfl margs_ ?_
        with_reducible refine (limelightref01_One.calls k1 ((rd_T49 l0 x5_1).f0) ((rd_T49 l0 x5_1).f1) ((rd_T49 l0 x5_1).f2) _ _ ((rd_T49 l0 x5_1).f3) ((rd_T49 l0 x5_1).f4) ((rd_T49 l0 x5_1).f5) _ _ ((rd_T49 l0 x5_1).f6) ((rd_T49 l1 x5_1).f0) ((rd_T49 l1 x5_1).f1) ((rd_T49 l1 x5_1).f2) _ _ ((rd_T49 l1 x5_1).f3) ((rd_T49 l1 x5_1).f4) ((rd_T49 l1 x5_1).f5) _ _ ((rd_T49 l1 x5_1).f6) false _ ?side1 ?side2 ?side3 ?side4 ?side5 ?side6 ?side7 ?side8 A7.out).mono ?_
        (case side1 => exact kcb_ ((Kd.C_below HR141_3.out HB.out)))
        (case side2 => exact HC141_3.out)
        (case side3 => exact kcb_ ((Kd.C_below HR141_6.out HB.out)))
        (case side4 => exact HC141_6.out)
        (case side5 => exact kcb_ ((Kd.C_below HR142_3.out HB.out)))
        (case side6 => exact HC142_3.out)
        (case side7 => exact kcb_ ((Kd.C_below HR142_6.out HB.out)))
        (case side8 => exact HC142_6.out)
        rintro e w12 ⟨rfl, hb⟩
        refine ⟨_, rfl, ?_⟩
        have n0_ := Aside0.mk (below_step bel_ hb)
        clear HB
        have HB := n0_
        clear n0_
        (try clear hb)
        (try clear hb2)
        (try clear hk)
        (try clear hi)
        refine hK.out _ _ ⟨((HB.out.cell (World.block_lt_of_cell? w _ hw141_0)).trans hw141_0), ((HB.out.cell (World.block_lt_of_cell? w _ hw141_1)).trans hw141_1), ((HB.out.cell (World.block_lt_of_cell? w _ hw141_2)).trans hw141_2), ((HB.out.cell (World.block_lt_of_cell? w _ hw141_3)).trans hw141_3), ((HB.out.cell (World.block_lt_of_cell? w _ hw141_4)).trans hw141_4), ((HB.out.cell (World.block_lt_of_cell? w _ hw141_5)).trans hw141_5), ((HB.out.cell (World.block_lt_of_cell? w _ hw141_6)).trans hw141_6), ((HB.out.cell (World.block_lt_of_cell? w _ hw142_0)).trans hw142_0), ((HB.out.cell (World.block_lt_of_cell? w _ hw142_1)).trans hw142_1), ((HB.out.cell (World.block_lt_of_cell? w _ hw142_2)).trans hw142_2), ((HB.out.cell (World.block_lt_of_cell? w _ hw142_3)).trans hw142_3), ((HB.out.cell (World.block_lt_of_cell? w _ hw142_4)).trans hw142_4), ((HB.out.cell (World.block_lt_of_cell? w _ hw142_5)).trans hw142_5), ((HB.out.cell (World.block_lt_of_cell? w _ hw142_6)).trans hw142_6)⟩ (fun hHeld => ?_)
        clear hK K
        refine norm_ (a' := ?_) ?_ ?_
        rotate_left
        ·show Act.put _ (some 25) _ = _
         simp only [Act.put, List.setIfInBounds_toArray, List.set_cons_zero, List.set_cons_succ, i64_w, i32_w]
         rfl
        refine pure_ (i := 9) (N := some 26) (v := ?_) (a' := ?_) #[true, true, true, true, true, true, true, true, true, true] rfl rfl (any_of HT_.out (by kernel_rfl)) (fun _ _ _ h => h) (Or.inl ⟨by rfl, ?_⟩) ?_ ?_
        rotate_left
        ·intro w'
         go_simp
         with_reducible rfl
        rotate_left
        ·simp only [Act.put, List.setIfInBounds_toArray, List.set_cons_zero, List.set_cons_succ, i64_w, i32_w]
         rfl
        refine done_ (done_of HT_.out (by kernel_rfl)) ?_
        try go_wp2
        go_ret
        exact ⟨by first | rfl | (simp [errW_none, errW_some] <;> rfl) | (simp [*, errW_none, errW_some] <;> rfl), bel_⟩
      ·rw [if_neg c6] at H
       exact absurd H (by simp)
     ·rw [if_neg c5] at H
      exact absurd H (by simp)
    ·rw [if_neg c4] at H
     have c4b0 : decide (x5_1 < (l0.length : Int)) = false := decide_eq_false c4
     clear c4
     obtain rfl := Option.some.inj H
     go_wp2
     go_ret
     exact ⟨by first | rfl | (simp [errW_none, errW_some] <;> rfl) | (simp [*, errW_none, errW_some] <;> rfl), bel_⟩
 ·rw [if_neg c3] at H
  have c3b0 : ((l0.length : Int) == (l1.length : Int)) = false := beq_eq_false_iff_ne.mpr c3
  have c3b1 : ((l0.length : Int) != (l1.length : Int)) = true := bne_iff_ne.mpr c3
  have c3b2 : (l0.length == l1.length) = false := by first | simpa using c3 | (simp at c3 ⊢; omega)
  obtain rfl := Option.some.inj H
  go_enter Try.func15, Try.ntmps15
  go_wp2
  go_ret
  exact ⟨by first | rfl | (simp [errW_none, errW_some] <;> rfl) | (simp [*, errW_none, errW_some] <;> rfl), bel_⟩

end Go.Proofs.Ytclhmgchllenlaa.P
