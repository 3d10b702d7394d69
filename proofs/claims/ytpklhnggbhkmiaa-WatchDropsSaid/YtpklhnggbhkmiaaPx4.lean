-- printed by wip/tools/pp.sh (a patched copy of the print's program), for this claim.
import Derived.Test.YtpklhnggbhkmiaaPx0
namespace Go.Proofs.Ytpklhnggbhkmiaa.P
open Go.RowKit Go.Proofs.YtpklhnggbhkmiaaW.PrintWords Go.Proofs.YtpklhnggbhkmiaaW.PrintLast Go.Proofs.YtpklhnggbhkmiaaW.PrintMore
attribute [local go_sem] max2_int min2_int max_two min_two max_three min_three max_four min_four   -- for this text's walks alone
set_option linter.unusedVariables false
set_option linter.unusedSimpArgs false

/-! ### limelightref18_Same: function 16 -/
mutual
def limelightref18_Same.j0 : Nat → Bool → List (List Int) → Int → Bool → List (List Int) → Int → Bool → Option (Bool)
 | 0, _, _, _, _, _, _, _ => none
 | k + 1, x27, x209000, x209001, x209002, x210000, x210001, x210002 => if x27 = true then (some false) else (limelightref18_Same.l0 k 0 x209000 x209001 x209002 x210000 x210001 x210002)
def limelightref18_Same.l0 : Nat → Int → List (List Int) → Int → Bool → List (List Int) → Int → Bool → Option (Bool)
 | 0, _, _, _, _, _, _, _ => none
 | k + 1, x5, x209000, x209001, x209002, x210000, x210001, x210002 => if x5 < (x209000.length : Int) then (if 0 ≤ x5 then (if x5 < (x210000.length : Int) then (if ((rd_L1 x209000 x5).length : Int) = ((rd_L1 x210000 x5).length : Int) then (limelightref18_Same.l1 k x5 0 x209000 x209001 x209002 x210000 x210001 x210002) else (some false)) else (none)) else (none)) else (some true)
def limelightref18_Same.l1 : Nat → Int → Int → List (List Int) → Int → Bool → List (List Int) → Int → Bool → Option (Bool)
 | 0, _, _, _, _, _, _, _, _ => none
 | k + 1, x5, x6, x209000, x209001, x209002, x210000, x210001, x210002 => if 0 ≤ x5 then (if x5 < (x209000.length : Int) then (if x6 < ((rd_L1 x209000 x5).length : Int) then (if 0 ≤ x6 then (if x5 < (x210000.length : Int) then (if x6 < ((rd_L1 x210000 x5).length : Int) then (if (rd (rd_L1 x209000 x5) x6) = (rd (rd_L1 x210000 x5) x6) then (limelightref18_Same.l1 k x5 (wrap64 (x6 + 1)) x209000 x209001 x209002 x210000 x210001 x210002) else (some false)) else (none)) else (none)) else (none)) else (limelightref18_Same.l0 k (wrap64 (x5 + 1)) x209000 x209001 x209002 x210000 x210001 x210002)) else (none)) else (none)
end
def limelightref18_Same.f (k : Nat) (l0_0 : List (List Int)) (a0_1 : Int) (a0_2 : Bool) (l1_0 : List (List Int)) (a1_1 : Int) (a1_2 : Bool) : Option (Bool) := if (l0_0.length : Int) = (l1_0.length : Int) then (if a0_1 = a1_1 then (limelightref18_Same.j0 k (a0_2 != a1_2) l0_0 a0_1 a0_2 l1_0 a1_1 a1_2) else (limelightref18_Same.j0 k true l0_0 a0_1 a0_2 l1_0 a1_1 a1_2)) else (limelightref18_Same.j0 k true l0_0 a0_1 a0_2 l1_0 a1_1 a1_2)
theorem limelightref18_Same.mono_l : ∀ k, (∀ y0 y1 y2 y3 y4 y5 y6, LeO (limelightref18_Same.j0 k y0 y1 y2 y3 y4 y5 y6) (limelightref18_Same.j0 (k + 1) y0 y1 y2 y3 y4 y5 y6)) ∧ (∀ y0 y1 y2 y3 y4 y5 y6, LeO (limelightref18_Same.l0 k y0 y1 y2 y3 y4 y5 y6) (limelightref18_Same.l0 (k + 1) y0 y1 y2 y3 y4 y5 y6)) ∧ (∀ y0 y1 y2 y3 y4 y5 y6 y7, LeO (limelightref18_Same.l1 k y0 y1 y2 y3 y4 y5 y6 y7) (limelightref18_Same.l1 (k + 1) y0 y1 y2 y3 y4 y5 y6 y7))
 | 0 => ⟨fun _ _ _ _ _ _ _ r h => by simp [limelightref18_Same.j0] at h, fun _ _ _ _ _ _ _ r h => by simp [limelightref18_Same.l0] at h, fun _ _ _ _ _ _ _ _ r h => by simp [limelightref18_Same.l1] at h⟩
 | k + 1 => by
  obtain ⟨ih0, ih1, ih2⟩ := limelightref18_Same.mono_l k
  refine ⟨?_, ?_, ?_⟩
  ·intro y0 y1 y2 y3 y4 y5 y6
   unfold limelightref18_Same.j0
   repeat' first
   | (with_reducible exact ih0 _ _ _ _ _ _ _)
   | (with_reducible exact ih1 _ _ _ _ _ _ _)
   | (with_reducible exact ih2 _ _ _ _ _ _ _ _)
   | (with_reducible exact LeO.refl _)
   | (with_reducible exact LeO.none _)
   | (with_reducible refine LeO.ite ?_ ?_)
   | (with_reducible refine LeO.bind ?_ (fun _ => ?_))
   | exact ih0 _ _ _ _ _ _ _
   | exact ih1 _ _ _ _ _ _ _
   | exact ih2 _ _ _ _ _ _ _ _
   | exact LeO.none _
   | refine LeO.ite ?_ ?_
   | refine LeO.bind ?_ (fun _ => ?_)
  ·intro y0 y1 y2 y3 y4 y5 y6
   unfold limelightref18_Same.l0
   repeat' first
   | (with_reducible exact ih0 _ _ _ _ _ _ _)
   | (with_reducible exact ih1 _ _ _ _ _ _ _)
   | (with_reducible exact ih2 _ _ _ _ _ _ _ _)
   | (with_reducible exact LeO.refl _)
   | (with_reducible exact LeO.none _)
   | (with_reducible refine LeO.ite ?_ ?_)
   | (with_reducible refine LeO.bind ?_ (fun _ => ?_))
   | exact ih0 _ _ _ _ _ _ _
   | exact ih1 _ _ _ _ _ _ _
   | exact ih2 _ _ _ _ _ _ _ _
   | exact LeO.none _
   | refine LeO.ite ?_ ?_
   | refine LeO.bind ?_ (fun _ => ?_)
  ·intro y0 y1 y2 y3 y4 y5 y6 y7
   unfold limelightref18_Same.l1
   repeat' first
   | (with_reducible exact ih0 _ _ _ _ _ _ _)
   | (with_reducible exact ih1 _ _ _ _ _ _ _)
   | (with_reducible exact ih2 _ _ _ _ _ _ _ _)
   | (with_reducible exact LeO.refl _)
   | (with_reducible exact LeO.none _)
   | (with_reducible refine LeO.ite ?_ ?_)
   | (with_reducible refine LeO.bind ?_ (fun _ => ?_))
   | exact ih0 _ _ _ _ _ _ _
   | exact ih1 _ _ _ _ _ _ _
   | exact ih2 _ _ _ _ _ _ _ _
   | exact LeO.none _
   | refine LeO.ite ?_ ?_
   | refine LeO.bind ?_ (fun _ => ?_)
theorem limelightref18_Same.mono : ∀ a0 a1 a2 a3 a4 a5 k, LeO (limelightref18_Same.f k a0 a1 a2 a3 a4 a5) (limelightref18_Same.f (k + 1) a0 a1 a2 a3 a4 a5) := by
 intro a0 a1 a2 a3 a4 a5 k
 obtain ⟨ih0, ih1, ih2⟩ := limelightref18_Same.mono_l k
 unfold limelightref18_Same.f
 repeat' first
   | (with_reducible exact ih0 _ _ _ _ _ _ _)
   | (with_reducible exact ih1 _ _ _ _ _ _ _)
   | (with_reducible exact ih2 _ _ _ _ _ _ _ _)
   | (with_reducible exact LeO.refl _)
   | (with_reducible exact LeO.none _)
   | (with_reducible refine LeO.ite ?_ ?_)
   | (with_reducible refine LeO.bind ?_ (fun _ => ?_))
   | exact ih0 _ _ _ _ _ _ _
   | exact ih1 _ _ _ _ _ _ _
   | exact ih2 _ _ _ _ _ _ _ _
   | exact LeO.none _
   | refine LeO.ite ?_ ?_
   | refine LeO.bind ?_ (fun _ => ?_)
set_option maxHeartbeats 8000000 in
set_option maxRecDepth 100000 in
theorem limelightref18_Same.calls (k : Nat) (A0_0 : Option Addr) (c0_0 : Nat) (l0_0 : List (List Int)) (a0_1 : Int) (a0_2 : Bool) (A1_0 : Option Addr) (c1_0 : Nat) (l1_0 : List (List Int)) (a1_1 : Int) (a1_2 : Bool) (r : Bool) (w : World) (hr0_0 : Kd.C (Kd.slice 3 (Kd.int .i64)) w A0_0 l0_0.length l0_0) (hc0_0 : l0_0.length ≤ c0_0) (hr1_0 : Kd.C (Kd.slice 3 (Kd.int .i64)) w A1_0 l1_0.length l1_0) (hc1_0 : l1_0.length ≤ c1_0) (h : limelightref18_Same.f k l0_0 a0_1 a0_2 l1_0 a1_1 a1_2 = some r) :
  Calls Try.prog 16 #[.agg #[.slice A0_0 l0_0.length c0_0, .int .i64 a0_1, .bool a0_2], .agg #[.slice A1_0 l1_0.length c1_0, .int .i64 a1_1, .bool a1_2]] w fun e w' => e = .returned (.bool r) ∧ Below w.heap.size w w' := by
 have hu33 := Try.underlying33
 have HR0_0 := Aside0.mk hr0_0
 have HC0_0 := Aside0.mk hc0_0
 clear hr0_0 hc0_0
 have HR1_0 := Aside0.mk hr1_0
 have HC1_0 := Aside0.mk hc1_0
 clear hr1_0 hc1_0
 have HB := Aside0.mk (Below.refl w.heap.size w)
 have H : (if (l0_0.length : Int) = (l1_0.length : Int) then (if a0_1 = a1_1 then (limelightref18_Same.j0 k (a0_2 != a1_2) l0_0 a0_1 a0_2 l1_0 a1_1 a1_2) else (limelightref18_Same.j0 k true l0_0 a0_1 a0_2 l1_0 a1_1 a1_2)) else (limelightref18_Same.j0 k true l0_0 a0_1 a0_2 l1_0 a1_1 a1_2)) = some r := h
 clear h
 have HC3 := Aside0.mk H
 clear H
 go_enter Try.func16, Try.ntmps16
 go_upto_region 1 with (first | ((with_reducible refine gate_dst (N := 2) rfl ?_); refine box_event ?hg (N := 2) ?hd (cs := #[.slice A0_0 l0_0.length c0_0, .int .i64 a0_1, .bool a0_2]) (t := 33) ?hr ?_; (case hd => rfl); (case hg => rfl); (case hr => first | (go_simp; done) | (go_simp; rfl)); intro gb208 hg w4 hbox hb; have n0_ := Aside0.mk (below_step bel_ hb); have n1_ := Aside0.mk (hbox); have n2_ := Aside0.mk ((by rw [hg]; exact (below_size bel_) : w.heap.size ≤ gb208)); have n3_ := Aside0.mk ((by rw [hg]; exact (below_size bel_) : w.heap.size ≤ gb208)); clear HB; have HB := n0_; have BK208 := n1_; have GW208 := n2_; have GE208 := n3_; clear n0_ n1_ n2_ n3_; clear hb hbox hg) | ((with_reducible refine gate_dst (N := 3) rfl ?_); refine box_event ?hg (N := 3) ?hd (cs := #[.slice A1_0 l1_0.length c1_0, .int .i64 a1_1, .bool a1_2]) (t := 33) ?hr ?_; (case hd => rfl); (case hg => rfl); (case hr => first | (go_simp; done) | (go_simp; rfl)); intro gb209 hg w5 hbox hb; have n0_ := Aside0.mk (blk_below (g := gb208) (o := .cells #[.slice A0_0 l0_0.length c0_0, .int .i64 a0_1, .bool a0_2] 33 (0, 0)) (blkx_ BK208.out) hb); have n1_ := Aside0.mk (below_step (belg_ GE208.out) hb); have n2_ := Aside0.mk (hbox); have n3_ := Aside0.mk ((by rw [hg]; exact (below_size (belg_ GE208.out)) : w.heap.size ≤ gb209)); have n4_ := Aside0.mk ((by rw [hg]; exact (below_size (belg_ GE208.out)) : w.heap.size ≤ gb209)); have n5_ := Aside0.mk ((by rw [hg]; exact Nat.ne_of_lt (blk_lt (g := gb208) (o := .cells #[.slice A0_0 l0_0.length c0_0, .int .i64 a0_1, .bool a0_2] 33 (0, 0)) (blkx_ BK208.out)) : gb208 ≠ gb209)); have n6_ := Aside0.mk ((by rw [hg]; exact Nat.ne_of_gt (blk_lt (g := gb208) (o := .cells #[.slice A0_0 l0_0.length c0_0, .int .i64 a0_1, .bool a0_2] 33 (0, 0)) (blkx_ BK208.out)) : gb209 ≠ gb208)); clear BK208; clear HB; have BK208 := n0_; have HB := n1_; have BK209 := n2_; have GW209 := n3_; have GE209 := n4_; have NB208_209 := n5_; have NB209_208 := n6_; clear n0_ n1_ n2_ n3_ n4_ n5_ n6_; clear hb hbox hg))
 repeat (go_quiet (first | ((with_reducible refine gate_dst (N := 2) rfl ?_); refine box_event ?hg (N := 2) ?hd (cs := #[.slice A0_0 l0_0.length c0_0, .int .i64 a0_1, .bool a0_2]) (t := 33) ?hr ?_; (case hd => rfl); (case hg => rfl); (case hr => first | (go_simp; done) | (go_simp; rfl)); intro gb208 hg w4 hbox hb; have n0_ := Aside0.mk (below_step bel_ hb); have n1_ := Aside0.mk (hbox); have n2_ := Aside0.mk ((by rw [hg]; exact (below_size bel_) : w.heap.size ≤ gb208)); have n3_ := Aside0.mk ((by rw [hg]; exact (below_size bel_) : w.heap.size ≤ gb208)); clear HB; have HB := n0_; have BK208 := n1_; have GW208 := n2_; have GE208 := n3_; clear n0_ n1_ n2_ n3_; clear hb hbox hg) | ((with_reducible refine gate_dst (N := 3) rfl ?_); refine box_event ?hg (N := 3) ?hd (cs := #[.slice A1_0 l1_0.length c1_0, .int .i64 a1_1, .bool a1_2]) (t := 33) ?hr ?_; (case hd => rfl); (case hg => rfl); (case hr => first | (go_simp; done) | (go_simp; rfl)); intro gb209 hg w5 hbox hb; have n0_ := Aside0.mk (blk_below (g := gb208) (o := .cells #[.slice A0_0 l0_0.length c0_0, .int .i64 a0_1, .bool a0_2] 33 (0, 0)) (blkx_ BK208.out) hb); have n1_ := Aside0.mk (below_step (belg_ GE208.out) hb); have n2_ := Aside0.mk (hbox); have n3_ := Aside0.mk ((by rw [hg]; exact (below_size (belg_ GE208.out)) : w.heap.size ≤ gb209)); have n4_ := Aside0.mk ((by rw [hg]; exact (below_size (belg_ GE208.out)) : w.heap.size ≤ gb209)); have n5_ := Aside0.mk ((by rw [hg]; exact Nat.ne_of_lt (blk_lt (g := gb208) (o := .cells #[.slice A0_0 l0_0.length c0_0, .int .i64 a0_1, .bool a0_2] 33 (0, 0)) (blkx_ BK208.out)) : gb208 ≠ gb209)); have n6_ := Aside0.mk ((by rw [hg]; exact Nat.ne_of_gt (blk_lt (g := gb208) (o := .cells #[.slice A0_0 l0_0.length c0_0, .int .i64 a0_1, .bool a0_2] 33 (0, 0)) (blkx_ BK208.out)) : gb209 ≠ gb208)); clear BK208; clear HB; have BK208 := n0_; have HB := n1_; have BK209 := n2_; have GW209 := n3_; have GE209 := n4_; have NB208_209 := n5_; have NB209_208 := n6_; clear n0_ n1_ n2_ n3_ n4_ n5_ n6_; clear hb hbox hg)); go_upto_region 1 with (first | ((with_reducible refine gate_dst (N := 2) rfl ?_); refine box_event ?hg (N := 2) ?hd (cs := #[.slice A0_0 l0_0.length c0_0, .int .i64 a0_1, .bool a0_2]) (t := 33) ?hr ?_; (case hd => rfl); (case hg => rfl); (case hr => first | (go_simp; done) | (go_simp; rfl)); intro gb208 hg w4 hbox hb; have n0_ := Aside0.mk (below_step bel_ hb); have n1_ := Aside0.mk (hbox); have n2_ := Aside0.mk ((by rw [hg]; exact (below_size bel_) : w.heap.size ≤ gb208)); have n3_ := Aside0.mk ((by rw [hg]; exact (below_size bel_) : w.heap.size ≤ gb208)); clear HB; have HB := n0_; have BK208 := n1_; have GW208 := n2_; have GE208 := n3_; clear n0_ n1_ n2_ n3_; clear hb hbox hg) | ((with_reducible refine gate_dst (N := 3) rfl ?_); refine box_event ?hg (N := 3) ?hd (cs := #[.slice A1_0 l1_0.length c1_0, .int .i64 a1_1, .bool a1_2]) (t := 33) ?hr ?_; (case hd => rfl); (case hg => rfl); (case hr => first | (go_simp; done) | (go_simp; rfl)); intro gb209 hg w5 hbox hb; have n0_ := Aside0.mk (blk_below (g := gb208) (o := .cells #[.slice A0_0 l0_0.length c0_0, .int .i64 a0_1, .bool a0_2] 33 (0, 0)) (blkx_ BK208.out) hb); have n1_ := Aside0.mk (below_step (belg_ GE208.out) hb); have n2_ := Aside0.mk (hbox); have n3_ := Aside0.mk ((by rw [hg]; exact (below_size (belg_ GE208.out)) : w.heap.size ≤ gb209)); have n4_ := Aside0.mk ((by rw [hg]; exact (below_size (belg_ GE208.out)) : w.heap.size ≤ gb209)); have n5_ := Aside0.mk ((by rw [hg]; exact Nat.ne_of_lt (blk_lt (g := gb208) (o := .cells #[.slice A0_0 l0_0.length c0_0, .int .i64 a0_1, .bool a0_2] 33 (0, 0)) (blkx_ BK208.out)) : gb208 ≠ gb209)); have n6_ := Aside0.mk ((by rw [hg]; exact Nat.ne_of_gt (blk_lt (g := gb208) (o := .cells #[.slice A0_0 l0_0.length c0_0, .int .i64 a0_1, .bool a0_2] 33 (0, 0)) (blkx_ BK208.out)) : gb209 ≠ gb208)); clear BK208; clear HB; have BK208 := n0_; have HB := n1_; have BK209 := n2_; have GW209 := n3_; have GE209 := n4_; have NB208_209 := n5_; have NB209_208 := n6_; clear n0_ n1_ n2_ n3_ n4_ n5_ n6_; clear hb hbox hg)))
 (try simp only [Act.put, List.setIfInBounds_toArray, List.set_cons_zero, List.set_cons_succ])
 go_cut [27] (fun v27 wc => ∃ (kq : Nat) (x27_2 : Bool), v27 = .bool x27_2 ∧ Aside0 (limelightref18_Same.j0 kq x27_2 l0_0 a0_1 a0_2 l1_0 a1_1 a1_2 = some r) ∧ Aside0 (kq ≤ k) ∧ Aside0 (wc.heap[gb208]? = some (.cells #[(.slice A0_0 l0_0.length c0_0), .int .i64 a0_1, .bool a0_2] 33 (0, 0))) ∧ Aside0 (wc.heap[gb209]? = some (.cells #[(.slice A1_0 l1_0.length c1_0), .int .i64 a1_1, .bool a1_2] 33 (0, 0))) ∧ Aside0 (Below w.heap.size w wc))
 case first =>
  have H := HC3.out
  clear HC3
  by_cases c6 : (l0_0.length : Int) = (l1_0.length : Int)
  ·rw [if_pos c6] at H
   have c6b0 : ((l0_0.length : Int) == (l1_0.length : Int)) = true := beq_iff_eq.mpr c6
   have c6b1 : ((l0_0.length : Int) != (l1_0.length : Int)) = false := bne_eq_false_iff_eq.mpr c6
   have c6b2 : (l0_0.length == l1_0.length) = true := by first | simpa using c6 | (simp at c6 ⊢; omega)
   clear c6
   (first | rw [c6b0] | (simp only [i64_w, i32_w]; rw [c6b0]) | skip)
   by_cases c7 : a0_1 = a1_1
   ·rw [if_pos c7] at H
    have c7b0 : (a0_1 == a1_1) = true := beq_iff_eq.mpr c7
    have c7b1 : (a0_1 != a1_1) = false := bne_eq_false_iff_eq.mpr c7
    clear c7
    have H' := Aside0.mk H
    clear H
    have hnb8 := NB208_209.out
    have hnc8 := NB209_208.out
    have hcz9_0 : w5.cell? ⟨gb208, 0, none⟩ = some (.slice A0_0 l0_0.length c0_0) := (blk_cell BK208.out 0).trans rfl
    have hcz9_1 : w5.cell? ⟨gb208, 1, none⟩ = some (.int .i64 a0_1) := (blk_cell BK208.out 1).trans rfl
    have hcz9_2 : w5.cell? ⟨gb208, 2, none⟩ = some (.bool a0_2) := (blk_cell BK208.out 2).trans rfl
    have hfz9_0 := blk_frozen BK208.out 0
    have hfz9_1 := blk_frozen BK208.out 1
    have hfz9_2 := blk_frozen BK208.out 2
    have hcz10_0 : w5.cell? ⟨gb209, 0, none⟩ = some (.slice A1_0 l1_0.length c1_0) := (blk_cell BK209.out 0).trans rfl
    have hcz10_1 : w5.cell? ⟨gb209, 1, none⟩ = some (.int .i64 a1_1) := (blk_cell BK209.out 1).trans rfl
    have hcz10_2 : w5.cell? ⟨gb209, 2, none⟩ = some (.bool a1_2) := (blk_cell BK209.out 2).trans rfl
    have hfz10_0 := blk_frozen BK209.out 0
    have hfz10_1 := blk_frozen BK209.out 1
    have hfz10_2 := blk_frozen BK209.out 2
    go_wp2
    repeat (go_quiet (fail); try go_wp2)
    go_meet
    case rel => exact ⟨_, ((a0_2 != a1_2)), (by first | rfl | (simp; done) | (simp [*]; done)), H', ⟨by first | omega | exact Nat.le_refl _⟩, ⟨blkx_ BK208.out⟩, ⟨blkx_ BK209.out⟩, ⟨by repeat (first | (with_reducible first | exact HB.out | apply below_alloc | apply pw_below_drewN | apply below_drew1 | refine below_set ?_ GE208.out | refine below_set ?_ GE209.out) | exact HB.out)⟩⟩
   ·rw [if_neg c7] at H
    have c7b0 : (a0_1 == a1_1) = false := beq_eq_false_iff_ne.mpr c7
    have c7b1 : (a0_1 != a1_1) = true := bne_iff_ne.mpr c7
    have H' := Aside0.mk H
    clear H
    have hnb11 := NB208_209.out
    have hnc11 := NB209_208.out
    have hcz12_0 : w5.cell? ⟨gb208, 0, none⟩ = some (.slice A0_0 l0_0.length c0_0) := (blk_cell BK208.out 0).trans rfl
    have hcz12_1 : w5.cell? ⟨gb208, 1, none⟩ = some (.int .i64 a0_1) := (blk_cell BK208.out 1).trans rfl
    have hcz12_2 : w5.cell? ⟨gb208, 2, none⟩ = some (.bool a0_2) := (blk_cell BK208.out 2).trans rfl
    have hfz12_0 := blk_frozen BK208.out 0
    have hfz12_1 := blk_frozen BK208.out 1
    have hfz12_2 := blk_frozen BK208.out 2
    have hcz13_0 : w5.cell? ⟨gb209, 0, none⟩ = some (.slice A1_0 l1_0.length c1_0) := (blk_cell BK209.out 0).trans rfl
    have hcz13_1 : w5.cell? ⟨gb209, 1, none⟩ = some (.int .i64 a1_1) := (blk_cell BK209.out 1).trans rfl
    have hcz13_2 : w5.cell? ⟨gb209, 2, none⟩ = some (.bool a1_2) := (blk_cell BK209.out 2).trans rfl
    have hfz13_0 := blk_frozen BK209.out 0
    have hfz13_1 := blk_frozen BK209.out 1
    have hfz13_2 := blk_frozen BK209.out 2
    go_wp2
    repeat (go_quiet (fail); try go_wp2)
    go_meet
    case rel => exact ⟨_, (true), (by first | rfl | (simp; done) | (simp [*]; done)), H', ⟨by first | omega | exact Nat.le_refl _⟩, ⟨blkx_ BK208.out⟩, ⟨blkx_ BK209.out⟩, ⟨by repeat (first | (with_reducible first | exact HB.out | apply below_alloc | apply pw_below_drewN | apply below_drew1 | refine below_set ?_ GE208.out | refine below_set ?_ GE209.out) | exact HB.out)⟩⟩
  ·rw [if_neg c6] at H
   have c6b0 : ((l0_0.length : Int) == (l1_0.length : Int)) = false := beq_eq_false_iff_ne.mpr c6
   have c6b1 : ((l0_0.length : Int) != (l1_0.length : Int)) = true := bne_iff_ne.mpr c6
   have c6b2 : (l0_0.length == l1_0.length) = false := by first | simpa using c6 | (simp at c6 ⊢; omega)
   (first | rw [c6b0] | (simp only [i64_w, i32_w]; rw [c6b0]) | skip)
   have H' := Aside0.mk H
   clear H
   have hnb14 := NB208_209.out
   have hnc14 := NB209_208.out
   have hcz15_0 : w5.cell? ⟨gb208, 0, none⟩ = some (.slice A0_0 l0_0.length c0_0) := (blk_cell BK208.out 0).trans rfl
   have hcz15_1 : w5.cell? ⟨gb208, 1, none⟩ = some (.int .i64 a0_1) := (blk_cell BK208.out 1).trans rfl
   have hcz15_2 : w5.cell? ⟨gb208, 2, none⟩ = some (.bool a0_2) := (blk_cell BK208.out 2).trans rfl
   have hfz15_0 := blk_frozen BK208.out 0
   have hfz15_1 := blk_frozen BK208.out 1
   have hfz15_2 := blk_frozen BK208.out 2
   have hcz16_0 : w5.cell? ⟨gb209, 0, none⟩ = some (.slice A1_0 l1_0.length c1_0) := (blk_cell BK209.out 0).trans rfl
   have hcz16_1 : w5.cell? ⟨gb209, 1, none⟩ = some (.int .i64 a1_1) := (blk_cell BK209.out 1).trans rfl
   have hcz16_2 : w5.cell? ⟨gb209, 2, none⟩ = some (.bool a1_2) := (blk_cell BK209.out 2).trans rfl
   have hfz16_0 := blk_frozen BK209.out 0
   have hfz16_1 := blk_frozen BK209.out 1
   have hfz16_2 := blk_frozen BK209.out 2
   go_wp2
   repeat (go_quiet (fail); try go_wp2)
   go_meet
   case rel => exact ⟨_, (true), (by first | rfl | (simp; done) | (simp [*]; done)), H', ⟨by first | omega | exact Nat.le_refl _⟩, ⟨blkx_ BK208.out⟩, ⟨blkx_ BK209.out⟩, ⟨by repeat (first | (with_reducible first | exact HB.out | apply below_alloc | apply pw_below_drewN | apply below_drew1 | refine below_set ?_ GE208.out | refine below_set ?_ GE209.out) | exact HB.out)⟩⟩
 case rest =>
  clear HC3
  try clear c1
  try clear p2
  try clear c6
  try clear c6b0
  try clear c6b1
  try clear c6b2
  try clear c7
  try clear c7b0
  try clear c7b1
  try clear c8
  try clear c11
  try clear c14
  try clear c16
  try clear hcz10_0
  try clear hcz10_1
  try clear hcz10_2
  try clear hcz12_0
  try clear hcz12_1
  try clear hcz12_2
  try clear hcz13_0
  try clear hcz13_1
  try clear hcz13_2
  try clear hcz15_0
  try clear hcz15_1
  try clear hcz15_2
  try clear hcz16_0
  try clear hcz16_1
  try clear hcz16_2
  try clear hcz9_0
  try clear hcz9_1
  try clear hcz9_2
  try clear hfz10_0
  try clear hfz10_1
  try clear hfz10_2
  try clear hfz12_0
  try clear hfz12_1
  try clear hfz12_2
  try clear hfz13_0
  try clear hfz13_1
  try clear hfz13_2
  try clear hfz15_0
  try clear hfz15_1
  try clear hfz15_2
  try clear hfz16_0
  try clear hfz16_1
  try clear hfz16_2
  try clear hfz9_0
  try clear hfz9_1
  try clear hfz9_2
  obtain ⟨kq, x27_2, rfl, HA, HJ2, BK208, BK209, HB⟩ := hcut
  cases kq with
  | zero => exact absurd HA.out (by simp [limelightref18_Same.j0])
  | succ kj2 =>
   have H := HA.out
   clear HA
   simp only [limelightref18_Same.j0] at H
   by_cases c17 : x27_2 = true
   ·subst c17
    have H1 : (some false) = some r := by rw [if_pos rfl] at H; exact H
    clear H
    have H := H1
    clear H1
    obtain rfl := Option.some.inj H
    go_wp2
    repeat (go_quiet (fail); try go_wp2)
    go_ret
    exact ⟨by first | rfl | (simp [errW_none, errW_some] <;> rfl) | (simp [*, errW_none, errW_some] <;> rfl), by repeat (first | (with_reducible first | exact HB.out | apply below_alloc | apply pw_below_drewN | apply below_drew1 | refine below_set ?_ GE208.out | refine below_set ?_ GE209.out) | exact HB.out)⟩
   ·replace c17 := Bool.eq_false_iff.mpr c17
    subst c17
    have H1 : (limelightref18_Same.l0 kj2 0 l0_0 a0_1 a0_2 l1_0 a1_1 a1_2) = some r := by rw [if_neg (show ¬ (false = true) by decide)] at H; exact H
    clear H
    have H := H1
    clear H1
    have H' := Aside0.mk H
    clear H
    go_wp2
    repeat (go_quiet (fail); try go_wp2)
    go_loopg [5] kj2 (fun kq v5 w' => ∃ (x5_2 : Int), v5 = .int .i64 x5_2 ∧ Aside0 (limelightref18_Same.l0 kq x5_2 l0_0 a0_1 a0_2 l1_0 a1_1 a1_2 = some r) ∧ Aside0 (kq ≤ kj2) ∧ Aside0 (w'.heap[gb208]? = some (.cells #[(.slice A0_0 l0_0.length c0_0), .int .i64 a0_1, .bool a0_2] 33 (0, 0))) ∧ Aside0 (w'.heap[gb209]? = some (.cells #[(.slice A1_0 l1_0.length c1_0), .int .i64 a1_1, .bool a1_2] 33 (0, 0))) ∧ Aside0 (Below w.heap.size w w'))
    case atStart => exact ⟨(0), (by first | rfl | (simp; done) | (simp [*]; done)), H', ⟨Nat.le_refl _⟩, ⟨blkx_ BK208.out⟩, ⟨blkx_ BK209.out⟩, ⟨by repeat (first | (with_reducible first | exact HB.out | apply below_alloc | apply pw_below_drewN | apply below_drew1 | refine below_set ?_ GE208.out | refine below_set ?_ GE209.out) | exact HB.out)⟩⟩
    case round =>
     clear H'
     try clear c1
     try clear p2
     try clear c6
     try clear c6b0
     try clear c6b1
     try clear c6b2
     try clear c7
     try clear c7b0
     try clear c7b1
     try clear c8
     try clear c11
     try clear c14
     try clear c16
     try clear c17
     try clear hcz10_0
     try clear hcz10_1
     try clear hcz10_2
     try clear hcz12_0
     try clear hcz12_1
     try clear hcz12_2
     try clear hcz13_0
     try clear hcz13_1
     try clear hcz13_2
     try clear hcz15_0
     try clear hcz15_1
     try clear hcz15_2
     try clear hcz16_0
     try clear hcz16_1
     try clear hcz16_2
     try clear hcz9_0
     try clear hcz9_1
     try clear hcz9_2
     try clear hfz10_0
     try clear hfz10_1
     try clear hfz10_2
     try clear hfz12_0
     try clear hfz12_1
     try clear hfz12_2
     try clear hfz13_0
     try clear hfz13_1
     try clear hfz13_2
     try clear hfz15_0
     try clear hfz15_1
     try clear hfz15_2
     try clear hfz16_0
     try clear hfz16_1
     try clear hfz16_2
     try clear hfz9_0
     try clear hfz9_1
     try clear hfz9_2
     try clear p2
     obtain ⟨x5_2, rfl, HA, HK2, BK208, BK209, HB⟩ := hrel
     cases gk with
     | zero => exact absurd HA.out (by simp [limelightref18_Same.l0])
     | succ k2 =>
      have H := HA.out
      clear HA
      simp only [limelightref18_Same.l0] at H
      by_cases c18 : x5_2 < (l0_0.length : Int)
      ·rw [if_pos c18] at H
       have c18b0 : decide (x5_2 < (l0_0.length : Int)) = true := decide_eq_true c18
       clear c18
       by_cases c19 : 0 ≤ x5_2
       ·rw [if_pos c19] at H
        have c19b0 : decide (0 ≤ x5_2) = true := decide_eq_true c19
        clear c19
        by_cases c20 : x5_2 < (l1_0.length : Int)
        ·rw [if_pos c20] at H
         have c20b0 : decide (x5_2 < (l1_0.length : Int)) = true := decide_eq_true c20
         clear c20
         by_cases c21 : ((rd_L1 l0_0 x5_2).length : Int) = ((rd_L1 l1_0 x5_2).length : Int)
         ·rw [if_pos c21] at H
          have c21b0 : (((rd_L1 l0_0 x5_2).length : Int) == ((rd_L1 l1_0 x5_2).length : Int)) = true := beq_iff_eq.mpr c21
          have c21b1 : (((rd_L1 l0_0 x5_2).length : Int) != ((rd_L1 l1_0 x5_2).length : Int)) = false := bne_eq_false_iff_eq.mpr c21
          have c21b2 : ((rd_L1 l0_0 x5_2).length == (rd_L1 l1_0 x5_2).length) = true := by first | simpa using c21 | (simp at c21 ⊢; omega)
          clear c21
          have H' := Aside0.mk H
          clear H
          have hnb22 := NB208_209.out
          have hnc22 := NB209_208.out
          have hcz23_0 : wr.cell? ⟨gb208, 0, none⟩ = some (.slice A0_0 l0_0.length c0_0) := (blk_cell BK208.out 0).trans rfl
          have hcz23_1 : wr.cell? ⟨gb208, 1, none⟩ = some (.int .i64 a0_1) := (blk_cell BK208.out 1).trans rfl
          have hcz23_2 : wr.cell? ⟨gb208, 2, none⟩ = some (.bool a0_2) := (blk_cell BK208.out 2).trans rfl
          have hfz23_0 := blk_frozen BK208.out 0
          have hfz23_1 := blk_frozen BK208.out 1
          have hfz23_2 := blk_frozen BK208.out 2
          have p210 : 0 ≤ (x5_2 : Int) := of_decide_eq_true asm_
          have q210 : x5_2 < (l0_0.length : Int) := of_decide_eq_true asm_
          obtain ⟨ad210, A210_0, c210_0, e210, hx210_0, hl210_0, hi210_0⟩ := at_L1 HR0_0.out x5_2 p210 q210
          cases e210
          replace hx210_0 := (HB.out.cell (World.block_lt_of_cell? w _ hx210_0)).trans hx210_0
          have HR210_0 := Aside0.mk hi210_0
          have HC210_0 := Aside0.mk hl210_0
          clear hi210_0 hl210_0
          replace p210 := eq_true p210
          replace q210 := eq_true q210
          have hcz24_0 : wr.cell? ⟨gb209, 0, none⟩ = some (.slice A1_0 l1_0.length c1_0) := (blk_cell BK209.out 0).trans rfl
          have hcz24_1 : wr.cell? ⟨gb209, 1, none⟩ = some (.int .i64 a1_1) := (blk_cell BK209.out 1).trans rfl
          have hcz24_2 : wr.cell? ⟨gb209, 2, none⟩ = some (.bool a1_2) := (blk_cell BK209.out 2).trans rfl
          have hfz24_0 := blk_frozen BK209.out 0
          have hfz24_1 := blk_frozen BK209.out 1
          have hfz24_2 := blk_frozen BK209.out 2
          have p211 : 0 ≤ (x5_2 : Int) := of_decide_eq_true asm_
          have q211 : x5_2 < (l1_0.length : Int) := of_decide_eq_true asm_
          obtain ⟨ad211, A211_0, c211_0, e211, hx211_0, hl211_0, hi211_0⟩ := at_L1 HR1_0.out x5_2 p211 q211
          cases e211
          replace hx211_0 := (HB.out.cell (World.block_lt_of_cell? w _ hx211_0)).trans hx211_0
          have HR211_0 := Aside0.mk hi211_0
          have HC211_0 := Aside0.mk hl211_0
          clear hi211_0 hl211_0
          replace p211 := eq_true p211
          replace q211 := eq_true q211
          go_wp2
          repeat (go_quiet (fail); try go_wp2)
          go_loopg [6] k2 (fun kq v6 w' => ∃ (x6_3 : Int), v6 = .int .i64 x6_3 ∧ Aside0 (limelightref18_Same.l1 kq x5_2 x6_3 l0_0 a0_1 a0_2 l1_0 a1_1 a1_2 = some r) ∧ Aside0 (kq ≤ k2) ∧ Aside0 (w'.heap[gb208]? = some (.cells #[(.slice (some ad210) l0_0.length c0_0), .int .i64 a0_1, .bool a0_2] 33 (0, 0))) ∧ Aside0 (w'.heap[gb209]? = some (.cells #[(.slice (some ad211) l1_0.length c1_0), .int .i64 a1_1, .bool a1_2] 33 (0, 0))) ∧ Aside0 (Below w.heap.size w w'))
          case atStart => exact ⟨(0), (by first | rfl | (simp; done) | (simp [*]; done)), H', ⟨Nat.le_refl _⟩, ⟨blkx_ BK208.out⟩, ⟨blkx_ BK209.out⟩, ⟨by repeat (first | (with_reducible first | exact HB.out | apply below_alloc | apply pw_below_drewN | apply below_drew1 | refine below_set ?_ GE208.out | refine below_set ?_ GE209.out) | exact HB.out)⟩⟩
          case round =>
           clear H'
           try clear c1
           try clear c2
           try clear p2
           try clear q2
           try clear hx2
           try clear c6
           try clear c6b0
           try clear c6b1
           try clear c6b2
           try clear c7
           try clear c7b0
           try clear c7b1
           try clear c8
           try clear c11
           try clear c14
           try clear c16
           try clear c17
           try clear c18
           try clear c18b0
           try clear c19
           try clear c19b0
           try clear c20
           try clear c20b0
           try clear c21
           try clear c21b0
           try clear c21b1
           try clear c21b2
           try clear p21
           try clear q21
           try clear hx21
           try clear c22
           try clear hcz10_0
           try clear hcz10_1
           try clear hcz10_2
           try clear hcz12_0
           try clear hcz12_1
           try clear hcz12_2
           try clear hcz13_0
           try clear hcz13_1
           try clear hcz13_2
           try clear hcz15_0
           try clear hcz15_1
           try clear hcz15_2
           try clear hcz16_0
           try clear hcz16_1
           try clear hcz16_2
           try clear hcz23_0
           try clear hcz23_1
           try clear hcz23_2
           try clear hcz24_0
           try clear hcz24_1
           try clear hcz24_2
           try clear hcz9_0
           try clear hcz9_1
           try clear hcz9_2
           try clear hfz10_0
           try clear hfz10_1
           try clear hfz10_2
           try clear hfz12_0
           try clear hfz12_1
           try clear hfz12_2
           try clear hfz13_0
           try clear hfz13_1
           try clear hfz13_2
           try clear hfz15_0
           try clear hfz15_1
           try clear hfz15_2
           try clear hfz16_0
           try clear hfz16_1
           try clear hfz16_2
           try clear hfz23_0
           try clear hfz23_1
           try clear hfz23_2
           try clear hfz24_0
           try clear hfz24_1
           try clear hfz24_2
           try clear hfz9_0
           try clear hfz9_1
           try clear hfz9_2
           try clear hx210_0
           try clear hx211_0
           try clear p2
           try clear p210
           try clear p211
           try clear q210
           try clear q211
           obtain ⟨x6_3, rfl, HA, HK3, BK208, BK209, HB⟩ := hrel
           cases gk with
           | zero => exact absurd HA.out (by simp [limelightref18_Same.l1])
           | succ k3 =>
            have H := HA.out
            clear HA
            simp only [limelightref18_Same.l1] at H
            by_cases c25 : 0 ≤ x5_2
            ·rw [if_pos c25] at H
             have c25b0 : decide (0 ≤ x5_2) = true := decide_eq_true c25
             clear c25
             by_cases c26 : x5_2 < (l0_0.length : Int)
             ·rw [if_pos c26] at H
              have c26b0 : decide (x5_2 < (l0_0.length : Int)) = true := decide_eq_true c26
              clear c26
              by_cases c27 : x6_3 < ((rd_L1 l0_0 x5_2).length : Int)
              ·rw [if_pos c27] at H
               have c27b0 : decide (x6_3 < ((rd_L1 l0_0 x5_2).length : Int)) = true := decide_eq_true c27
               clear c27
               by_cases c28 : 0 ≤ x6_3
               ·rw [if_pos c28] at H
                have c28b0 : decide (0 ≤ x6_3) = true := decide_eq_true c28
                clear c28
                by_cases c29 : x5_2 < (l1_0.length : Int)
                ·rw [if_pos c29] at H
                 have c29b0 : decide (x5_2 < (l1_0.length : Int)) = true := decide_eq_true c29
                 clear c29
                 by_cases c30 : x6_3 < ((rd_L1 l1_0 x5_2).length : Int)
                 ·rw [if_pos c30] at H
                  have c30b0 : decide (x6_3 < ((rd_L1 l1_0 x5_2).length : Int)) = true := decide_eq_true c30
                  clear c30
                  by_cases c31 : (rd (rd_L1 l0_0 x5_2) x6_3) = (rd (rd_L1 l1_0 x5_2) x6_3)
                  ·rw [if_pos c31] at H
                   have c31b0 : ((rd (rd_L1 l0_0 x5_2) x6_3) == (rd (rd_L1 l1_0 x5_2) x6_3)) = true := beq_iff_eq.mpr c31
                   have c31b1 : ((rd (rd_L1 l0_0 x5_2) x6_3) != (rd (rd_L1 l1_0 x5_2) x6_3)) = false := bne_eq_false_iff_eq.mpr c31
                   clear c31
                   have H' := Aside0.mk H
                   clear H
                   have hnb32 := NB208_209.out
                   have hnc32 := NB209_208.out
                   have hcz33_0 : wr.cell? ⟨gb208, 0, none⟩ = some (.slice (some ad210) l0_0.length c0_0) := (blk_cell BK208.out 0).trans rfl
                   have hcz33_1 : wr.cell? ⟨gb208, 1, none⟩ = some (.int .i64 a0_1) := (blk_cell BK208.out 1).trans rfl
                   have hcz33_2 : wr.cell? ⟨gb208, 2, none⟩ = some (.bool a0_2) := (blk_cell BK208.out 2).trans rfl
                   have hfz33_0 := blk_frozen BK208.out 0
                   have hfz33_1 := blk_frozen BK208.out 1
                   have hfz33_2 := blk_frozen BK208.out 2
                   have p212 : 0 ≤ (x5_2 : Int) := of_decide_eq_true asm_
                   have q212 : x5_2 < (l0_0.length : Int) := of_decide_eq_true asm_
                   obtain ⟨ad212, A212_0, c212_0, e212, hx212_0, hl212_0, hi212_0⟩ := at_L1 HR0_0.out x5_2 p212 q212
                   obtain rfl : ad210 = ad212 := (by injection e212)
                   replace hx212_0 := (HB.out.cell (World.block_lt_of_cell? w _ hx212_0)).trans hx212_0
                   have HR212_0 := Aside0.mk hi212_0
                   have HC212_0 := Aside0.mk hl212_0
                   clear hi212_0 hl212_0
                   replace p212 := eq_true p212
                   replace q212 := eq_true q212
                   have p213 : 0 ≤ (x5_2 : Int) := of_decide_eq_true asm_
                   have q213 : x5_2 < (l0_0.length : Int) := of_decide_eq_true asm_
                   obtain ⟨ad213, A213_0, c213_0, e213, hx213_0, hl213_0, hi213_0⟩ := at_L1 HR0_0.out x5_2 p213 q213
                   obtain rfl : ad210 = ad213 := (by injection e213)
                   replace hx213_0 := (HB.out.cell (World.block_lt_of_cell? w _ hx213_0)).trans hx213_0
                   have HR213_0 := Aside0.mk hi213_0
                   have HC213_0 := Aside0.mk hl213_0
                   clear hi213_0 hl213_0
                   replace p213 := eq_true p213
                   replace q213 := eq_true q213
                   have ea_ := Option.some.inj (hx212_0.symm.trans hx213_0)
                   injection ea_ with ea_ en_ ec_
                   subst ea_
                   subst ec_
                   clear en_
                   have p214 : 0 ≤ (x6_3 : Int) := of_decide_eq_true asm_
                   have q214 : x6_3 < ((rd_L1 l0_0 x5_2).length : Int) := of_decide_eq_true asm_
                   obtain ⟨ad214, e214, hx214_0⟩ := Kd.at_int HR213_0.out x6_3 p214 q214
                   cases e214
                   replace hx214_0 := (HB.out.cell (World.block_lt_of_cell? w _ hx214_0)).trans hx214_0
                   replace p214 := eq_true p214
                   replace q214 := eq_true q214
                   have hcz34_0 : wr.cell? ⟨gb209, 0, none⟩ = some (.slice (some ad211) l1_0.length c1_0) := (blk_cell BK209.out 0).trans rfl
                   have hcz34_1 : wr.cell? ⟨gb209, 1, none⟩ = some (.int .i64 a1_1) := (blk_cell BK209.out 1).trans rfl
                   have hcz34_2 : wr.cell? ⟨gb209, 2, none⟩ = some (.bool a1_2) := (blk_cell BK209.out 2).trans rfl
                   have hfz34_0 := blk_frozen BK209.out 0
                   have hfz34_1 := blk_frozen BK209.out 1
                   have hfz34_2 := blk_frozen BK209.out 2
                   have p215 : 0 ≤ (x5_2 : Int) := of_decide_eq_true asm_
                   have q215 : x5_2 < (l1_0.length : Int) := of_decide_eq_true asm_
                   obtain ⟨ad215, A215_0, c215_0, e215, hx215_0, hl215_0, hi215_0⟩ := at_L1 HR1_0.out x5_2 p215 q215
                   obtain rfl : ad211 = ad215 := (by injection e215)
                   replace hx215_0 := (HB.out.cell (World.block_lt_of_cell? w _ hx215_0)).trans hx215_0
                   have HR215_0 := Aside0.mk hi215_0
                   have HC215_0 := Aside0.mk hl215_0
                   clear hi215_0 hl215_0
                   replace p215 := eq_true p215
                   replace q215 := eq_true q215
                   have p216 : 0 ≤ (x6_3 : Int) := of_decide_eq_true asm_
                   have q216 : x6_3 < ((rd_L1 l1_0 x5_2).length : Int) := of_decide_eq_true asm_
                   obtain ⟨ad216, e216, hx216_0⟩ := Kd.at_int HR215_0.out x6_3 p216 q216
                   cases e216
                   replace hx216_0 := (HB.out.cell (World.block_lt_of_cell? w _ hx216_0)).trans hx216_0
                   replace p216 := eq_true p216
                   replace q216 := eq_true q216
                   go_wp2
                   repeat (go_quiet (fail); try go_wp2)
                   go_roundg k3
                   case measure => have := HJ2.out; have := HK2.out; have := HK3.out; omega
                   case rel => exact ⟨(wrap64 (x6_3 + 1)), (by first | rfl | (simp; done) | (simp [*]; done)), H', ⟨by have := HJ2.out; have := HK2.out; have := HK3.out; omega⟩, ⟨blkx_ BK208.out⟩, ⟨blkx_ BK209.out⟩, ⟨by repeat (first | (with_reducible first | exact HB.out | apply below_alloc | apply pw_below_drewN | apply below_drew1 | refine below_set ?_ GE208.out | refine below_set ?_ GE209.out) | exact HB.out)⟩⟩
                  ·rw [if_neg c31] at H
                   have c31b0 : ((rd (rd_L1 l0_0 x5_2) x6_3) == (rd (rd_L1 l1_0 x5_2) x6_3)) = false := beq_eq_false_iff_ne.mpr c31
                   have c31b1 : ((rd (rd_L1 l0_0 x5_2) x6_3) != (rd (rd_L1 l1_0 x5_2) x6_3)) = true := bne_iff_ne.mpr c31
                   obtain rfl := Option.some.inj H
                   have hnb35 := NB208_209.out
                   have hnc35 := NB209_208.out
                   have hcz36_0 : wr.cell? ⟨gb208, 0, none⟩ = some (.slice (some ad210) l0_0.length c0_0) := (blk_cell BK208.out 0).trans rfl
                   have hcz36_1 : wr.cell? ⟨gb208, 1, none⟩ = some (.int .i64 a0_1) := (blk_cell BK208.out 1).trans rfl
                   have hcz36_2 : wr.cell? ⟨gb208, 2, none⟩ = some (.bool a0_2) := (blk_cell BK208.out 2).trans rfl
                   have hfz36_0 := blk_frozen BK208.out 0
                   have hfz36_1 := blk_frozen BK208.out 1
                   have hfz36_2 := blk_frozen BK208.out 2
                   have p212 : 0 ≤ (x5_2 : Int) := of_decide_eq_true asm_
                   have q212 : x5_2 < (l0_0.length : Int) := of_decide_eq_true asm_
                   obtain ⟨ad212, A212_0, c212_0, e212, hx212_0, hl212_0, hi212_0⟩ := at_L1 HR0_0.out x5_2 p212 q212
                   obtain rfl : ad210 = ad212 := (by injection e212)
                   replace hx212_0 := (HB.out.cell (World.block_lt_of_cell? w _ hx212_0)).trans hx212_0
                   have HR212_0 := Aside0.mk hi212_0
                   have HC212_0 := Aside0.mk hl212_0
                   clear hi212_0 hl212_0
                   replace p212 := eq_true p212
                   replace q212 := eq_true q212
                   have p213 : 0 ≤ (x5_2 : Int) := of_decide_eq_true asm_
                   have q213 : x5_2 < (l0_0.length : Int) := of_decide_eq_true asm_
                   obtain ⟨ad213, A213_0, c213_0, e213, hx213_0, hl213_0, hi213_0⟩ := at_L1 HR0_0.out x5_2 p213 q213
                   obtain rfl : ad210 = ad213 := (by injection e213)
                   replace hx213_0 := (HB.out.cell (World.block_lt_of_cell? w _ hx213_0)).trans hx213_0
                   have HR213_0 := Aside0.mk hi213_0
                   have HC213_0 := Aside0.mk hl213_0
                   clear hi213_0 hl213_0
                   replace p213 := eq_true p213
                   replace q213 := eq_true q213
                   have ea_ := Option.some.inj (hx212_0.symm.trans hx213_0)
                   injection ea_ with ea_ en_ ec_
                   subst ea_
                   subst ec_
                   clear en_
                   have p214 : 0 ≤ (x6_3 : Int) := of_decide_eq_true asm_
                   have q214 : x6_3 < ((rd_L1 l0_0 x5_2).length : Int) := of_decide_eq_true asm_
                   obtain ⟨ad214, e214, hx214_0⟩ := Kd.at_int HR213_0.out x6_3 p214 q214
                   cases e214
                   replace hx214_0 := (HB.out.cell (World.block_lt_of_cell? w _ hx214_0)).trans hx214_0
                   replace p214 := eq_true p214
                   replace q214 := eq_true q214
                   have hcz37_0 : wr.cell? ⟨gb209, 0, none⟩ = some (.slice (some ad211) l1_0.length c1_0) := (blk_cell BK209.out 0).trans rfl
                   have hcz37_1 : wr.cell? ⟨gb209, 1, none⟩ = some (.int .i64 a1_1) := (blk_cell BK209.out 1).trans rfl
                   have hcz37_2 : wr.cell? ⟨gb209, 2, none⟩ = some (.bool a1_2) := (blk_cell BK209.out 2).trans rfl
                   have hfz37_0 := blk_frozen BK209.out 0
                   have hfz37_1 := blk_frozen BK209.out 1
                   have hfz37_2 := blk_frozen BK209.out 2
                   have p215 : 0 ≤ (x5_2 : Int) := of_decide_eq_true asm_
                   have q215 : x5_2 < (l1_0.length : Int) := of_decide_eq_true asm_
                   obtain ⟨ad215, A215_0, c215_0, e215, hx215_0, hl215_0, hi215_0⟩ := at_L1 HR1_0.out x5_2 p215 q215
                   obtain rfl : ad211 = ad215 := (by injection e215)
                   replace hx215_0 := (HB.out.cell (World.block_lt_of_cell? w _ hx215_0)).trans hx215_0
                   have HR215_0 := Aside0.mk hi215_0
                   have HC215_0 := Aside0.mk hl215_0
                   clear hi215_0 hl215_0
                   replace p215 := eq_true p215
                   replace q215 := eq_true q215
                   have p216 : 0 ≤ (x6_3 : Int) := of_decide_eq_true asm_
                   have q216 : x6_3 < ((rd_L1 l1_0 x5_2).length : Int) := of_decide_eq_true asm_
                   obtain ⟨ad216, e216, hx216_0⟩ := Kd.at_int HR215_0.out x6_3 p216 q216
                   cases e216
                   replace hx216_0 := (HB.out.cell (World.block_lt_of_cell? w _ hx216_0)).trans hx216_0
                   replace p216 := eq_true p216
                   replace q216 := eq_true q216
                   go_wp2
                   repeat (go_quiet (fail); try go_wp2)
                   go_ret
                   exact ⟨by first | rfl | (simp [errW_none, errW_some] <;> rfl) | (simp [*, errW_none, errW_some] <;> rfl), by repeat (first | (with_reducible first | exact HB.out | apply below_alloc | apply pw_below_drewN | apply below_drew1 | refine below_set ?_ GE208.out | refine below_set ?_ GE209.out) | exact HB.out)⟩
                 ·rw [if_neg c30] at H
                  exact absurd H (by simp)
                ·rw [if_neg c29] at H
                 exact absurd H (by simp)
               ·rw [if_neg c28] at H
                exact absurd H (by simp)
              ·rw [if_neg c27] at H
               have c27b0 : decide (x6_3 < ((rd_L1 l0_0 x5_2).length : Int)) = false := decide_eq_false c27
               clear c27
               have H' := Aside0.mk H
               clear H
               have hnb38 := NB208_209.out
               have hnc38 := NB209_208.out
               have hcz39_0 : wr.cell? ⟨gb208, 0, none⟩ = some (.slice (some ad210) l0_0.length c0_0) := (blk_cell BK208.out 0).trans rfl
               have hcz39_1 : wr.cell? ⟨gb208, 1, none⟩ = some (.int .i64 a0_1) := (blk_cell BK208.out 1).trans rfl
               have hcz39_2 : wr.cell? ⟨gb208, 2, none⟩ = some (.bool a0_2) := (blk_cell BK208.out 2).trans rfl
               have hfz39_0 := blk_frozen BK208.out 0
               have hfz39_1 := blk_frozen BK208.out 1
               have hfz39_2 := blk_frozen BK208.out 2
               have p212 : 0 ≤ (x5_2 : Int) := of_decide_eq_true asm_
               have q212 : x5_2 < (l0_0.length : Int) := of_decide_eq_true asm_
               obtain ⟨ad212, A212_0, c212_0, e212, hx212_0, hl212_0, hi212_0⟩ := at_L1 HR0_0.out x5_2 p212 q212
               obtain rfl : ad210 = ad212 := (by injection e212)
               replace hx212_0 := (HB.out.cell (World.block_lt_of_cell? w _ hx212_0)).trans hx212_0
               have HR212_0 := Aside0.mk hi212_0
               have HC212_0 := Aside0.mk hl212_0
               clear hi212_0 hl212_0
               replace p212 := eq_true p212
               replace q212 := eq_true q212
               go_wp2
               repeat (go_quiet (fail); try go_wp2)
               go_roundg k3
               case measure => have := HJ2.out; have := HK2.out; have := HK3.out; omega
               case rel => exact ⟨(wrap64 (x5_2 + 1)), (by first | rfl | (simp; done) | (simp [*]; done)), H', ⟨by have := HJ2.out; have := HK2.out; have := HK3.out; omega⟩, ⟨blkx_ BK208.out⟩, ⟨blkx_ BK209.out⟩, ⟨by repeat (first | (with_reducible first | exact HB.out | apply below_alloc | apply pw_below_drewN | apply below_drew1 | refine below_set ?_ GE208.out | refine below_set ?_ GE209.out) | exact HB.out)⟩⟩
             ·rw [if_neg c26] at H
              exact absurd H (by simp)
            ·rw [if_neg c25] at H
             exact absurd H (by simp)
         ·rw [if_neg c21] at H
          have c21b0 : (((rd_L1 l0_0 x5_2).length : Int) == ((rd_L1 l1_0 x5_2).length : Int)) = false := beq_eq_false_iff_ne.mpr c21
          have c21b1 : (((rd_L1 l0_0 x5_2).length : Int) != ((rd_L1 l1_0 x5_2).length : Int)) = true := bne_iff_ne.mpr c21
          have c21b2 : ((rd_L1 l0_0 x5_2).length == (rd_L1 l1_0 x5_2).length) = false := by first | simpa using c21 | (simp at c21 ⊢; omega)
          obtain rfl := Option.some.inj H
          have hnb40 := NB208_209.out
          have hnc40 := NB209_208.out
          have hcz41_0 : wr.cell? ⟨gb208, 0, none⟩ = some (.slice A0_0 l0_0.length c0_0) := (blk_cell BK208.out 0).trans rfl
          have hcz41_1 : wr.cell? ⟨gb208, 1, none⟩ = some (.int .i64 a0_1) := (blk_cell BK208.out 1).trans rfl
          have hcz41_2 : wr.cell? ⟨gb208, 2, none⟩ = some (.bool a0_2) := (blk_cell BK208.out 2).trans rfl
          have hfz41_0 := blk_frozen BK208.out 0
          have hfz41_1 := blk_frozen BK208.out 1
          have hfz41_2 := blk_frozen BK208.out 2
          have p210 : 0 ≤ (x5_2 : Int) := of_decide_eq_true asm_
          have q210 : x5_2 < (l0_0.length : Int) := of_decide_eq_true asm_
          obtain ⟨ad210, A210_0, c210_0, e210, hx210_0, hl210_0, hi210_0⟩ := at_L1 HR0_0.out x5_2 p210 q210
          cases e210
          replace hx210_0 := (HB.out.cell (World.block_lt_of_cell? w _ hx210_0)).trans hx210_0
          have HR210_0 := Aside0.mk hi210_0
          have HC210_0 := Aside0.mk hl210_0
          clear hi210_0 hl210_0
          replace p210 := eq_true p210
          replace q210 := eq_true q210
          have hcz42_0 : wr.cell? ⟨gb209, 0, none⟩ = some (.slice A1_0 l1_0.length c1_0) := (blk_cell BK209.out 0).trans rfl
          have hcz42_1 : wr.cell? ⟨gb209, 1, none⟩ = some (.int .i64 a1_1) := (blk_cell BK209.out 1).trans rfl
          have hcz42_2 : wr.cell? ⟨gb209, 2, none⟩ = some (.bool a1_2) := (blk_cell BK209.out 2).trans rfl
          have hfz42_0 := blk_frozen BK209.out 0
          have hfz42_1 := blk_frozen BK209.out 1
          have hfz42_2 := blk_frozen BK209.out 2
          have p211 : 0 ≤ (x5_2 : Int) := of_decide_eq_true asm_
          have q211 : x5_2 < (l1_0.length : Int) := of_decide_eq_true asm_
          obtain ⟨ad211, A211_0, c211_0, e211, hx211_0, hl211_0, hi211_0⟩ := at_L1 HR1_0.out x5_2 p211 q211
          cases e211
          replace hx211_0 := (HB.out.cell (World.block_lt_of_cell? w _ hx211_0)).trans hx211_0
          have HR211_0 := Aside0.mk hi211_0
          have HC211_0 := Aside0.mk hl211_0
          clear hi211_0 hl211_0
          replace p211 := eq_true p211
          replace q211 := eq_true q211
          go_wp2
          repeat (go_quiet (fail); try go_wp2)
          go_ret
          exact ⟨by first | rfl | (simp [errW_none, errW_some] <;> rfl) | (simp [*, errW_none, errW_some] <;> rfl), by repeat (first | (with_reducible first | exact HB.out | apply below_alloc | apply pw_below_drewN | apply below_drew1 | refine below_set ?_ GE208.out | refine below_set ?_ GE209.out) | exact HB.out)⟩
        ·rw [if_neg c20] at H
         exact absurd H (by simp)
       ·rw [if_neg c19] at H
        exact absurd H (by simp)
      ·rw [if_neg c18] at H
       have c18b0 : decide (x5_2 < (l0_0.length : Int)) = false := decide_eq_false c18
       clear c18
       obtain rfl := Option.some.inj H
       have hnb43 := NB208_209.out
       have hnc43 := NB209_208.out
       have hcz44_0 : wr.cell? ⟨gb208, 0, none⟩ = some (.slice A0_0 l0_0.length c0_0) := (blk_cell BK208.out 0).trans rfl
       have hcz44_1 : wr.cell? ⟨gb208, 1, none⟩ = some (.int .i64 a0_1) := (blk_cell BK208.out 1).trans rfl
       have hcz44_2 : wr.cell? ⟨gb208, 2, none⟩ = some (.bool a0_2) := (blk_cell BK208.out 2).trans rfl
       have hfz44_0 := blk_frozen BK208.out 0
       have hfz44_1 := blk_frozen BK208.out 1
       have hfz44_2 := blk_frozen BK208.out 2
       go_wp2
       repeat (go_quiet (fail); try go_wp2)
       go_ret
       exact ⟨by first | rfl | (simp [errW_none, errW_some] <;> rfl) | (simp [*, errW_none, errW_some] <;> rfl), by repeat (first | (with_reducible first | exact HB.out | apply below_alloc | apply pw_below_drewN | apply below_drew1 | refine below_set ?_ GE208.out | refine below_set ?_ GE209.out) | exact HB.out)⟩

/-! ### limelightlaw18_told: function 17 -/
def limelightlaw18_told.f (l0_0 : List (List Int)) (a0_1 : Int) (a0_2 : Bool) : Option ((List (List Int)) × Int × Bool) := some (l0_0, a0_1, a0_2)
set_option maxHeartbeats 8000000 in
set_option maxRecDepth 100000 in
theorem limelightlaw18_told.calls (P0_0_ : Nat → Prop) (A0_0 : Option Addr) (c0_0 : Nat) (l0_0 : List (List Int)) (a0_1 : Int) (a0_2 : Bool) (r1 : List (List Int)) (r2 : Int) (r3 : Bool) (w : World) (hs0_0 : Kd.V (Kd.slice 3 (Kd.int .i64)) 22 w w.heap.size (fun k_ => P0_0_ k_) (.slice A0_0 l0_0.length c0_0) l0_0) (h : limelightlaw18_told.f l0_0 a0_1 a0_2 = some (r1, r2, r3)) :
  Calls Try.prog 17 #[.agg #[.slice A0_0 l0_0.length c0_0, .int .i64 a0_1, .bool a0_2]] w fun e w' => ∃ v0_ : Value, e = .returned (.agg #[v0_, .int .i64 r2, .bool r3]) ∧ Kd.V (Kd.slice 3 (Kd.int .i64)) 22 w' w.heap.size (fun k_ => (P0_0_ k_ ∨ w.heap.size ≤ k_)) v0_ r1 ∧ Below w.heap.size w w' := by
 have hu26 := Try.underlying26
 have hu33 := Try.underlying33
 have HO0_0 := Aside0.mk (show Kd.V (Kd.slice 3 (Kd.int .i64)) 22 w w.heap.size (fun k_ => (P0_0_ k_ ∨ w.heap.size ≤ k_)) (.slice A0_0 l0_0.length c0_0) l0_0 from Kd.V_mono hs0_0 (fun k_ hk => .inl hk))
 have HB := Aside0.mk (Below.refl w.heap.size w)
 have H : (some (l0_0, a0_1, a0_2)) = some (r1, r2, r3) := h
 clear h
 simp only [Option.some.injEq, Prod.mk.injEq] at H
 obtain ⟨rfl, rfl, rfl⟩ := H
 go_enter Try.func17, Try.ntmps17
 go_wp2_with (first | ((with_reducible refine gate_dst (N := 1) rfl ?_); refine box_event ?hg (N := 1) ?hd (cs := #[.slice A0_0 l0_0.length c0_0, .int .i64 a0_1, .bool a0_2]) (t := 26) ?hr ?_; (case hd => rfl); (case hg => rfl); (case hr => first | (go_simp; done) | (go_simp; rfl)); intro gb217 hg w2 hbox hb; have n0_ := Aside0.mk (Kd.V_below (Kd.V_elderB (by (with_reducible repeat (first | apply Kd.V_alloc | apply Kd.V_drewN | apply Kd.V_drew)); exact HO0_0.out) gb217 (Nat.le_of_eq hg.symm)) hb); have n1_ := Aside0.mk (below_step bel_ hb); have n2_ := Aside0.mk (hbox); have n3_ := Aside0.mk ((by rw [hg]; exact (below_size bel_) : w.heap.size ≤ gb217)); have n4_ := Aside0.mk ((by rw [hg]; exact (below_size bel_) : w.heap.size ≤ gb217)); clear HO0_0; clear HB; have HO0_0 := n0_; have HB := n1_; have BK217 := n2_; have GW217 := n3_; have GE217 := n4_; clear n0_ n1_ n2_ n3_ n4_; clear hb hbox hg) | ((with_reducible refine gate_dst (N := 2) rfl ?_); refine box_event ?hg (N := 2) ?hd (cs := #[.slice none 0 0, .int .i64 0, .bool false]) (t := 33) ?hr ?_; (case hd => rfl); (case hg => rfl); (case hr => first | (go_simp; done) | (go_simp; rfl)); intro gb218 hg w3 hbox hb; have n0_ := Aside0.mk (Kd.V_below (Kd.V_elderB (by (with_reducible repeat (first | apply Kd.V_alloc | apply Kd.V_drewN | apply Kd.V_drew)); exact HO0_0.out) gb218 (Nat.le_of_eq hg.symm)) hb); have n1_ := Aside0.mk (blk_below (g := gb217) (o := .cells #[.slice A0_0 l0_0.length c0_0, .int .i64 a0_1, .bool a0_2] 26 (0, 0)) (blkx_ BK217.out) hb); have n2_ := Aside0.mk (below_step (belg_ GE217.out) hb); have n3_ := Aside0.mk (hbox); have n4_ := Aside0.mk ((by rw [hg]; exact (below_size (belg_ GE217.out)) : w.heap.size ≤ gb218)); have n5_ := Aside0.mk ((by rw [hg]; exact (below_size (belg_ GE217.out)) : w.heap.size ≤ gb218)); have n6_ := Aside0.mk ((by rw [hg]; exact Nat.ne_of_lt (blk_lt (g := gb217) (o := .cells #[.slice A0_0 l0_0.length c0_0, .int .i64 a0_1, .bool a0_2] 26 (0, 0)) (blkx_ BK217.out)) : gb217 ≠ gb218)); have n7_ := Aside0.mk ((by rw [hg]; exact Nat.ne_of_gt (blk_lt (g := gb217) (o := .cells #[.slice A0_0 l0_0.length c0_0, .int .i64 a0_1, .bool a0_2] 26 (0, 0)) (blkx_ BK217.out)) : gb218 ≠ gb217)); clear HO0_0; clear BK217; clear HB; have HO0_0 := n0_; have BK217 := n1_; have HB := n2_; have BK218 := n3_; have GW218 := n4_; have GE218 := n5_; have NB217_218 := n6_; have NB218_217 := n7_; clear n0_ n1_ n2_ n3_ n4_ n5_ n6_ n7_; clear hb hbox hg; have hnb4 := NB217_218.out; have hnc4 := NB218_217.out; have hcz5_0 : w3.cell? ⟨gb217, 0, none⟩ = some (.slice A0_0 l0_0.length c0_0) := (blk_cell BK217.out 0).trans rfl; have hcz5_1 : w3.cell? ⟨gb217, 1, none⟩ = some (.int .i64 a0_1) := (blk_cell BK217.out 1).trans rfl; have hcz5_2 : w3.cell? ⟨gb217, 2, none⟩ = some (.bool a0_2) := (blk_cell BK217.out 2).trans rfl; have hfz5_0 := blk_frozen BK217.out 0; have hfz5_1 := blk_frozen BK217.out 1; have hfz5_2 := blk_frozen BK217.out 2; have hcz6_0 : w3.cell? ⟨gb218, 0, none⟩ = some (.slice none 0 0) := (blk_cell BK218.out 0).trans rfl; have hcz6_1 : w3.cell? ⟨gb218, 1, none⟩ = some (.int .i64 0) := (blk_cell BK218.out 1).trans rfl; have hcz6_2 : w3.cell? ⟨gb218, 2, none⟩ = some (.bool false) := (blk_cell BK218.out 2).trans rfl; have hfz6_0 := blk_frozen BK218.out 0; have hfz6_1 := blk_frozen BK218.out 1; have hfz6_2 := blk_frozen BK218.out 2))
 refine bodyPost_ret (results_cell_row rfl _ _ gb218 33 #[.slice A0_0 l0_0.length c0_0, .int .i64 a0_1, .bool a0_2] (0, 0) _ rfl (by (with_reducible repeat (first | refine blk_drewN ?_ _ | refine blk_drew ?_ | refine blk_alloc ?_ _)); refine blk_put (cs := #[.slice A0_0 l0_0.length c0_0, .int .i64 a0_1, .bool false]) ?_ 2 _ rfl; (with_reducible repeat (first | refine blk_drewN ?_ _ | refine blk_drew ?_ | refine blk_alloc ?_ _)); refine blk_put (cs := #[.slice A0_0 l0_0.length c0_0, .int .i64 0, .bool false]) ?_ 1 _ rfl; (with_reducible repeat (first | refine blk_drewN ?_ _ | refine blk_drew ?_ | refine blk_alloc ?_ _)); refine blk_put (cs := #[.slice none 0 0, .int .i64 0, .bool false]) ?_ 0 _ rfl; (with_reducible repeat (first | refine blk_drewN ?_ _ | refine blk_drew ?_ | refine blk_alloc ?_ _)); exact BK218.out) Try.underlying33 rfl (by kernel_rfl)) rfl ?_
 exact ⟨_, by first | rfl | (simp [errW_none, errW_some] <;> rfl) | (simp [*, errW_none, errW_some] <;> rfl), by (with_reducible repeat (first | apply Kd.V_alloc | apply Kd.V_drewN | apply Kd.V_drew)); exact Kd.V_mono (Kd.V_far (p := ⟨gb218, 2, none⟩) (Kd.V_far (p := ⟨gb218, 1, none⟩) (Kd.V_far (p := ⟨gb218, 0, none⟩) (Kd.V_mono HO0_0.out (fun k_ hk => (⟨hk, hk.2⟩ : _ ∧ k_ ≠ gb218))) (fun _ hk => hk.2) (.slice A0_0 l0_0.length c0_0)) (fun _ hk => hk.2) (.int .i64 a0_1)) (fun _ hk => hk.2) (.bool a0_2)) (fun _ hk => hk.1.1.1), by repeat (first | (with_reducible first | exact HB.out | apply below_alloc | apply pw_below_drewN | apply below_drew1 | refine below_set ?_ GE217.out | refine below_set ?_ GE218.out) | exact HB.out)⟩

end Go.Proofs.Ytpklhnggbhkmiaa.P
