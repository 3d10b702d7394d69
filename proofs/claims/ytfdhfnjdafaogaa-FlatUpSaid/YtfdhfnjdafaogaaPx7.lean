-- printed by wip/tools/pp.sh (a patched copy of the print's program), for this claim.
import Derived.Test.YtfdhfnjdafaogaaPx0
import Derived.Test.YtfdhfnjdafaogaaPx1
import Derived.Test.YtfdhfnjdafaogaaMU
namespace Go.Proofs.Ytfdhfnjdafaogaa.P
open Go.RowKit Go.Proofs.YtfdhfnjdafaogaaW.PrintWords Go.Proofs.YtfdhfnjdafaogaaW.PrintLast Go.Proofs.YtfdhfnjdafaogaaW.PrintMore
attribute [local go_sem] max2_int min2_int max_two min_two max_three min_three max_four min_four   -- for this text's walks alone
set_option linter.unusedVariables false
set_option linter.unusedSimpArgs false

/-! ### limelightlaw06_FlatUp: function 6 -/
mutual
def limelightlaw06_FlatUp.j0 : Nat → List (S36) → Bool → Int → Int → Int → Option (Bool)
 | 0, _, _, _, _, _ => none
 | k + 1, x0, x17, x288000, x288001, x288002 => if x17 = true then ((limelightlaw06_live.f).bind fun t289 => (some t289)) else ((limelightref03_Both.f x0 x288000 x288001).bind fun t290 => (if t290 = true then ((limelightref03_Both.f x0 x288001 x288002).bind fun t291 => (limelightlaw06_FlatUp.j1 k x0 x288000 x288001 x288002 (!t291))) else (limelightlaw06_FlatUp.j1 k x0 x288000 x288001 x288002 true)))
def limelightlaw06_FlatUp.j1 : Nat → List (S36) → Int → Int → Int → Bool → Option (Bool)
 | 0, _, _, _, _, _ => none
 | k + 1, x0, x5, x6, x7, x36 => if x36 = true then ((limelightlaw06_live.f).bind fun t292 => (some t292)) else ((flat_Up.f x0 x5).bind fun t293 => (limelightlaw06_FlatUp.l0 k x0 x5 x6 x7 t293 1))
def limelightlaw06_FlatUp.l0 : Nat → List (S36) → Int → Int → Int → List Int → Int → Option (Bool)
 | 0, _, _, _, _, _, _ => none
 | k + 1, x0, x5, x6, x7, x8, x9 => if x9 < (x8.length : Int) then (if 0 ≤ (wrap64 (x9 - 1)) then (if (wrap64 (x9 - 1)) < (x8.length : Int) then ((flat_Parent.f x0 (rd x8 (wrap64 (x9 - 1)))).bind fun t297 => (if 0 ≤ x9 then (if t297 = (rd x8 x9) then ((flat_Kids.f x0 (rd x8 x9)).bind fun t300 => ((limelightref03_In.f k t300 (rd x8 (wrap64 (x9 - 1)))).bind fun t304 => (if t304 = true then (limelightlaw06_FlatUp.l0 k x0 x5 x6 x7 x8 (wrap64 (x9 + 1))) else (none)))) else (none)) else (none))) else (none)) else (none)) else ((flat_Above.f x0 x5 x6).bind fun t305 => (if t305 = true then ((flat_Above.f x0 x6 x7).bind fun t306 => (if t306 = true then ((flat_Above.f x0 x5 x7).bind fun t307 => (limelightlaw06_FlatUp.j3 k x0 x5 x6 x8 (!t307))) else (limelightlaw06_FlatUp.j3 k x0 x5 x6 x8 false))) else (limelightlaw06_FlatUp.j3 k x0 x5 x6 x8 false)))
def limelightlaw06_FlatUp.j3 : Nat → List (S36) → Int → Int → List Int → Bool → Option (Bool)
 | 0, _, _, _, _, _ => none
 | k + 1, x0, x5, x6, x8, x90 => if x90 = true then (none) else (if x5 = x6 then (if (x8.length : Int) > 0 then ((limelightlaw06_live.f).bind fun t308 => (some t308)) else (none)) else ((flat_Above.f x0 x5 x6).bind fun t309 => (if t309 = true then ((flat_Above.f x0 x6 x5).bind fun t310 => (if t310 = true then (none) else (if (x8.length : Int) > 0 then ((limelightlaw06_live.f).bind fun t311 => (some t311)) else (none)))) else (if (x8.length : Int) > 0 then ((limelightlaw06_live.f).bind fun t312 => (some t312)) else (none)))))
end
def limelightlaw06_FlatUp.f (k : Nat) (l0 : List (S36)) (a1_0 : Int) (a1_1 : Int) (a1_2 : Int) : Option (Bool) := (limelightref01_Few.f l0).bind fun t288 => (if t288 = true then (limelightlaw06_FlatUp.j0 k l0 (decide ((l0.length : Int) > 20)) a1_0 a1_1 a1_2) else (limelightlaw06_FlatUp.j0 k l0 true a1_0 a1_1 a1_2))
theorem limelightlaw06_FlatUp.mono_l : ∀ k, (∀ y0 y1 y2 y3 y4, LeO (limelightlaw06_FlatUp.j0 k y0 y1 y2 y3 y4) (limelightlaw06_FlatUp.j0 (k + 1) y0 y1 y2 y3 y4)) ∧ (∀ y0 y1 y2 y3 y4, LeO (limelightlaw06_FlatUp.j1 k y0 y1 y2 y3 y4) (limelightlaw06_FlatUp.j1 (k + 1) y0 y1 y2 y3 y4)) ∧ (∀ y0 y1 y2 y3 y4 y5, LeO (limelightlaw06_FlatUp.l0 k y0 y1 y2 y3 y4 y5) (limelightlaw06_FlatUp.l0 (k + 1) y0 y1 y2 y3 y4 y5)) ∧ (∀ y0 y1 y2 y3 y4, LeO (limelightlaw06_FlatUp.j3 k y0 y1 y2 y3 y4) (limelightlaw06_FlatUp.j3 (k + 1) y0 y1 y2 y3 y4))
 | 0 => ⟨fun _ _ _ _ _ r h => by simp [limelightlaw06_FlatUp.j0] at h, fun _ _ _ _ _ r h => by simp [limelightlaw06_FlatUp.j1] at h, fun _ _ _ _ _ _ r h => by simp [limelightlaw06_FlatUp.l0] at h, fun _ _ _ _ _ r h => by simp [limelightlaw06_FlatUp.j3] at h⟩
 | k + 1 => by
  obtain ⟨ih0, ih1, ih2, ih3⟩ := limelightlaw06_FlatUp.mono_l k
  refine ⟨?_, ?_, ?_, ?_⟩
  ·intro y0 y1 y2 y3 y4
   unfold limelightlaw06_FlatUp.j0
   repeat' first
   | (with_reducible exact ih0 _ _ _ _ _)
   | (with_reducible exact ih1 _ _ _ _ _)
   | (with_reducible exact ih2 _ _ _ _ _ _)
   | (with_reducible exact ih3 _ _ _ _ _)
   | (with_reducible exact limelightref03_In.mono _ _ _)
   | (with_reducible exact LeO.refl _)
   | (with_reducible exact LeO.none _)
   | (with_reducible refine LeO.ite ?_ ?_)
   | (with_reducible refine LeO.bind ?_ (fun _ => ?_))
   | exact ih0 _ _ _ _ _
   | exact ih1 _ _ _ _ _
   | exact ih2 _ _ _ _ _ _
   | exact ih3 _ _ _ _ _
   | exact limelightref03_In.mono _ _ _
   | exact LeO.none _
   | refine LeO.ite ?_ ?_
   | refine LeO.bind ?_ (fun _ => ?_)
  ·intro y0 y1 y2 y3 y4
   unfold limelightlaw06_FlatUp.j1
   repeat' first
   | (with_reducible exact ih0 _ _ _ _ _)
   | (with_reducible exact ih1 _ _ _ _ _)
   | (with_reducible exact ih2 _ _ _ _ _ _)
   | (with_reducible exact ih3 _ _ _ _ _)
   | (with_reducible exact limelightref03_In.mono _ _ _)
   | (with_reducible exact LeO.refl _)
   | (with_reducible exact LeO.none _)
   | (with_reducible refine LeO.ite ?_ ?_)
   | (with_reducible refine LeO.bind ?_ (fun _ => ?_))
   | exact ih0 _ _ _ _ _
   | exact ih1 _ _ _ _ _
   | exact ih2 _ _ _ _ _ _
   | exact ih3 _ _ _ _ _
   | exact limelightref03_In.mono _ _ _
   | exact LeO.none _
   | refine LeO.ite ?_ ?_
   | refine LeO.bind ?_ (fun _ => ?_)
  ·intro y0 y1 y2 y3 y4 y5
   unfold limelightlaw06_FlatUp.l0
   repeat' first
   | (with_reducible exact ih0 _ _ _ _ _)
   | (with_reducible exact ih1 _ _ _ _ _)
   | (with_reducible exact ih2 _ _ _ _ _ _)
   | (with_reducible exact ih3 _ _ _ _ _)
   | (with_reducible exact limelightref03_In.mono _ _ _)
   | (with_reducible exact LeO.refl _)
   | (with_reducible exact LeO.none _)
   | (with_reducible refine LeO.ite ?_ ?_)
   | (with_reducible refine LeO.bind ?_ (fun _ => ?_))
   | exact ih0 _ _ _ _ _
   | exact ih1 _ _ _ _ _
   | exact ih2 _ _ _ _ _ _
   | exact ih3 _ _ _ _ _
   | exact limelightref03_In.mono _ _ _
   | exact LeO.none _
   | refine LeO.ite ?_ ?_
   | refine LeO.bind ?_ (fun _ => ?_)
  ·intro y0 y1 y2 y3 y4
   unfold limelightlaw06_FlatUp.j3
   repeat' first
   | (with_reducible exact ih0 _ _ _ _ _)
   | (with_reducible exact ih1 _ _ _ _ _)
   | (with_reducible exact ih2 _ _ _ _ _ _)
   | (with_reducible exact ih3 _ _ _ _ _)
   | (with_reducible exact limelightref03_In.mono _ _ _)
   | (with_reducible exact LeO.refl _)
   | (with_reducible exact LeO.none _)
   | (with_reducible refine LeO.ite ?_ ?_)
   | (with_reducible refine LeO.bind ?_ (fun _ => ?_))
   | exact ih0 _ _ _ _ _
   | exact ih1 _ _ _ _ _
   | exact ih2 _ _ _ _ _ _
   | exact ih3 _ _ _ _ _
   | exact limelightref03_In.mono _ _ _
   | exact LeO.none _
   | refine LeO.ite ?_ ?_
   | refine LeO.bind ?_ (fun _ => ?_)
theorem limelightlaw06_FlatUp.mono : ∀ a0 a1 a2 a3 k, LeO (limelightlaw06_FlatUp.f k a0 a1 a2 a3) (limelightlaw06_FlatUp.f (k + 1) a0 a1 a2 a3) := by
 intro a0 a1 a2 a3 k
 obtain ⟨ih0, ih1, ih2, ih3⟩ := limelightlaw06_FlatUp.mono_l k
 unfold limelightlaw06_FlatUp.f
 repeat' first
   | (with_reducible exact ih0 _ _ _ _ _)
   | (with_reducible exact ih1 _ _ _ _ _)
   | (with_reducible exact ih2 _ _ _ _ _ _)
   | (with_reducible exact ih3 _ _ _ _ _)
   | (with_reducible exact limelightref03_In.mono _ _ _)
   | (with_reducible exact LeO.refl _)
   | (with_reducible exact LeO.none _)
   | (with_reducible refine LeO.ite ?_ ?_)
   | (with_reducible refine LeO.bind ?_ (fun _ => ?_))
   | exact ih0 _ _ _ _ _
   | exact ih1 _ _ _ _ _
   | exact ih2 _ _ _ _ _ _
   | exact ih3 _ _ _ _ _
   | exact limelightref03_In.mono _ _ _
   | exact LeO.none _
   | refine LeO.ite ?_ ?_
   | refine LeO.bind ?_ (fun _ => ?_)
def limelightlaw06_FlatUp.T3 : Bool × List (List Nat × List Nat) := (true, [([], []), ([0], [0]), ([], []), ([2], [2]), ([], []), ([4], [4]), ([1, 0, 1], [1]), ([3, 6, 0, 1, 2, 3, 6], [3]), ([5, 7, 0, 1, 2, 3, 4, 5, 6, 7], [5])])
def limelightlaw06_FlatUp.B3 : List Nat := [0, 1, 0, 4, 0, 16, 3, 79, 255]
theorem limelightlaw06_FlatUp.tab3 : rtab .any (opsOf Try.f6 3) = limelightlaw06_FlatUp.T3 := by kernel_rfl
theorem limelightlaw06_FlatUp.bits3 : waitsOk limelightlaw06_FlatUp.T3.2 limelightlaw06_FlatUp.B3 = true := by kernel_rfl
def limelightlaw06_FlatUp.T10 : Bool × List (List Nat × List Nat) := (true, [([], []), ([], []), ([], []), ([2], [2]), ([1, 3], [1, 3]), ([4], [4]), ([0, 5], [0, 5]), ([], []), ([], []), ([7, 8], [7, 8]), ([9], [9]), ([6, 10], [6, 10]), ([11, 6], [11]), ([12], [12]), ([12], [12]), ([12], [12]), ([14, 15, 12], [12, 14, 15]), ([16, 12], [12, 16]), ([13, 17, 12, 12], [12, 13, 17]), ([12], [12]), ([12], [12]), ([20, 12], [12, 20]), ([19, 21, 12], [12, 19, 21]), ([22, 12], [12, 22]), ([18, 23, 18, 12], [12, 18, 23]), ([24, 12], [12, 24]), ([12, 25], [12, 25])])
def limelightlaw06_FlatUp.B10 : List Nat := [0, 0, 0, 4, 14, 30, 63, 0, 0, 384, 896, 2047, 4095, 8191, 8191, 8191, 57343, 122879, 262143, 8191, 8191, 1056767, 3678207, 7872511, 16777215, 33554431, 67108863]
theorem limelightlaw06_FlatUp.tab10 : rtab .any (opsOf Try.f6 10) = limelightlaw06_FlatUp.T10 := by kernel_rfl
theorem limelightlaw06_FlatUp.bits10 : waitsOk limelightlaw06_FlatUp.T10.2 limelightlaw06_FlatUp.B10 = true := by kernel_rfl
set_option maxHeartbeats 8000000 in
set_option maxRecDepth 100000 in
theorem limelightlaw06_FlatUp.calls (k : Nat) (A0 : Option Addr) (c0 : Nat) (l0 : List (S36)) (a1_0 : Int) (a1_1 : Int) (a1_2 : Int) (r : Bool) (w : World) (hr0 : Kd.C k36 w A0 l0.length l0) (hc0 : l0.length ≤ c0) (h : limelightlaw06_FlatUp.f k l0 a1_0 a1_1 a1_2 = some r) :
  Calls Try.prog 6 #[.slice A0 l0.length c0, .agg #[.int .i64 a1_0, .int .i64 a1_1, .int .i64 a1_2]] w fun e w' => e = .returned (.bool r) ∧ Below w.heap.size w w' := by
 have hu38 := Try.underlying38
 have HR0 := Aside0.mk hr0
 have HC0 := Aside0.mk hc0
 clear hr0 hc0
 have HB := Aside0.mk (Below.refl w.heap.size w)
 have H : ((limelightref01_Few.f l0).bind fun t288 => (if t288 = true then (limelightlaw06_FlatUp.j0 k l0 (decide ((l0.length : Int) > 20)) a1_0 a1_1 a1_2) else (limelightlaw06_FlatUp.j0 k l0 true a1_0 a1_1 a1_2))) = some r := h
 clear h
 have HC3 := Aside0.mk H
 clear H
 go_enter Try.func6, Try.ntmps6
 go_upto_region 1 with (first | ((with_reducible refine gate_dst (N := 3) rfl ?_); (try (refine gate_guard (by rfl) ?_; dsimp only)); refine box_event ?hg (N := 3) ?hd (cs := #[.int .i64 a1_0, .int .i64 a1_1, .int .i64 a1_2]) (t := 38) ?hr ?_; (case hd => rfl); (case hg => rfl); (case hr => first | (go_simp; done) | (go_simp; rfl)); intro gb287 hg w4 hbox hb; have n0_ := Aside0.mk (below_step bel_ hb); have n1_ := Aside0.mk (hbox); have n2_ := Aside0.mk ((by rw [hg]; exact (below_size bel_) : w.heap.size ≤ gb287)); have n3_ := Aside0.mk ((by rw [hg]; exact (below_size bel_) : w.heap.size ≤ gb287)); clear HB; have HB := n0_; have BK287 := n1_; have GW287 := n2_; have GE287 := n3_; clear n0_ n1_ n2_ n3_; clear hb hbox hg))
 (try simp only [Act.put, List.setIfInBounds_toArray, List.set_cons_zero, List.set_cons_succ])
 go_cut [17] (fun v17 wc => ∃ (kq : Nat) (x17_2 : Bool), v17 = .bool x17_2 ∧ Aside0 (limelightlaw06_FlatUp.j0 kq l0 x17_2 a1_0 a1_1 a1_2 = some r) ∧ Aside0 (kq ≤ k) ∧ Aside0 (wc.heap[gb287]? = some (.cells #[.int .i64 a1_0, .int .i64 a1_1, .int .i64 a1_2] 38 (0, 0))) ∧ Aside0 (Below w.heap.size w wc))
 case first =>
  have H := HC3.out
  clear HC3
  replace H := Option.bind_eq_some_iff.mp H
  obtain ⟨t288, A50, H⟩ := H
  replace H : (if t288 = true then (limelightlaw06_FlatUp.j0 k l0 (decide ((l0.length : Int) > 20)) a1_0 a1_1 a1_2) else (limelightlaw06_FlatUp.j0 k l0 true a1_0 a1_1 a1_2)) = some r := H
  have A5 := Aside0.mk A50
  clear A50
  by_cases c6 : t288 = true
  ·subst c6
   have H1 : (limelightlaw06_FlatUp.j0 k l0 (decide ((l0.length : Int) > 20)) a1_0 a1_1 a1_2) = some r := by rw [if_pos rfl] at H; exact H
   clear H
   have H := H1
   clear H1
   have H' := Aside0.mk H
   clear H
   go_wp2_with (first | ((with_reducible refine gate_callee (f := 9) rfl ?_); refine goesL_ (some 11) rfl rfl Try.func9 (by kernel_rfl) rfl #[.slice A0 l0.length c0] rfl margs_ ?_; (with_reducible refine (limelightref01_Few.calls _ _ l0 true _ ?side1 ?side2 A5.out).mono ?_); (case side1 => exact kcb_ ((Kd.C_below HR0.out HB.out))); (case side2 => exact HC0.out); rintro e w7 ⟨rfl, hb⟩; refine ⟨_, rfl, ?_⟩; have n0_ := Aside0.mk (blk_below (g := gb287) (o := .cells #[.int .i64 a1_0, .int .i64 a1_1, .int .i64 a1_2] 38 (0, 0)) (blkx_ BK287.out) hb); have n1_ := Aside0.mk (below_step (belg_ GE287.out) hb); clear BK287; clear HB; have BK287 := n0_; have HB := n1_; clear n0_ n1_; (try clear hb); (try clear hb2); (try clear hk); (try clear hi)))
   go_meet
   case rel => exact ⟨_, (decide ((l0.length : Int) > 20)), (by first | rfl | (simp; done) | (simp [*]; done)), H', ⟨by first | omega | exact Nat.le_refl _⟩, ⟨blkx_ BK287.out⟩, ⟨belg_ GE287.out⟩⟩
  ·replace c6 := Bool.eq_false_iff.mpr c6
   subst c6
   have H1 : (limelightlaw06_FlatUp.j0 k l0 true a1_0 a1_1 a1_2) = some r := by rw [if_neg (show ¬ (false = true) by decide)] at H; exact H
   clear H
   have H := H1
   clear H1
   have H' := Aside0.mk H
   clear H
   go_wp2_with (first | ((with_reducible refine gate_callee (f := 9) rfl ?_); refine goesL_ (some 11) rfl rfl Try.func9 (by kernel_rfl) rfl #[.slice A0 l0.length c0] rfl margs_ ?_; (with_reducible refine (limelightref01_Few.calls _ _ l0 false _ ?side1 ?side2 A5.out).mono ?_); (case side1 => exact kcb_ ((Kd.C_below HR0.out HB.out))); (case side2 => exact HC0.out); rintro e w8 ⟨rfl, hb⟩; refine ⟨_, rfl, ?_⟩; have n0_ := Aside0.mk (blk_below (g := gb287) (o := .cells #[.int .i64 a1_0, .int .i64 a1_1, .int .i64 a1_2] 38 (0, 0)) (blkx_ BK287.out) hb); have n1_ := Aside0.mk (below_step (belg_ GE287.out) hb); clear BK287; clear HB; have BK287 := n0_; have HB := n1_; clear n0_ n1_; (try clear hb); (try clear hb2); (try clear hk); (try clear hi)))
   go_meet
   case rel => exact ⟨_, (true), (by first | rfl | (simp; done) | (simp [*]; done)), H', ⟨by first | omega | exact Nat.le_refl _⟩, ⟨blkx_ BK287.out⟩, ⟨belg_ GE287.out⟩⟩
 case rest =>
  clear HC3
  try clear p2
  try clear c6
  obtain ⟨kq, x17_2, rfl, HA, HJ2, BK287, HB⟩ := hcut
  cases kq with
  | zero => exact absurd HA.out (by simp [limelightlaw06_FlatUp.j0])
  | succ kj2 =>
   have H := HA.out
   clear HA
   simp only [limelightlaw06_FlatUp.j0] at H
   by_cases c9 : x17_2 = true
   ·subst c9
    have H1 : ((limelightlaw06_live.f).bind fun t289 => (some t289)) = some r := by rw [if_pos rfl] at H; exact H
    clear H
    have H := H1
    clear H1
    replace H := Option.bind_eq_some_iff.mp H
    obtain ⟨t289, A100, H⟩ := H
    replace H : (some t289) = some r := H
    have A10 := Aside0.mk A100
    clear A100
    obtain rfl := Option.some.inj H
    go_wp2_with (first | ((with_reducible refine gate_callee (f := 10) rfl ?_); refine goesL_ (some 18) rfl rfl Try.func10 (by kernel_rfl) rfl #[] rfl margs_ ?_; (with_reducible refine (limelightlaw06_live.calls  t289 _ A10.out).mono ?_); rintro e w11 ⟨rfl, hb⟩; refine ⟨_, rfl, ?_⟩; have n0_ := Aside0.mk (blk_below (g := gb287) (o := .cells #[.int .i64 a1_0, .int .i64 a1_1, .int .i64 a1_2] 38 (0, 0)) (blkx_ BK287.out) hb); have n1_ := Aside0.mk (below_step (belg_ GE287.out) hb); clear BK287; clear HB; have BK287 := n0_; have HB := n1_; clear n0_ n1_; (try clear hb); (try clear hb2); (try clear hk); (try clear hi)))
    go_ret
    exact ⟨by first | rfl | (simp [errW_none, errW_some] <;> rfl) | (simp [*, errW_none, errW_some] <;> rfl), belg_ GE287.out⟩
   ·replace c9 := Bool.eq_false_iff.mpr c9
    subst c9
    have H1 : ((limelightref03_Both.f l0 a1_0 a1_1).bind fun t290 => (if t290 = true then ((limelightref03_Both.f l0 a1_1 a1_2).bind fun t291 => (limelightlaw06_FlatUp.j1 kj2 l0 a1_0 a1_1 a1_2 (!t291))) else (limelightlaw06_FlatUp.j1 kj2 l0 a1_0 a1_1 a1_2 true))) = some r := by rw [if_neg (show ¬ (false = true) by decide)] at H; exact H
    clear H
    have H := H1
    clear H1
    have HC12 := Aside0.mk H
    clear H
    try go_wp2
    have n0_ := Aside0.mk (blk_drew BK287.out)
    have n1_ := Aside0.mk (below_drew1 HB.out)
    clear BK287
    clear HB
    have BK287 := n0_
    have HB := n1_
    clear n0_ n1_
    refine start_ (n := 9) (S := fun w' => w'.cell? ⟨gb287, 0, none⟩ = some (.int .i64 a1_0) ∧ w'.cell? ⟨gb287, 1, none⟩ = some (.int .i64 a1_1) ∧ w'.cell? ⟨gb287, 2, none⟩ = some (.int .i64 a1_2)) (ds := []) #[false, false, false, false, false, false, false, false, false] (by kernel_rfl) rfl rfl ⟨(blk_cell BK287.out 0).trans rfl, (blk_cell BK287.out 1).trans rfl, (blk_cell BK287.out 2).trans rfl⟩ (fun hHeld => ?_); refine with_tabW limelightlaw06_FlatUp.tab3 limelightlaw06_FlatUp.bits3 (fun HT_ HW_ => ?_)
    generalize wc.drew = w13 at BK287 HB hHeld ⊢
    refine pure_ (i := 0) (N := some 19) (v := ?_) (a' := ?_) #[true, false, false, false, false, false, false, false, false] rfl rfl (any_of HT_.out (by kernel_rfl)) (fun _ _ _ h => h) (Or.inl ⟨by rfl, ?_⟩) ?_ ?_
    rotate_left
    ·intro w'
     go_simp
     with_reducible rfl
    rotate_left
    ·simp only [Act.put, List.setIfInBounds_toArray, List.set_cons_zero, List.set_cons_succ, i64_w, i32_w]
     rfl
    refine pure_ (i := 2) (N := some 21) (v := ?_) (a' := ?_) #[true, false, true, false, false, false, false, false, false] rfl rfl (any_of HT_.out (by kernel_rfl)) (fun _ _ _ h => h) (Or.inl ⟨by rfl, ?_⟩) ?_ ?_
    rotate_left
    ·intro w'
     go_simp
     with_reducible rfl
    rotate_left
    ·simp only [Act.put, List.setIfInBounds_toArray, List.set_cons_zero, List.set_cons_succ, i64_w, i32_w]
     rfl
    refine pure_ (i := 4) (N := some 23) (v := ?_) (a' := ?_) #[true, false, true, false, true, false, false, false, false] rfl rfl (any_of HT_.out (by kernel_rfl)) (fun _ _ _ h => h) (Or.inl ⟨by rfl, ?_⟩) ?_ ?_
    rotate_left
    ·intro w'
     go_simp
     with_reducible rfl
    rotate_left
    ·simp only [Act.put, List.setIfInBounds_toArray, List.set_cons_zero, List.set_cons_succ, i64_w, i32_w]
     rfl
    refine take_ (i := 1) (N := some 20) (v := ?_) (a' := ?_) #[true, true, true, false, true, false, false, false, false] rfl rfl (take_ofW HT_.out HW_.out (by kernel_rfl)) (fun _ _ _ h => h) (Or.inl ⟨by rfl, ?_⟩) hHeld ?_ ?_
    rotate_left
    ·rintro w' ⟨s0, s1, s2⟩
     go_simp
     with_reducible rfl
    rotate_left
    ·simp only [Act.put, List.setIfInBounds_toArray, List.set_cons_zero, List.set_cons_succ, i64_w, i32_w]
     rfl
    refine pure_ (i := 6) (N := some 5) (v := ?_) (a' := ?_) #[true, true, true, false, true, false, true, false, false] rfl rfl (any_of HT_.out (by kernel_rfl)) (fun _ _ _ h => h) (Or.inl ⟨by rfl, ?_⟩) ?_ ?_
    rotate_left
    ·intro w'
     go_simp
     with_reducible rfl
    rotate_left
    ·simp only [Act.put, List.setIfInBounds_toArray, List.set_cons_zero, List.set_cons_succ, i64_w, i32_w]
     rfl
    refine take_ (i := 3) (N := some 22) (v := ?_) (a' := ?_) #[true, true, true, true, true, false, true, false, false] rfl rfl (take_ofW HT_.out HW_.out (by kernel_rfl)) (fun _ _ _ h => h) (Or.inl ⟨by rfl, ?_⟩) hHeld ?_ ?_
    rotate_left
    ·rintro w' ⟨s0, s1, s2⟩
     go_simp
     with_reducible rfl
    rotate_left
    ·simp only [Act.put, List.setIfInBounds_toArray, List.set_cons_zero, List.set_cons_succ, i64_w, i32_w]
     rfl
    refine pure_ (i := 7) (N := some 6) (v := ?_) (a' := ?_) #[true, true, true, true, true, false, true, true, false] rfl rfl (any_of HT_.out (by kernel_rfl)) (fun _ _ _ h => h) (Or.inl ⟨by rfl, ?_⟩) ?_ ?_
    rotate_left
    ·intro w'
     go_simp
     with_reducible rfl
    rotate_left
    ·simp only [Act.put, List.setIfInBounds_toArray, List.set_cons_zero, List.set_cons_succ, i64_w, i32_w]
     rfl
    refine take_ (i := 5) (N := some 24) (v := ?_) (a' := ?_) #[true, true, true, true, true, true, true, true, false] rfl rfl (take_ofW HT_.out HW_.out (by kernel_rfl)) (fun _ _ _ h => h) (Or.inl ⟨by rfl, ?_⟩) hHeld ?_ ?_
    rotate_left
    ·rintro w' ⟨s0, s1, s2⟩
     go_simp
     with_reducible rfl
    rotate_left
    ·simp only [Act.put, List.setIfInBounds_toArray, List.set_cons_zero, List.set_cons_succ, i64_w, i32_w]
     rfl
    refine pure_ (i := 8) (N := some 7) (v := ?_) (a' := ?_) #[true, true, true, true, true, true, true, true, true] rfl rfl (any_of HT_.out (by kernel_rfl)) (fun _ _ _ h => h) (Or.inl ⟨by rfl, ?_⟩) ?_ ?_
    rotate_left
    ·intro w'
     go_simp
     with_reducible rfl
    rotate_left
    ·simp only [Act.put, List.setIfInBounds_toArray, List.set_cons_zero, List.set_cons_succ, i64_w, i32_w]
     rfl
    refine done_ (done_of HT_.out (by kernel_rfl)) ?_
    go_upto_region 4 with (fail)
    go_cut [36] (fun v36 wc => ∃ (kq : Nat) (x36_11 : Bool), v36 = .bool x36_11 ∧ Aside0 (limelightlaw06_FlatUp.j1 kq l0 a1_0 a1_1 a1_2 x36_11 = some r) ∧ Aside0 (kq ≤ kj2) ∧ Aside0 (wc.heap[gb287]? = some (.cells #[.int .i64 a1_0, .int .i64 a1_1, .int .i64 a1_2] 38 (0, 0))) ∧ Aside0 (Below w.heap.size w wc))
    case first =>
     have H := HC12.out
     clear HC12
     replace H := Option.bind_eq_some_iff.mp H
     obtain ⟨t290, A140, H⟩ := H
     replace H : (if t290 = true then ((limelightref03_Both.f l0 a1_1 a1_2).bind fun t291 => (limelightlaw06_FlatUp.j1 kj2 l0 a1_0 a1_1 a1_2 (!t291))) else (limelightlaw06_FlatUp.j1 kj2 l0 a1_0 a1_1 a1_2 true)) = some r := H
     have A14 := Aside0.mk A140
     clear A140
     by_cases c15 : t290 = true
     ·subst c15
      have H1 : ((limelightref03_Both.f l0 a1_1 a1_2).bind fun t291 => (limelightlaw06_FlatUp.j1 kj2 l0 a1_0 a1_1 a1_2 (!t291))) = some r := by rw [if_pos rfl] at H; exact H
      clear H
      have H := H1
      clear H1
      replace H := Option.bind_eq_some_iff.mp H
      obtain ⟨t291, A160, H⟩ := H
      replace H : (limelightlaw06_FlatUp.j1 kj2 l0 a1_0 a1_1 a1_2 (!t291)) = some r := H
      have A16 := Aside0.mk A160
      clear A160
      have H' := Aside0.mk H
      clear H
      go_wp2_with (first | ((with_reducible refine gate_callee (f := 11) rfl ?_); refine goesL_ (some 28) rfl rfl Try.func11 (by kernel_rfl) rfl #[.slice A0 l0.length c0, .int .i64 a1_0, .int .i64 a1_1] rfl margs_ ?_; (with_reducible refine (limelightref03_Both.calls _ _ l0 a1_0 a1_1 true _ ?side1 ?side2 A14.out).mono ?_); (case side1 => exact kcb_ ((Kd.C_below HR0.out HB.out))); (case side2 => exact HC0.out); rintro e w17 ⟨rfl, hb⟩; refine ⟨_, rfl, ?_⟩; have n0_ := Aside0.mk (blk_below (g := gb287) (o := .cells #[.int .i64 a1_0, .int .i64 a1_1, .int .i64 a1_2] 38 (0, 0)) (blkx_ BK287.out) hb); have n1_ := Aside0.mk (below_step (belg_ GE287.out) hb); clear BK287; clear HB; have BK287 := n0_; have HB := n1_; clear n0_ n1_; (try clear hb); (try clear hb2); (try clear hk); (try clear hi)) | (go_at_call 11; (with_reducible refine (limelightref03_Both.calls _ _ l0 a1_1 a1_2 t291 _ ?side1 ?side2 A16.out).mono ?_); (case side1 => exact kcb_ ((Kd.C_below HR0.out HB.out))); (case side2 => exact HC0.out); rintro e w18 ⟨rfl, hb⟩; have n0_ := Aside0.mk (blk_below (g := gb287) (o := .cells #[.int .i64 a1_0, .int .i64 a1_1, .int .i64 a1_2] 38 (0, 0)) (blkx_ BK287.out) hb); have n1_ := Aside0.mk (below_step (belg_ GE287.out) hb); clear BK287; clear HB; have BK287 := n0_; have HB := n1_; clear n0_ n1_; (try clear hb); (try clear hb2); (try clear hk); (try clear hi)))
      go_meet
      case rel => exact ⟨_, (!t291), (by first | rfl | (simp; done) | (simp [*]; done)), H', ⟨by have := HJ2.out; first | omega | exact Nat.le_refl _⟩, ⟨blkx_ BK287.out⟩, ⟨belg_ GE287.out⟩⟩
     ·replace c15 := Bool.eq_false_iff.mpr c15
      subst c15
      have H1 : (limelightlaw06_FlatUp.j1 kj2 l0 a1_0 a1_1 a1_2 true) = some r := by rw [if_neg (show ¬ (false = true) by decide)] at H; exact H
      clear H
      have H := H1
      clear H1
      have H' := Aside0.mk H
      clear H
      go_wp2_with (first | ((with_reducible refine gate_callee (f := 11) rfl ?_); refine goesL_ (some 28) rfl rfl Try.func11 (by kernel_rfl) rfl #[.slice A0 l0.length c0, .int .i64 a1_0, .int .i64 a1_1] rfl margs_ ?_; (with_reducible refine (limelightref03_Both.calls _ _ l0 a1_0 a1_1 false _ ?side1 ?side2 A14.out).mono ?_); (case side1 => exact kcb_ ((Kd.C_below HR0.out HB.out))); (case side2 => exact HC0.out); rintro e w19 ⟨rfl, hb⟩; refine ⟨_, rfl, ?_⟩; have n0_ := Aside0.mk (blk_below (g := gb287) (o := .cells #[.int .i64 a1_0, .int .i64 a1_1, .int .i64 a1_2] 38 (0, 0)) (blkx_ BK287.out) hb); have n1_ := Aside0.mk (below_step (belg_ GE287.out) hb); clear BK287; clear HB; have BK287 := n0_; have HB := n1_; clear n0_ n1_; (try clear hb); (try clear hb2); (try clear hk); (try clear hi)))
      go_meet
      case rel => exact ⟨_, (true), (by first | rfl | (simp; done) | (simp [*]; done)), H', ⟨by have := HJ2.out; first | omega | exact Nat.le_refl _⟩, ⟨blkx_ BK287.out⟩, ⟨belg_ GE287.out⟩⟩
    case rest =>
     clear HC12
     try clear c1
     try clear p2
     try clear c6
     try clear c9
     try clear c10
     try clear c11
     try clear c15
     try clear p2
     obtain ⟨kq, x36_11, rfl, HA, HJ11, BK287, HB⟩ := hcut
     cases kq with
     | zero => exact absurd HA.out (by simp [limelightlaw06_FlatUp.j1])
     | succ kj11 =>
      have H := HA.out
      clear HA
      simp only [limelightlaw06_FlatUp.j1] at H
      by_cases c20 : x36_11 = true
      ·subst c20
       have H1 : ((limelightlaw06_live.f).bind fun t292 => (some t292)) = some r := by rw [if_pos rfl] at H; exact H
       clear H
       have H := H1
       clear H1
       replace H := Option.bind_eq_some_iff.mp H
       obtain ⟨t292, A210, H⟩ := H
       replace H : (some t292) = some r := H
       have A21 := Aside0.mk A210
       clear A210
       obtain rfl := Option.some.inj H
       go_wp2_with (first | ((with_reducible refine gate_callee (f := 10) rfl ?_); refine goesL_ (some 37) rfl rfl Try.func10 (by kernel_rfl) rfl #[] rfl margs_ ?_; (with_reducible refine (limelightlaw06_live.calls  t292 _ A21.out).mono ?_); rintro e w22 ⟨rfl, hb⟩; refine ⟨_, rfl, ?_⟩; have n0_ := Aside0.mk (blk_below (g := gb287) (o := .cells #[.int .i64 a1_0, .int .i64 a1_1, .int .i64 a1_2] 38 (0, 0)) (blkx_ BK287.out) hb); have n1_ := Aside0.mk (below_step (belg_ GE287.out) hb); clear BK287; clear HB; have BK287 := n0_; have HB := n1_; clear n0_ n1_; (try clear hb); (try clear hb2); (try clear hk); (try clear hi)))
       go_ret
       exact ⟨by first | rfl | (simp [errW_none, errW_some] <;> rfl) | (simp [*, errW_none, errW_some] <;> rfl), belg_ GE287.out⟩
      ·replace c20 := Bool.eq_false_iff.mpr c20
       subst c20
       have H1 : ((flat_Up.f l0 a1_0).bind fun t293 => (limelightlaw06_FlatUp.l0 kj11 l0 a1_0 a1_1 a1_2 t293 1)) = some r := by rw [if_neg (show ¬ (false = true) by decide)] at H; exact H
       clear H
       have H := H1
       clear H1
       replace H := Option.bind_eq_some_iff.mp H
       obtain ⟨t293, A230, H⟩ := H
       replace H : (limelightlaw06_FlatUp.l0 kj11 l0 a1_0 a1_1 a1_2 t293 1) = some r := H
       have A23 := Aside0.mk A230
       clear A230
       have H' := Aside0.mk H
       clear H
       go_wp2_with (first | ((with_reducible refine gate_callee (f := 15) rfl ?_); refine goesL_ (some 40) rfl rfl Try.func15 (by kernel_rfl) rfl #[.slice A0 l0.length c0, .int .i64 a1_0] rfl margs_ ?_; (with_reducible refine (flat_Up.calls _ _ l0 a1_0 t293 _ ?side1 ?side2 A23.out).mono ?_); (case side1 => exact kcb_ ((Kd.C_below HR0.out HB.out))); (case side2 => exact HC0.out); rintro e w24 ⟨v294, rfl, ho0, hb⟩; refine ⟨_, rfl, ?_⟩; have n0_ := Aside0.mk (Kd.R_lower ho0 (below_size (belg_ GE287.out))); have n1_ := Aside0.mk (blk_below (g := gb287) (o := .cells #[.int .i64 a1_0, .int .i64 a1_1, .int .i64 a1_2] 38 (0, 0)) (blkx_ BK287.out) hb); have n2_ := Aside0.mk (below_step (belg_ GE287.out) hb); clear BK287; clear HB; have HO295 := n0_; have BK287 := n1_; have HB := n2_; clear n0_ n1_ n2_; (try clear hb); (try clear hb2); (try clear hk); (try clear hi); (try clear ho0)))
       go_loopg [9] kj11 (fun kq v9 w' => ∃ (x9_3 : Int), v9 = .int .i64 x9_3 ∧ Aside0 (limelightlaw06_FlatUp.l0 kq l0 a1_0 a1_1 a1_2 t293 x9_3 = some r) ∧ Aside0 (kq ≤ kj11) ∧ Aside0 (Kd.R (Kd.int .i64) 3 w' w.heap.size (fun _ => True) v294 t293) ∧ Aside0 (w'.heap[gb287]? = some (.cells #[.int .i64 a1_0, .int .i64 a1_1, .int .i64 a1_2] 38 (0, 0))) ∧ Aside0 (Below w.heap.size w w'))
       case atStart => exact ⟨(1), (by first | rfl | (simp; done) | (simp [*]; done)), H', ⟨Nat.le_refl _⟩, ⟨kra_ HO295.out⟩, ⟨blkx_ BK287.out⟩, ⟨belg_ GE287.out⟩⟩
       case round =>
        clear H'
        try clear c1
        try clear c2
        try clear p2
        try clear c6
        try clear c9
        try clear c10
        try clear c11
        try clear c15
        try clear c20
        try clear p2
        obtain ⟨x9_3, rfl, HA, HK3, HO_8, BK287, HB⟩ := hrel
        cases gk with
        | zero => exact absurd HA.out (by simp [limelightlaw06_FlatUp.l0])
        | succ k3 =>
         have H := HA.out
         clear HA
         simp only [limelightlaw06_FlatUp.l0] at H
         by_cases c25 : x9_3 < (t293.length : Int)
         ·rw [if_pos c25] at H
          have c25b0 : decide (x9_3 < (t293.length : Int)) = true := decide_eq_true c25
          clear c25
          obtain ⟨ji26, hji26⟩ : ∃ j_ : Int, (wrap64 (x9_3 - 1)) = j_ := ⟨_, rfl⟩
          replace H : (if 0 ≤ (ji26) then (if (ji26) < (t293.length : Int) then ((flat_Parent.f l0 (rd t293 (ji26))).bind fun t297 => (if 0 ≤ x9_3 then (if t297 = (rd t293 x9_3) then ((flat_Kids.f l0 (rd t293 x9_3)).bind fun t300 => ((limelightref03_In.f k3 t300 (rd t293 (ji26))).bind fun t304 => (if t304 = true then (limelightlaw06_FlatUp.l0 k3 l0 a1_0 a1_1 a1_2 t293 (wrap64 (x9_3 + 1))) else (none)))) else (none)) else (none))) else (none)) else (none)) = some r := by first | (rw [hji26] at H; exact H) | (simp only [hji26] at H ⊢; exact H)
          have hji26w : (IntKind.i64.wrap (x9_3 - 1)) = ji26 := (i64_w _).trans hji26
          by_cases c27 : 0 ≤ (ji26)
          ·rw [if_pos c27] at H
           have c27b0 : decide (0 ≤ (ji26)) = true := decide_eq_true c27
           clear c27
           by_cases c28 : (ji26) < (t293.length : Int)
           ·rw [if_pos c28] at H
            have c28b0 : decide ((ji26) < (t293.length : Int)) = true := decide_eq_true c28
            clear c28
            replace H := Option.bind_eq_some_iff.mp H
            obtain ⟨t297, A290, H⟩ := H
            replace H : (if 0 ≤ x9_3 then (if t297 = (rd t293 x9_3) then ((flat_Kids.f l0 (rd t293 x9_3)).bind fun t300 => ((limelightref03_In.f k3 t300 (rd t293 (ji26))).bind fun t304 => (if t304 = true then (limelightlaw06_FlatUp.l0 k3 l0 a1_0 a1_1 a1_2 t293 (wrap64 (x9_3 + 1))) else (none)))) else (none)) else (none)) = some r := H
            have A29 := Aside0.mk A290
            clear A290
            by_cases c30 : 0 ≤ x9_3
            ·rw [if_pos c30] at H
             have c30b0 : decide (0 ≤ x9_3) = true := decide_eq_true c30
             clear c30
             by_cases c31 : t297 = (rd t293 x9_3)
             ·rw [if_pos c31] at H
              have c31b0 : (t297 == (rd t293 x9_3)) = true := beq_iff_eq.mpr c31
              have c31b1 : (t297 != (rd t293 x9_3)) = false := bne_eq_false_iff_eq.mpr c31
              clear c31
              replace H := Option.bind_eq_some_iff.mp H
              obtain ⟨t300, A320, H⟩ := H
              replace H : ((limelightref03_In.f k3 t300 (rd t293 (ji26))).bind fun t304 => (if t304 = true then (limelightlaw06_FlatUp.l0 k3 l0 a1_0 a1_1 a1_2 t293 (wrap64 (x9_3 + 1))) else (none))) = some r := H
              have A32 := Aside0.mk A320
              clear A320
              replace H := Option.bind_eq_some_iff.mp H
              obtain ⟨t304, A330, H⟩ := H
              replace H : (if t304 = true then (limelightlaw06_FlatUp.l0 k3 l0 a1_0 a1_1 a1_2 t293 (wrap64 (x9_3 + 1))) else (none)) = some r := H
              have A33 := Aside0.mk A330
              clear A330
              by_cases c34 : t304 = true
              ·subst c34
               have H1 : (limelightlaw06_FlatUp.l0 k3 l0 a1_0 a1_1 a1_2 t293 (wrap64 (x9_3 + 1))) = some r := by rw [if_pos rfl] at H; exact H
               clear H
               have H := H1
               clear H1
               have H' := Aside0.mk H
               clear H
               obtain ⟨Ao35, co35, eo35⟩ := Kd.R_slice HO_8.out
               subst eo35
               try go_wp2
               have n0_ := Aside0.mk (Kd.R_drew HO_8.out)
               have n1_ := Aside0.mk (blk_drew BK287.out)
               have n2_ := Aside0.mk (below_drew1 HB.out)
               clear HO_8
               clear BK287
               clear HB
               have HO_8 := n0_
               have BK287 := n1_
               have HB := n2_
               clear n0_ n1_ n2_
               have p296 : 0 ≤ ((ji26) : Int) := of_decide_eq_true asm_
               have q296 : (ji26) < (t293.length : Int) := of_decide_eq_true asm_
               obtain ⟨ad296, e296, hx296_0⟩ := Kd.at_int (Kd.R_reads' HO_8.out).2.2 (ji26) p296 q296
               cases e296
               replace p296 := eq_true p296
               replace q296 := eq_true q296
               have p298 : 0 ≤ (x9_3 : Int) := of_decide_eq_true asm_
               have q298 : x9_3 < (t293.length : Int) := of_decide_eq_true asm_
               obtain ⟨ad298, e298, hx298_0⟩ := Kd.at_int (Kd.R_reads' HO_8.out).2.2 x9_3 p298 q298
               obtain rfl : ad296 = ad298 := (by injection e298)
               replace p298 := eq_true p298
               replace q298 := eq_true q298
               have p299 : 0 ≤ (x9_3 : Int) := of_decide_eq_true asm_
               have q299 : x9_3 < (t293.length : Int) := of_decide_eq_true asm_
               obtain ⟨ad299, e299, hx299_0⟩ := Kd.at_int (Kd.R_reads' HO_8.out).2.2 x9_3 p299 q299
               obtain rfl : ad296 = ad299 := (by injection e299)
               replace p299 := eq_true p299
               replace q299 := eq_true q299
               have p303 : 0 ≤ ((ji26) : Int) := of_decide_eq_true asm_
               have q303 : (ji26) < (t293.length : Int) := of_decide_eq_true asm_
               obtain ⟨ad303, e303, hx303_0⟩ := Kd.at_int (Kd.R_reads' HO_8.out).2.2 (ji26) p303 q303
               obtain rfl : ad296 = ad303 := (by injection e303)
               replace p303 := eq_true p303
               replace q303 := eq_true q303
               refine start_ (n := 27) (S := fun w' => w'.cell? (ad296.add ((ji26)).toNat) = some (.int .i64 (rd t293 (ji26))) ∧ w'.cell? (ad296.add (x9_3).toNat) = some (.int .i64 (rd t293 x9_3)) ∧ w'.cell? (ad296.add (x9_3).toNat) = some (.int .i64 (rd t293 x9_3)) ∧ w'.cell? (ad296.add ((ji26)).toNat) = some (.int .i64 (rd t293 (ji26)))) (ds := []) #[false, false, false, false, false, false, false, false, false, false, false, false, false, false, false, false, false, false, false, false, false, false, false, false, false, false, false] (by kernel_rfl) rfl rfl ⟨hx296_0, hx298_0, hx299_0, hx303_0⟩ (fun hHeld => ?_); refine with_tabW limelightlaw06_FlatUp.tab10 limelightlaw06_FlatUp.bits10 (fun HT_ HW_ => ?_)
               generalize wr.drew = w36 at HO_8 BK287 HB hx296_0 hx298_0 hx299_0 hx303_0 hHeld ⊢
               refine pure_ (i := 0) (N := some 47) (v := ?_) (a' := ?_) #[true, false, false, false, false, false, false, false, false, false, false, false, false, false, false, false, false, false, false, false, false, false, false, false, false, false, false] rfl rfl (any_of HT_.out (by kernel_rfl)) (fun _ _ _ h => h) (Or.inl ⟨by rfl, ?_⟩) ?_ ?_
               rotate_left
               ·intro w'
                go_simp
                with_reducible rfl
               rotate_left
               ·simp only [Act.put, List.setIfInBounds_toArray, List.set_cons_zero, List.set_cons_succ, i64_w, i32_w]
                rfl
               refine pure_ (i := 1) (N := some 48) (v := ?_) (a' := ?_) #[true, true, false, false, false, false, false, false, false, false, false, false, false, false, false, false, false, false, false, false, false, false, false, false, false, false, false] rfl rfl (any_of HT_.out (by kernel_rfl)) (fun _ _ _ h => h) (Or.inl ⟨by rfl, ?_⟩) ?_ ?_
               rotate_left
               ·intro w'
                go_simp
                with_reducible rfl
               rotate_left
               ·simp only [Act.put, List.setIfInBounds_toArray, List.set_cons_zero, List.set_cons_succ, i64_w, i32_w]
                rfl
               refine pure_ (i := 2) (N := some 49) (v := ?_) (a' := ?_) #[true, true, true, false, false, false, false, false, false, false, false, false, false, false, false, false, false, false, false, false, false, false, false, false, false, false, false] rfl rfl (any_of HT_.out (by kernel_rfl)) (fun _ _ _ h => h) (Or.inl ⟨by rfl, ?_⟩) ?_ ?_
               rotate_left
               ·intro w'
                go_simp
                with_reducible rfl
               rotate_left
               ·simp only [Act.put, List.setIfInBounds_toArray, List.set_cons_zero, List.set_cons_succ, i64_w, i32_w]
                rfl
               refine pure_ (i := 3) (N := some 50) (v := ?_) (a' := ?_) #[true, true, true, true, false, false, false, false, false, false, false, false, false, false, false, false, false, false, false, false, false, false, false, false, false, false, false] rfl rfl (any_of HT_.out (by kernel_rfl)) (fun _ _ _ h => h) (Or.inl ⟨by rfl, ?_⟩) ?_ ?_
               rotate_left
               ·intro w'
                go_simp
                with_reducible rfl
               rotate_left
               ·simp only [Act.put, List.setIfInBounds_toArray, List.set_cons_zero, List.set_cons_succ, i64_w, i32_w]
                rfl
               refine pure_ (i := 4) (N := some 51) (v := ?_) (a' := ?_) #[true, true, true, true, true, false, false, false, false, false, false, false, false, false, false, false, false, false, false, false, false, false, false, false, false, false, false] rfl rfl (any_of HT_.out (by kernel_rfl)) (fun _ _ _ h => h) (Or.inl ⟨by rfl, ?_⟩) ?_ ?_
               rotate_left
               ·intro w'
                go_simp
                with_reducible rfl
               rotate_left
               ·simp only [Act.put, List.setIfInBounds_toArray, List.set_cons_zero, List.set_cons_succ, i64_w, i32_w]
                rfl
               refine pure_ (i := 7) (N := some 54) (v := ?_) (a' := ?_) #[true, true, true, true, true, false, false, true, false, false, false, false, false, false, false, false, false, false, false, false, false, false, false, false, false, false, false] rfl rfl (any_of HT_.out (by kernel_rfl)) (fun _ _ _ h => h) (Or.inl ⟨by rfl, ?_⟩) ?_ ?_
               rotate_left
               ·intro w'
                go_simp
                with_reducible rfl
               rotate_left
               ·simp only [Act.put, List.setIfInBounds_toArray, List.set_cons_zero, List.set_cons_succ, i64_w, i32_w]
                rfl
               refine pure_ (i := 8) (N := some 55) (v := ?_) (a' := ?_) #[true, true, true, true, true, false, false, true, true, false, false, false, false, false, false, false, false, false, false, false, false, false, false, false, false, false, false] rfl rfl (any_of HT_.out (by kernel_rfl)) (fun _ _ _ h => h) (Or.inl ⟨by rfl, ?_⟩) ?_ ?_
               rotate_left
               ·intro w'
                go_simp
                with_reducible rfl
               rotate_left
               ·simp only [Act.put, List.setIfInBounds_toArray, List.set_cons_zero, List.set_cons_succ, i64_w, i32_w]
                rfl
               refine pure_ (i := 9) (N := some 56) (v := ?_) (a' := ?_) #[true, true, true, true, true, false, false, true, true, true, false, false, false, false, false, false, false, false, false, false, false, false, false, false, false, false, false] rfl rfl (any_of HT_.out (by kernel_rfl)) (fun _ _ _ h => h) (Or.inl ⟨by rfl, ?_⟩) ?_ ?_
               rotate_left
               ·intro w'
                go_simp
                with_reducible rfl
               rotate_left
               ·simp only [Act.put, List.setIfInBounds_toArray, List.set_cons_zero, List.set_cons_succ, i64_w, i32_w]
                rfl
               refine take_ (i := 5) (N := some 52) (v := ?_) (a' := ?_) #[true, true, true, true, true, true, false, true, true, true, false, false, false, false, false, false, false, false, false, false, false, false, false, false, false, false, false] rfl rfl (take_ofW HT_.out HW_.out (by kernel_rfl)) (fun _ _ _ h => h) (Or.inl ⟨by rfl, ?_⟩) hHeld ?_ ?_
               rotate_left
               ·rintro w' ⟨s0, s1, s2, s3⟩
                go_simp
                with_reducible rfl
               rotate_left
               ·simp only [Act.put, List.setIfInBounds_toArray, List.set_cons_zero, List.set_cons_succ, i64_w, i32_w]
                rfl
               refine take_ (i := 10) (N := some 57) (v := ?_) (a' := ?_) #[true, true, true, true, true, true, false, true, true, true, true, false, false, false, false, false, false, false, false, false, false, false, false, false, false, false, false] rfl rfl (take_ofW HT_.out HW_.out (by kernel_rfl)) (fun _ _ _ h => h) (Or.inl ⟨by rfl, ?_⟩) hHeld ?_ ?_
               rotate_left
               ·rintro w' ⟨s0, s1, s2, s3⟩
                go_simp
                with_reducible rfl
               rotate_left
               ·simp only [Act.put, List.setIfInBounds_toArray, List.set_cons_zero, List.set_cons_succ, i64_w, i32_w]
                rfl
               refine one_ (i := 6) (N := some 53) #[true, true, true, true, true, true, true, true, true, true, true, false, false, false, false, false, false, false, false, false, false, false, false, false, false, false, false] rfl rfl (one_of HT_.out (by kernel_rfl)) (by decide) (fun K hK => ?_)
               refine goes_ Try.func14 (by kernel_rfl) rfl #[.slice A0 l0.length c0, .int .i64 (rd t293 (ji26))] (by rfl) rfl rfl (by (try simp only [List.map_toArray, List.map_cons, List.map_nil]); first | done | (simp only [hji26]; rfl) | rfl | (simp only [List.length_drop, List.length_take]; rfl)) ?_
               with_reducible refine (flat_Parent.calls _ _ l0 (rd t293 (ji26)) t297 _ ?side1 ?side2 A29.out).mono ?_
               (case side1 => exact kcb_ ((Kd.C_below HR0.out HB.out)))
               (case side2 => exact HC0.out)
               rintro e w37 ⟨rfl, hb⟩
               have HS0_ := (hb.cell (World.block_lt_of_cell? _ _ (hHeld.1))).trans (hHeld.1)
               have HS1_ := (hb.cell (World.block_lt_of_cell? _ _ (hHeld.2.1))).trans (hHeld.2.1)
               have HS2_ := (hb.cell (World.block_lt_of_cell? _ _ (hHeld.2.2.1))).trans (hHeld.2.2.1)
               have HS3_ := (hb.cell (World.block_lt_of_cell? _ _ (hHeld.2.2.2))).trans (hHeld.2.2.2)
               refine ⟨_, rfl, ?_⟩
               have n0_ := Aside0.mk (Kd.R_below (kra_ HO_8.out) hb)
               have n1_ := Aside0.mk (blk_below (g := gb287) (o := .cells #[.int .i64 a1_0, .int .i64 a1_1, .int .i64 a1_2] 38 (0, 0)) (blkx_ BK287.out) hb)
               have n2_ := Aside0.mk (below_step (belg_ GE287.out) hb)
               clear HO_8
               clear BK287
               clear HB
               have HO_8 := n0_
               have BK287 := n1_
               have HB := n2_
               clear n0_ n1_ n2_
               (try clear hb)
               (try clear hb2)
               (try clear hk)
               (try clear hi)
               refine hK.out _ _ ⟨HS0_, HS1_, HS2_, HS3_⟩ (fun hHeld => ?_)
               clear hK K
               refine norm_ (a' := ?_) ?_ ?_
               rotate_left
               ·show Act.put _ (some 53) _ = _
                simp only [Act.put, List.setIfInBounds_toArray, List.set_cons_zero, List.set_cons_succ, i64_w, i32_w]
                rfl
               refine pure_ (i := 11) (N := some 58) (v := ?_) (a' := ?_) #[true, true, true, true, true, true, true, true, true, true, true, true, false, false, false, false, false, false, false, false, false, false, false, false, false, false, false] rfl rfl (any_of HT_.out (by kernel_rfl)) (fun _ _ _ h => h) (Or.inl ⟨by rfl, ?_⟩) ?_ ?_
               rotate_left
               ·intro w'
                go_simp
                with_reducible rfl
               rotate_left
               ·simp only [Act.put, List.setIfInBounds_toArray, List.set_cons_zero, List.set_cons_succ, i64_w, i32_w]
                rfl
               refine pure_ (i := 12) (N := some 59) (v := ?_) (a' := ?_) #[true, true, true, true, true, true, true, true, true, true, true, true, true, false, false, false, false, false, false, false, false, false, false, false, false, false, false] rfl rfl (any_of HT_.out (by kernel_rfl)) (fun _ _ _ h => h) (Or.inl ⟨by rfl, ?_⟩) ?_ ?_
               rotate_left
               ·intro w'
                go_simp
                with_reducible rfl
               rotate_left
               ·simp only [Act.put, List.setIfInBounds_toArray, List.set_cons_zero, List.set_cons_succ, i64_w, i32_w]
                rfl
               refine pure_ (i := 13) (N := some 60) (v := ?_) (a' := ?_) #[true, true, true, true, true, true, true, true, true, true, true, true, true, true, false, false, false, false, false, false, false, false, false, false, false, false, false] rfl rfl (any_of HT_.out (by kernel_rfl)) (fun _ _ _ h => h) (Or.inl ⟨by rfl, ?_⟩) ?_ ?_
               rotate_left
               ·intro w'
                go_simp
                with_reducible rfl
               rotate_left
               ·simp only [Act.put, List.setIfInBounds_toArray, List.set_cons_zero, List.set_cons_succ, i64_w, i32_w]
                rfl
               refine pure_ (i := 14) (N := some 61) (v := ?_) (a' := ?_) #[true, true, true, true, true, true, true, true, true, true, true, true, true, true, true, false, false, false, false, false, false, false, false, false, false, false, false] rfl rfl (any_of HT_.out (by kernel_rfl)) (fun _ _ _ h => h) (Or.inl ⟨by rfl, ?_⟩) ?_ ?_
               rotate_left
               ·intro w'
                go_simp
                with_reducible rfl
               rotate_left
               ·simp only [Act.put, List.setIfInBounds_toArray, List.set_cons_zero, List.set_cons_succ, i64_w, i32_w]
                rfl
               refine pure_ (i := 15) (N := some 62) (v := ?_) (a' := ?_) #[true, true, true, true, true, true, true, true, true, true, true, true, true, true, true, true, false, false, false, false, false, false, false, false, false, false, false] rfl rfl (any_of HT_.out (by kernel_rfl)) (fun _ _ _ h => h) (Or.inl ⟨by rfl, ?_⟩) ?_ ?_
               rotate_left
               ·intro w'
                go_simp
                with_reducible rfl
               rotate_left
               ·simp only [Act.put, List.setIfInBounds_toArray, List.set_cons_zero, List.set_cons_succ, i64_w, i32_w]
                rfl
               refine pure_ (i := 16) (N := some 63) (v := ?_) (a' := ?_) #[true, true, true, true, true, true, true, true, true, true, true, true, true, true, true, true, true, false, false, false, false, false, false, false, false, false, false] rfl rfl (any_of HT_.out (by kernel_rfl)) (fun _ _ _ h => h) (Or.inl ⟨by rfl, ?_⟩) ?_ ?_
               rotate_left
               ·intro w'
                go_simp
                with_reducible rfl
               rotate_left
               ·simp only [Act.put, List.setIfInBounds_toArray, List.set_cons_zero, List.set_cons_succ, i64_w, i32_w]
                rfl
               refine pure_ (i := 19) (N := some 66) (v := ?_) (a' := ?_) #[true, true, true, true, true, true, true, true, true, true, true, true, true, true, true, true, true, false, false, true, false, false, false, false, false, false, false] rfl rfl (any_of HT_.out (by kernel_rfl)) (fun _ _ _ h => h) (Or.inl ⟨by rfl, ?_⟩) ?_ ?_
               rotate_left
               ·intro w'
                go_simp
                with_reducible rfl
               rotate_left
               ·simp only [Act.put, List.setIfInBounds_toArray, List.set_cons_zero, List.set_cons_succ, i64_w, i32_w]
                rfl
               refine pure_ (i := 20) (N := some 67) (v := ?_) (a' := ?_) #[true, true, true, true, true, true, true, true, true, true, true, true, true, true, true, true, true, false, false, true, true, false, false, false, false, false, false] rfl rfl (any_of HT_.out (by kernel_rfl)) (fun _ _ _ h => h) (Or.inl ⟨by rfl, ?_⟩) ?_ ?_
               rotate_left
               ·intro w'
                go_simp
                with_reducible rfl
               rotate_left
               ·simp only [Act.put, List.setIfInBounds_toArray, List.set_cons_zero, List.set_cons_succ, i64_w, i32_w]
                rfl
               refine pure_ (i := 21) (N := some 68) (v := ?_) (a' := ?_) #[true, true, true, true, true, true, true, true, true, true, true, true, true, true, true, true, true, false, false, true, true, true, false, false, false, false, false] rfl rfl (any_of HT_.out (by kernel_rfl)) (fun _ _ _ h => h) (Or.inl ⟨by rfl, ?_⟩) ?_ ?_
               rotate_left
               ·intro w'
                go_simp
                with_reducible rfl
               rotate_left
               ·simp only [Act.put, List.setIfInBounds_toArray, List.set_cons_zero, List.set_cons_succ, i64_w, i32_w]
                rfl
               refine pure_ (i := 22) (N := some 69) (v := ?_) (a' := ?_) #[true, true, true, true, true, true, true, true, true, true, true, true, true, true, true, true, true, false, false, true, true, true, true, false, false, false, false] rfl rfl (any_of HT_.out (by kernel_rfl)) (fun _ _ _ h => h) (Or.inl ⟨by rfl, ?_⟩) ?_ ?_
               rotate_left
               ·intro w'
                go_simp
                with_reducible rfl
               rotate_left
               ·simp only [Act.put, List.setIfInBounds_toArray, List.set_cons_zero, List.set_cons_succ, i64_w, i32_w]
                rfl
               refine take_ (i := 17) (N := some 64) (v := ?_) (a' := ?_) #[true, true, true, true, true, true, true, true, true, true, true, true, true, true, true, true, true, true, false, true, true, true, true, false, false, false, false] rfl rfl (take_ofW HT_.out HW_.out (by kernel_rfl)) (fun _ _ _ h => h) (Or.inl ⟨by rfl, ?_⟩) hHeld ?_ ?_
               rotate_left
               ·rintro w' ⟨s0, s1, s2, s3⟩
                go_simp
                with_reducible rfl
               rotate_left
               ·simp only [Act.put, List.setIfInBounds_toArray, List.set_cons_zero, List.set_cons_succ, i64_w, i32_w]
                rfl
               refine take_ (i := 23) (N := some 70) (v := ?_) (a' := ?_) #[true, true, true, true, true, true, true, true, true, true, true, true, true, true, true, true, true, true, false, true, true, true, true, true, false, false, false] rfl rfl (take_ofW HT_.out HW_.out (by kernel_rfl)) (fun _ _ _ h => h) (Or.inl ⟨by rfl, ?_⟩) hHeld ?_ ?_
               rotate_left
               ·rintro w' ⟨s0, s1, s2, s3⟩
                go_simp
                with_reducible rfl
               rotate_left
               ·simp only [Act.put, List.setIfInBounds_toArray, List.set_cons_zero, List.set_cons_succ, i64_w, i32_w]
                rfl
               refine one_ (i := 18) (N := some 65) #[true, true, true, true, true, true, true, true, true, true, true, true, true, true, true, true, true, true, true, true, true, true, true, true, false, false, false] rfl rfl (one_of HT_.out (by kernel_rfl)) (by decide) (fun K hK => ?_)
               refine goes_ Try.func13 (by kernel_rfl) rfl #[.slice A0 l0.length c0, .int .i64 (rd t293 x9_3)] (by rfl) rfl rfl margs_ ?_
               with_reducible refine (flat_Kids.calls _ _ l0 (rd t293 x9_3) t300 _ ?side1 ?side2 A32.out).mono ?_
               (case side1 => exact kcb_ ((Kd.C_below HR0.out HB.out)))
               (case side2 => exact HC0.out)
               rintro e w38 ⟨v301, rfl, ho0, hb⟩
               have HS0_ := (hb.cell (World.block_lt_of_cell? _ _ (hHeld.1))).trans (hHeld.1)
               have HS1_ := (hb.cell (World.block_lt_of_cell? _ _ (hHeld.2.1))).trans (hHeld.2.1)
               have HS2_ := (hb.cell (World.block_lt_of_cell? _ _ (hHeld.2.2.1))).trans (hHeld.2.2.1)
               have HS3_ := (hb.cell (World.block_lt_of_cell? _ _ (hHeld.2.2.2))).trans (hHeld.2.2.2)
               refine ⟨_, rfl, ?_⟩
               have n0_ := Aside0.mk (Kd.R_elder' (kra_ HO_8.out) (Kd.R_base ho0) hb)
               have n1_ := Aside0.mk (Kd.R_lower (Kd.R_new' ho0 (Kd.R_lt (kra_ HO_8.out))) (below_size (belg_ GE287.out)))
               have n2_ := Aside0.mk (blk_below (g := gb287) (o := .cells #[.int .i64 a1_0, .int .i64 a1_1, .int .i64 a1_2] 38 (0, 0)) (blkx_ BK287.out) hb)
               have n3_ := Aside0.mk (below_step (belg_ GE287.out) hb)
               clear HO_8
               clear BK287
               clear HB
               have HO_8 := n0_
               have HO302 := n1_
               have BK287 := n2_
               have HB := n3_
               clear n0_ n1_ n2_ n3_
               (try clear hb)
               (try clear hb2)
               (try clear hk)
               (try clear hi)
               (try clear ho0)
               obtain ⟨Ao39, co39, eo39⟩ := Kd.R_slice HO302.out
               (first | subst eo39 | (injection eo39 with f1_ f2_ f3_; have f4_ := f1_.symm; have f5_ := f3_.symm; clear f1_ f2_ f3_; subst f4_; subst f5_))
               refine hK.out _ _ ⟨HS0_, HS1_, HS2_, HS3_⟩ (fun hHeld => ?_)
               clear hK K
               refine norm_ (a' := ?_) ?_ ?_
               rotate_left
               ·show Act.put _ (some 65) _ = _
                simp only [Act.put, List.setIfInBounds_toArray, List.set_cons_zero, List.set_cons_succ, i64_w, i32_w]
                rfl
               refine one_ (i := 24) (N := some 71) #[true, true, true, true, true, true, true, true, true, true, true, true, true, true, true, true, true, true, true, true, true, true, true, true, true, false, false] rfl rfl (one_of HT_.out (by kernel_rfl)) (by decide) (fun K hK => ?_)
               refine goes_ Try.func26 (by kernel_rfl) rfl #[.slice Ao39 t300.length co39, .int .i64 (rd t293 (ji26))] (by rfl) rfl rfl (by (try simp only [List.map_toArray, List.map_cons, List.map_nil]); first | done | (simp only [hji26]; rfl) | rfl | (simp only [List.length_drop, List.length_take]; rfl)) ?_
               with_reducible refine (limelightref03_In.calls k3 _ _ t300 (rd t293 (ji26)) true _ ?side1 ?side2 A33.out).mono ?_
               (case side1 => exact kcb_ ((Kd.R_reads' HO302.out).2.2))
               (case side2 => exact (Kd.R_reads' HO302.out).2.1)
               rintro e w' ⟨rfl, ⟨nd, rfl⟩⟩
               refine ⟨_, rfl, ?_⟩
               refine hK.out _ _ ⟨hHeld.1, hHeld.2.1, hHeld.2.2.1, hHeld.2.2.2⟩ (fun hHeld => ?_)
               clear hK K
               refine norm_ (a' := ?_) ?_ ?_
               rotate_left
               ·show Act.put _ (some 71) _ = _
                simp only [Act.put, List.setIfInBounds_toArray, List.set_cons_zero, List.set_cons_succ, i64_w, i32_w]
                rfl
               refine pure_ (i := 25) (N := some 72) (v := ?_) (a' := ?_) #[true, true, true, true, true, true, true, true, true, true, true, true, true, true, true, true, true, true, true, true, true, true, true, true, true, true, false] rfl rfl (any_of HT_.out (by kernel_rfl)) (fun _ _ _ h => h) (Or.inl ⟨by rfl, ?_⟩) ?_ ?_
               rotate_left
               ·intro w'
                go_simp
                with_reducible rfl
               rotate_left
               ·simp only [Act.put, List.setIfInBounds_toArray, List.set_cons_zero, List.set_cons_succ, i64_w, i32_w]
                rfl
               refine pure_ (i := 26) (N := some 73) (v := ?_) (a' := ?_) #[true, true, true, true, true, true, true, true, true, true, true, true, true, true, true, true, true, true, true, true, true, true, true, true, true, true, true] rfl rfl (any_of HT_.out (by kernel_rfl)) (fun _ _ _ h => h) (Or.inl ⟨by rfl, ?_⟩) ?_ ?_
               rotate_left
               ·intro w'
                go_simp
                with_reducible rfl
               rotate_left
               ·simp only [Act.put, List.setIfInBounds_toArray, List.set_cons_zero, List.set_cons_succ, i64_w, i32_w]
                rfl
               refine done_ (done_of HT_.out (by kernel_rfl)) ?_
               try go_wp2
               go_roundg k3
               case measure => have := HJ2.out; have := HJ11.out; have := HK3.out; omega
               case rel => exact ⟨(wrap64 (x9_3 + 1)), (by first | rfl | (simp; done) | (simp [*]; done)), H', ⟨by have := HJ2.out; have := HJ11.out; have := HK3.out; omega⟩, ⟨by (with_reducible repeat (first | apply Kd.R_alloc | apply Kd.R_drewN | apply Kd.R_drew)); exact Kd.R_mono HO_8.out (fun _ hk => trivial)⟩, ⟨blkx_ BK287.out⟩, ⟨belg_ GE287.out⟩⟩
              ·replace c34 := Bool.eq_false_iff.mpr c34
               subst c34
               have H1 : (none) = some r := by rw [if_neg (show ¬ (false = true) by decide)] at H; exact H
               clear H
               have H := H1
               clear H1
               exact absurd H (by simp)
             ·rw [if_neg c31] at H
              have c31b0 : (t297 == (rd t293 x9_3)) = false := beq_eq_false_iff_ne.mpr c31
              have c31b1 : (t297 != (rd t293 x9_3)) = true := bne_iff_ne.mpr c31
              exact absurd H (by simp)
            ·rw [if_neg c30] at H
             exact absurd H (by simp)
           ·rw [if_neg c28] at H
            exact absurd H (by simp)
          ·rw [if_neg c27] at H
           exact absurd H (by simp)
         ·rw [if_neg c25] at H
          have c25b0 : decide (x9_3 < (t293.length : Int)) = false := decide_eq_false c25
          clear c25
          have HC40 := Aside0.mk H
          clear H
          obtain ⟨Ao41, co41, eo41⟩ := Kd.R_slice HO_8.out
          subst eo41
          go_upto_region 12 with (fail)
          go_cut [90] (fun v90 wc => ∃ (kq : Nat) (x90_39 : Bool), v90 = .bool x90_39 ∧ Aside0 (limelightlaw06_FlatUp.j3 kq l0 a1_0 a1_1 t293 x90_39 = some r) ∧ Aside0 (kq ≤ k3) ∧ Aside0 (Kd.R (Kd.int .i64) 3 wc w.heap.size (fun _ => True) (.slice Ao41 t293.length co41) t293) ∧ Aside0 (wc.heap[gb287]? = some (.cells #[.int .i64 a1_0, .int .i64 a1_1, .int .i64 a1_2] 38 (0, 0))) ∧ Aside0 (Below w.heap.size w wc))
          case first =>
           have H := HC40.out
           clear HC40
           replace H := Option.bind_eq_some_iff.mp H
           obtain ⟨t305, A420, H⟩ := H
           replace H : (if t305 = true then ((flat_Above.f l0 a1_1 a1_2).bind fun t306 => (if t306 = true then ((flat_Above.f l0 a1_0 a1_2).bind fun t307 => (limelightlaw06_FlatUp.j3 k3 l0 a1_0 a1_1 t293 (!t307))) else (limelightlaw06_FlatUp.j3 k3 l0 a1_0 a1_1 t293 false))) else (limelightlaw06_FlatUp.j3 k3 l0 a1_0 a1_1 t293 false)) = some r := H
           have A42 := Aside0.mk A420
           clear A420
           by_cases c43 : t305 = true
           ·subst c43
            have H1 : ((flat_Above.f l0 a1_1 a1_2).bind fun t306 => (if t306 = true then ((flat_Above.f l0 a1_0 a1_2).bind fun t307 => (limelightlaw06_FlatUp.j3 k3 l0 a1_0 a1_1 t293 (!t307))) else (limelightlaw06_FlatUp.j3 k3 l0 a1_0 a1_1 t293 false))) = some r := by rw [if_pos rfl] at H; exact H
            clear H
            have H := H1
            clear H1
            replace H := Option.bind_eq_some_iff.mp H
            obtain ⟨t306, A440, H⟩ := H
            replace H : (if t306 = true then ((flat_Above.f l0 a1_0 a1_2).bind fun t307 => (limelightlaw06_FlatUp.j3 k3 l0 a1_0 a1_1 t293 (!t307))) else (limelightlaw06_FlatUp.j3 k3 l0 a1_0 a1_1 t293 false)) = some r := H
            have A44 := Aside0.mk A440
            clear A440
            by_cases c45 : t306 = true
            ·subst c45
             have H1 : ((flat_Above.f l0 a1_0 a1_2).bind fun t307 => (limelightlaw06_FlatUp.j3 k3 l0 a1_0 a1_1 t293 (!t307))) = some r := by rw [if_pos rfl] at H; exact H
             clear H
             have H := H1
             clear H1
             replace H := Option.bind_eq_some_iff.mp H
             obtain ⟨t307, A460, H⟩ := H
             replace H : (limelightlaw06_FlatUp.j3 k3 l0 a1_0 a1_1 t293 (!t307)) = some r := H
             have A46 := Aside0.mk A460
             clear A460
             have H' := Aside0.mk H
             clear H
             go_wp2_with (first | ((with_reducible refine gate_callee (f := 12) rfl ?_); refine goesL_ (some 77) rfl rfl Try.func12 (by kernel_rfl) rfl #[.slice A0 l0.length c0, .int .i64 a1_0, .int .i64 a1_1] rfl margs_ ?_; (with_reducible refine (flat_Above.calls _ _ l0 a1_0 a1_1 true _ ?side1 ?side2 A42.out).mono ?_); (case side1 => exact kcb_ ((Kd.C_below HR0.out HB.out))); (case side2 => exact HC0.out); rintro e w47 ⟨rfl, hb⟩; refine ⟨_, rfl, ?_⟩; have n0_ := Aside0.mk (Kd.R_below (kra_ HO_8.out) hb); have n1_ := Aside0.mk (blk_below (g := gb287) (o := .cells #[.int .i64 a1_0, .int .i64 a1_1, .int .i64 a1_2] 38 (0, 0)) (blkx_ BK287.out) hb); have n2_ := Aside0.mk (below_step (belg_ GE287.out) hb); clear HO_8; clear BK287; clear HB; have HO_8 := n0_; have BK287 := n1_; have HB := n2_; clear n0_ n1_ n2_; (try clear hb); (try clear hb2); (try clear hk); (try clear hi)) | (go_at_call 12; (with_reducible refine (flat_Above.calls _ _ l0 a1_1 a1_2 true _ ?side1 ?side2 A44.out).mono ?_); (case side1 => exact kcb_ ((Kd.C_below HR0.out HB.out))); (case side2 => exact HC0.out); rintro e w48 ⟨rfl, hb⟩; have n0_ := Aside0.mk (Kd.R_below (kra_ HO_8.out) hb); have n1_ := Aside0.mk (blk_below (g := gb287) (o := .cells #[.int .i64 a1_0, .int .i64 a1_1, .int .i64 a1_2] 38 (0, 0)) (blkx_ BK287.out) hb); have n2_ := Aside0.mk (below_step (belg_ GE287.out) hb); clear HO_8; clear BK287; clear HB; have HO_8 := n0_; have BK287 := n1_; have HB := n2_; clear n0_ n1_ n2_; (try clear hb); (try clear hb2); (try clear hk); (try clear hi)) | (go_at_call 12; (with_reducible refine (flat_Above.calls _ _ l0 a1_0 a1_2 t307 _ ?side1 ?side2 A46.out).mono ?_); (case side1 => exact kcb_ ((Kd.C_below HR0.out HB.out))); (case side2 => exact HC0.out); rintro e w49 ⟨rfl, hb⟩; have n0_ := Aside0.mk (Kd.R_below (kra_ HO_8.out) hb); have n1_ := Aside0.mk (blk_below (g := gb287) (o := .cells #[.int .i64 a1_0, .int .i64 a1_1, .int .i64 a1_2] 38 (0, 0)) (blkx_ BK287.out) hb); have n2_ := Aside0.mk (below_step (belg_ GE287.out) hb); clear HO_8; clear BK287; clear HB; have HO_8 := n0_; have BK287 := n1_; have HB := n2_; clear n0_ n1_ n2_; (try clear hb); (try clear hb2); (try clear hk); (try clear hi)))
             go_meet
             case rel => exact ⟨_, (!t307), (by first | rfl | (simp; done) | (simp [*]; done)), H', ⟨by have := HJ2.out; have := HJ11.out; have := HK3.out; first | omega | exact Nat.le_refl _⟩, ⟨kra_ HO_8.out⟩, ⟨blkx_ BK287.out⟩, ⟨belg_ GE287.out⟩⟩
            ·replace c45 := Bool.eq_false_iff.mpr c45
             subst c45
             have H1 : (limelightlaw06_FlatUp.j3 k3 l0 a1_0 a1_1 t293 false) = some r := by rw [if_neg (show ¬ (false = true) by decide)] at H; exact H
             clear H
             have H := H1
             clear H1
             have H' := Aside0.mk H
             clear H
             go_wp2_with (first | ((with_reducible refine gate_callee (f := 12) rfl ?_); refine goesL_ (some 77) rfl rfl Try.func12 (by kernel_rfl) rfl #[.slice A0 l0.length c0, .int .i64 a1_0, .int .i64 a1_1] rfl margs_ ?_; (with_reducible refine (flat_Above.calls _ _ l0 a1_0 a1_1 true _ ?side1 ?side2 A42.out).mono ?_); (case side1 => exact kcb_ ((Kd.C_below HR0.out HB.out))); (case side2 => exact HC0.out); rintro e w50 ⟨rfl, hb⟩; refine ⟨_, rfl, ?_⟩; have n0_ := Aside0.mk (Kd.R_below (kra_ HO_8.out) hb); have n1_ := Aside0.mk (blk_below (g := gb287) (o := .cells #[.int .i64 a1_0, .int .i64 a1_1, .int .i64 a1_2] 38 (0, 0)) (blkx_ BK287.out) hb); have n2_ := Aside0.mk (below_step (belg_ GE287.out) hb); clear HO_8; clear BK287; clear HB; have HO_8 := n0_; have BK287 := n1_; have HB := n2_; clear n0_ n1_ n2_; (try clear hb); (try clear hb2); (try clear hk); (try clear hi)) | (go_at_call 12; (with_reducible refine (flat_Above.calls _ _ l0 a1_1 a1_2 false _ ?side1 ?side2 A44.out).mono ?_); (case side1 => exact kcb_ ((Kd.C_below HR0.out HB.out))); (case side2 => exact HC0.out); rintro e w51 ⟨rfl, hb⟩; have n0_ := Aside0.mk (Kd.R_below (kra_ HO_8.out) hb); have n1_ := Aside0.mk (blk_below (g := gb287) (o := .cells #[.int .i64 a1_0, .int .i64 a1_1, .int .i64 a1_2] 38 (0, 0)) (blkx_ BK287.out) hb); have n2_ := Aside0.mk (below_step (belg_ GE287.out) hb); clear HO_8; clear BK287; clear HB; have HO_8 := n0_; have BK287 := n1_; have HB := n2_; clear n0_ n1_ n2_; (try clear hb); (try clear hb2); (try clear hk); (try clear hi)))
             go_meet
             case rel => exact ⟨_, (false), (by first | rfl | (simp; done) | (simp [*]; done)), H', ⟨by have := HJ2.out; have := HJ11.out; have := HK3.out; first | omega | exact Nat.le_refl _⟩, ⟨kra_ HO_8.out⟩, ⟨blkx_ BK287.out⟩, ⟨belg_ GE287.out⟩⟩
           ·replace c43 := Bool.eq_false_iff.mpr c43
            subst c43
            have H1 : (limelightlaw06_FlatUp.j3 k3 l0 a1_0 a1_1 t293 false) = some r := by rw [if_neg (show ¬ (false = true) by decide)] at H; exact H
            clear H
            have H := H1
            clear H1
            have H' := Aside0.mk H
            clear H
            go_wp2_with (first | ((with_reducible refine gate_callee (f := 12) rfl ?_); refine goesL_ (some 77) rfl rfl Try.func12 (by kernel_rfl) rfl #[.slice A0 l0.length c0, .int .i64 a1_0, .int .i64 a1_1] rfl margs_ ?_; (with_reducible refine (flat_Above.calls _ _ l0 a1_0 a1_1 false _ ?side1 ?side2 A42.out).mono ?_); (case side1 => exact kcb_ ((Kd.C_below HR0.out HB.out))); (case side2 => exact HC0.out); rintro e w52 ⟨rfl, hb⟩; refine ⟨_, rfl, ?_⟩; have n0_ := Aside0.mk (Kd.R_below (kra_ HO_8.out) hb); have n1_ := Aside0.mk (blk_below (g := gb287) (o := .cells #[.int .i64 a1_0, .int .i64 a1_1, .int .i64 a1_2] 38 (0, 0)) (blkx_ BK287.out) hb); have n2_ := Aside0.mk (below_step (belg_ GE287.out) hb); clear HO_8; clear BK287; clear HB; have HO_8 := n0_; have BK287 := n1_; have HB := n2_; clear n0_ n1_ n2_; (try clear hb); (try clear hb2); (try clear hk); (try clear hi)))
            go_meet
            case rel => exact ⟨_, (false), (by first | rfl | (simp; done) | (simp [*]; done)), H', ⟨by have := HJ2.out; have := HJ11.out; have := HK3.out; first | omega | exact Nat.le_refl _⟩, ⟨kra_ HO_8.out⟩, ⟨blkx_ BK287.out⟩, ⟨belg_ GE287.out⟩⟩
          case rest =>
           clear HC40
           try clear c1
           try clear c2
           try clear p2
           try clear q2
           try clear hx2
           try clear c3
           try clear p3
           try clear q3
           try clear hx3
           try clear c4
           try clear c6
           try clear p6
           try clear c9
           try clear c10
           try clear c11
           try clear c12
           try clear c13
           try clear c14
           try clear c15
           try clear c20
           try clear c25
           try clear c25b0
           try clear c26
           try clear c27
           try clear c27b0
           try clear c28
           try clear c28b0
           try clear p29
           try clear q29
           try clear hx29
           try clear c30
           try clear c30b0
           try clear p30
           try clear q30
           try clear hx30
           try clear c31
           try clear c31b0
           try clear c31b1
           try clear c34
           try clear c43
           try clear c45
           try clear hx296_0
           try clear hx298_0
           try clear hx299_0
           try clear hx303_0
           try clear p2
           try clear p296
           try clear p298
           try clear p299
           try clear p303
           try clear q296
           try clear q298
           try clear q299
           try clear q303
           obtain ⟨kq, x90_39, rfl, HA, HJ39, HO_8, BK287, HB⟩ := hcut
           cases kq with
           | zero => exact absurd HA.out (by simp [limelightlaw06_FlatUp.j3])
           | succ kj39 =>
            have H := HA.out
            clear HA
            simp only [limelightlaw06_FlatUp.j3] at H
            by_cases c53 : x90_39 = true
            ·subst c53
             have H1 : (none) = some r := by rw [if_pos rfl] at H; exact H
             clear H
             have H := H1
             clear H1
             exact absurd H (by simp)
            ·replace c53 := Bool.eq_false_iff.mpr c53
             subst c53
             have H1 : (if a1_0 = a1_1 then (if (t293.length : Int) > 0 then ((limelightlaw06_live.f).bind fun t308 => (some t308)) else (none)) else ((flat_Above.f l0 a1_0 a1_1).bind fun t309 => (if t309 = true then ((flat_Above.f l0 a1_1 a1_0).bind fun t310 => (if t310 = true then (none) else (if (t293.length : Int) > 0 then ((limelightlaw06_live.f).bind fun t311 => (some t311)) else (none)))) else (if (t293.length : Int) > 0 then ((limelightlaw06_live.f).bind fun t312 => (some t312)) else (none))))) = some r := by rw [if_neg (show ¬ (false = true) by decide)] at H; exact H
             clear H
             have H := H1
             clear H1
             by_cases c54 : a1_0 = a1_1
             ·rw [if_pos c54] at H
              have c54b0 : (a1_0 == a1_1) = true := beq_iff_eq.mpr c54
              have c54b1 : (a1_0 != a1_1) = false := bne_eq_false_iff_eq.mpr c54
              clear c54
              by_cases c55 : (t293.length : Int) > 0
              ·rw [if_pos c55] at H
               have c55b0 : decide (0 < (t293.length : Int)) = true := decide_eq_true c55
               have c55b1 : decide (0 < t293.length) = true := decide_eq_true (by omega)
               clear c55
               replace H := Option.bind_eq_some_iff.mp H
               obtain ⟨t308, A560, H⟩ := H
               replace H : (some t308) = some r := H
               have A56 := Aside0.mk A560
               clear A560
               obtain rfl := Option.some.inj H
               go_wp2_with (first | (go_at_call 10; (with_reducible refine (limelightlaw06_live.calls  t308 _ A56.out).mono ?_); rintro e w57 ⟨rfl, hb⟩; have n0_ := Aside0.mk (Kd.R_below (kra_ HO_8.out) hb); have n1_ := Aside0.mk (blk_below (g := gb287) (o := .cells #[.int .i64 a1_0, .int .i64 a1_1, .int .i64 a1_2] 38 (0, 0)) (blkx_ BK287.out) hb); have n2_ := Aside0.mk (below_step (belg_ GE287.out) hb); clear HO_8; clear BK287; clear HB; have HO_8 := n0_; have BK287 := n1_; have HB := n2_; clear n0_ n1_ n2_; (try clear hb); (try clear hb2); (try clear hk); (try clear hi)))
               go_ret
               exact ⟨by first | rfl | (simp [errW_none, errW_some] <;> rfl) | (simp [*, errW_none, errW_some] <;> rfl), belg_ GE287.out⟩
              ·rw [if_neg c55] at H
               exact absurd H (by simp)
             ·rw [if_neg c54] at H
              have c54b0 : (a1_0 == a1_1) = false := beq_eq_false_iff_ne.mpr c54
              have c54b1 : (a1_0 != a1_1) = true := bne_iff_ne.mpr c54
              replace H := Option.bind_eq_some_iff.mp H
              obtain ⟨t309, A580, H⟩ := H
              replace H : (if t309 = true then ((flat_Above.f l0 a1_1 a1_0).bind fun t310 => (if t310 = true then (none) else (if (t293.length : Int) > 0 then ((limelightlaw06_live.f).bind fun t311 => (some t311)) else (none)))) else (if (t293.length : Int) > 0 then ((limelightlaw06_live.f).bind fun t312 => (some t312)) else (none))) = some r := H
              have A58 := Aside0.mk A580
              clear A580
              by_cases c59 : t309 = true
              ·subst c59
               have H1 : ((flat_Above.f l0 a1_1 a1_0).bind fun t310 => (if t310 = true then (none) else (if (t293.length : Int) > 0 then ((limelightlaw06_live.f).bind fun t311 => (some t311)) else (none)))) = some r := by rw [if_pos rfl] at H; exact H
               clear H
               have H := H1
               clear H1
               replace H := Option.bind_eq_some_iff.mp H
               obtain ⟨t310, A600, H⟩ := H
               replace H : (if t310 = true then (none) else (if (t293.length : Int) > 0 then ((limelightlaw06_live.f).bind fun t311 => (some t311)) else (none))) = some r := H
               have A60 := Aside0.mk A600
               clear A600
               by_cases c61 : t310 = true
               ·subst c61
                have H1 : (none) = some r := by rw [if_pos rfl] at H; exact H
                clear H
                have H := H1
                clear H1
                exact absurd H (by simp)
               ·replace c61 := Bool.eq_false_iff.mpr c61
                subst c61
                have H1 : (if (t293.length : Int) > 0 then ((limelightlaw06_live.f).bind fun t311 => (some t311)) else (none)) = some r := by rw [if_neg (show ¬ (false = true) by decide)] at H; exact H
                clear H
                have H := H1
                clear H1
                by_cases c62 : (t293.length : Int) > 0
                ·rw [if_pos c62] at H
                 have c62b0 : decide (0 < (t293.length : Int)) = true := decide_eq_true c62
                 have c62b1 : decide (0 < t293.length) = true := decide_eq_true (by omega)
                 clear c62
                 replace H := Option.bind_eq_some_iff.mp H
                 obtain ⟨t311, A630, H⟩ := H
                 replace H : (some t311) = some r := H
                 have A63 := Aside0.mk A630
                 clear A630
                 obtain rfl := Option.some.inj H
                 go_wp2_with (first | (go_at_call 12; (with_reducible refine (flat_Above.calls _ _ l0 a1_0 a1_1 true _ ?side1 ?side2 A58.out).mono ?_); (case side1 => exact kcb_ ((Kd.C_below HR0.out HB.out))); (case side2 => exact HC0.out); rintro e w64 ⟨rfl, hb⟩; have n0_ := Aside0.mk (Kd.R_below (kra_ HO_8.out) hb); have n1_ := Aside0.mk (blk_below (g := gb287) (o := .cells #[.int .i64 a1_0, .int .i64 a1_1, .int .i64 a1_2] 38 (0, 0)) (blkx_ BK287.out) hb); have n2_ := Aside0.mk (below_step (belg_ GE287.out) hb); clear HO_8; clear BK287; clear HB; have HO_8 := n0_; have BK287 := n1_; have HB := n2_; clear n0_ n1_ n2_; (try clear hb); (try clear hb2); (try clear hk); (try clear hi)) | (go_at_call 12; (with_reducible refine (flat_Above.calls _ _ l0 a1_1 a1_0 false _ ?side1 ?side2 A60.out).mono ?_); (case side1 => exact kcb_ ((Kd.C_below HR0.out HB.out))); (case side2 => exact HC0.out); rintro e w65 ⟨rfl, hb⟩; have n0_ := Aside0.mk (Kd.R_below (kra_ HO_8.out) hb); have n1_ := Aside0.mk (blk_below (g := gb287) (o := .cells #[.int .i64 a1_0, .int .i64 a1_1, .int .i64 a1_2] 38 (0, 0)) (blkx_ BK287.out) hb); have n2_ := Aside0.mk (below_step (belg_ GE287.out) hb); clear HO_8; clear BK287; clear HB; have HO_8 := n0_; have BK287 := n1_; have HB := n2_; clear n0_ n1_ n2_; (try clear hb); (try clear hb2); (try clear hk); (try clear hi)) | (go_at_call 10; (with_reducible refine (limelightlaw06_live.calls  t311 _ A63.out).mono ?_); rintro e w66 ⟨rfl, hb⟩; have n0_ := Aside0.mk (Kd.R_below (kra_ HO_8.out) hb); have n1_ := Aside0.mk (blk_below (g := gb287) (o := .cells #[.int .i64 a1_0, .int .i64 a1_1, .int .i64 a1_2] 38 (0, 0)) (blkx_ BK287.out) hb); have n2_ := Aside0.mk (below_step (belg_ GE287.out) hb); clear HO_8; clear BK287; clear HB; have HO_8 := n0_; have BK287 := n1_; have HB := n2_; clear n0_ n1_ n2_; (try clear hb); (try clear hb2); (try clear hk); (try clear hi)))
                 go_ret
                 exact ⟨by first | rfl | (simp [errW_none, errW_some] <;> rfl) | (simp [*, errW_none, errW_some] <;> rfl), belg_ GE287.out⟩
                ·rw [if_neg c62] at H
                 exact absurd H (by simp)
              ·replace c59 := Bool.eq_false_iff.mpr c59
               subst c59
               have H1 : (if (t293.length : Int) > 0 then ((limelightlaw06_live.f).bind fun t312 => (some t312)) else (none)) = some r := by rw [if_neg (show ¬ (false = true) by decide)] at H; exact H
               clear H
               have H := H1
               clear H1
               by_cases c67 : (t293.length : Int) > 0
               ·rw [if_pos c67] at H
                have c67b0 : decide (0 < (t293.length : Int)) = true := decide_eq_true c67
                have c67b1 : decide (0 < t293.length) = true := decide_eq_true (by omega)
                clear c67
                replace H := Option.bind_eq_some_iff.mp H
                obtain ⟨t312, A680, H⟩ := H
                replace H : (some t312) = some r := H
                have A68 := Aside0.mk A680
                clear A680
                obtain rfl := Option.some.inj H
                go_wp2_with (first | (go_at_call 12; (with_reducible refine (flat_Above.calls _ _ l0 a1_0 a1_1 false _ ?side1 ?side2 A58.out).mono ?_); (case side1 => exact kcb_ ((Kd.C_below HR0.out HB.out))); (case side2 => exact HC0.out); rintro e w69 ⟨rfl, hb⟩; have n0_ := Aside0.mk (Kd.R_below (kra_ HO_8.out) hb); have n1_ := Aside0.mk (blk_below (g := gb287) (o := .cells #[.int .i64 a1_0, .int .i64 a1_1, .int .i64 a1_2] 38 (0, 0)) (blkx_ BK287.out) hb); have n2_ := Aside0.mk (below_step (belg_ GE287.out) hb); clear HO_8; clear BK287; clear HB; have HO_8 := n0_; have BK287 := n1_; have HB := n2_; clear n0_ n1_ n2_; (try clear hb); (try clear hb2); (try clear hk); (try clear hi)) | (go_at_call 10; (with_reducible refine (limelightlaw06_live.calls  t312 _ A68.out).mono ?_); rintro e w70 ⟨rfl, hb⟩; have n0_ := Aside0.mk (Kd.R_below (kra_ HO_8.out) hb); have n1_ := Aside0.mk (blk_below (g := gb287) (o := .cells #[.int .i64 a1_0, .int .i64 a1_1, .int .i64 a1_2] 38 (0, 0)) (blkx_ BK287.out) hb); have n2_ := Aside0.mk (below_step (belg_ GE287.out) hb); clear HO_8; clear BK287; clear HB; have HO_8 := n0_; have BK287 := n1_; have HB := n2_; clear n0_ n1_ n2_; (try clear hb); (try clear hb2); (try clear hk); (try clear hi)))
                go_ret
                exact ⟨by first | rfl | (simp [errW_none, errW_some] <;> rfl) | (simp [*, errW_none, errW_some] <;> rfl), belg_ GE287.out⟩
               ·rw [if_neg c67] at H
                exact absurd H (by simp)

end Go.Proofs.Ytfdhfnjdafaogaa.P
