import Derived.Test.YtclhmgchllenlaaPx0
import Derived.Test.YtclhmgchllenlaaPx1
import Derived.Test.YtclhmgchllenlaaPx4
import Derived.Test.YtclhmgchllenlaaPx6
import Derived.Test.YtclhmgchllenlaaGMk
import Derived.Test.YtclhmgchllenlaaLiv01
import Derived.Test.YtclhmgchllenlaaME
-- printed by wip/tools/pp.sh (a patched copy of the print's program), for this claim.
namespace Go.Proofs.Ytclhmgchllenlaa.P
open Go.RowKit Go.Proofs.YtclhmgchllenlaaW.PrintWords Go.Proofs.YtclhmgchllenlaaW.PrintLast Go.Proofs.YtclhmgchllenlaaW.PrintMore
attribute [local go_sem] max2_int min2_int max_two min_two max_three min_three max_four min_four   -- for this text's walks alone
set_option linter.unusedVariables false
set_option linter.unusedSimpArgs false

/-! ### limelightlaw01_TreeBack: function 6 -/
def limelightlaw01_TreeBack.j0 : Nat → List (S49) → Bool → Int → Int → Int → Option (Bool)
 | 0, _, _, _, _, _ => none
 | k + 1, x0, x20, x301000, x301001, x301002 => if x20 = true then ((limelightlaw01_live.f).bind fun t303 => (some t303)) else (if 0 ≤ x301001 then (if x301001 < (x0.length : Int) then (if ((rd_T49 x0 x301001).f2) = (-1) then ((limelightlaw01_own.f x301000 x301001 x301002).bind fun bt313 => ((tree_Insert.f x0 bt313.1 bt313.2.1 bt313.2.2).bind fun bt316 => (if bt316.2 = 0 then ((tree_Remove.f bt316.1 x301001).bind fun bt320 => (if bt320.2 = 0 then ((limelightref01_Same.f k bt320.1 x0).bind fun t324 => (if t324 = true then ((limelightlaw01_live.f).bind fun t325 => (some t325)) else (none))) else (none))) else ((limelightlaw01_live.f).bind fun t326 => (some t326))))) else ((tree_Insert.f x0 ((rd_T49 x0 x301001).f2) x301001 x301001).bind fun bt306 => (if bt306.2 = 0 then ((limelightref01_Same.f k bt306.1 x0).bind fun t310 => (if t310 = true then ((limelightlaw01_live.f).bind fun t311 => (some t311)) else (none))) else ((limelightlaw01_live.f).bind fun t312 => (some t312))))) else (none)) else (none))
def limelightlaw01_TreeBack.f (k : Nat) (l0 : List (S49)) (a1_0 : Int) (a1_1 : Int) (a1_2 : Int) : Option (Bool) := (limelightref01_Small.f l0).bind fun t301 => (if t301 = true then ((limelightref01_Is.f l0 a1_1).bind fun t302 => (limelightlaw01_TreeBack.j0 k l0 (!t302) a1_0 a1_1 a1_2)) else (limelightlaw01_TreeBack.j0 k l0 true a1_0 a1_1 a1_2))
theorem limelightlaw01_TreeBack.mono_l : ∀ k, (∀ y0 y1 y2 y3 y4, LeO (limelightlaw01_TreeBack.j0 k y0 y1 y2 y3 y4) (limelightlaw01_TreeBack.j0 (k + 1) y0 y1 y2 y3 y4))
 | 0 => fun _ _ _ _ _ r h => by simp [limelightlaw01_TreeBack.j0] at h
 | k + 1 => by
  have ih0 := limelightlaw01_TreeBack.mono_l k
  ·intro y0 y1 y2 y3 y4
   unfold limelightlaw01_TreeBack.j0
   repeat' first
   | (with_reducible exact ih0 _ _ _ _ _)
   | (with_reducible exact limelightref01_Same.mono _ _ _)
   | (with_reducible exact LeO.refl _)
   | (with_reducible exact LeO.none _)
   | (with_reducible refine LeO.ite ?_ ?_)
   | (with_reducible refine LeO.bind ?_ (fun _ => ?_))
   | exact ih0 _ _ _ _ _
   | exact limelightref01_Same.mono _ _ _
   | exact LeO.none _
   | refine LeO.ite ?_ ?_
   | refine LeO.bind ?_ (fun _ => ?_)
theorem limelightlaw01_TreeBack.mono : ∀ a0 a1 a2 a3 k, LeO (limelightlaw01_TreeBack.f k a0 a1 a2 a3) (limelightlaw01_TreeBack.f (k + 1) a0 a1 a2 a3) := by
 intro a0 a1 a2 a3 k
 have ih0 := limelightlaw01_TreeBack.mono_l k
 unfold limelightlaw01_TreeBack.f
 repeat' first
   | (with_reducible exact ih0 _ _ _ _ _)
   | (with_reducible exact limelightref01_Same.mono _ _ _)
   | (with_reducible exact LeO.refl _)
   | (with_reducible exact LeO.none _)
   | (with_reducible refine LeO.ite ?_ ?_)
   | (with_reducible refine LeO.bind ?_ (fun _ => ?_))
   | exact ih0 _ _ _ _ _
   | exact limelightref01_Same.mono _ _ _
   | exact LeO.none _
   | refine LeO.ite ?_ ?_
   | refine LeO.bind ?_ (fun _ => ?_)
def limelightlaw01_TreeBack.T4 : Bool × List (List Nat × List Nat) := (true, [([], []), ([], []), ([], []), ([2], [2]), ([1, 3], [1, 3]), ([4], [4]), ([5], [5]), ([], []), ([7], [7]), ([], []), ([9], [9]), ([6, 8, 10], [6, 8, 10]), ([0, 11], [0, 11]), ([12], [12]), ([13], [13]), ([13], [13]), ([14, 12, 0, 1, 2, 3, 4, 5, 6, 7, 8, 9, 10, 11, 12, 13, 14], [14]), ([15, 16, 0, 1, 2, 3, 4, 5, 6, 7, 8, 9, 10, 11, 12, 13, 14, 15, 16], [15])])
def limelightlaw01_TreeBack.B4 : List Nat := [0, 0, 0, 4, 14, 30, 62, 0, 128, 0, 512, 2046, 4095, 8191, 16383, 16383, 32767, 131071]
theorem limelightlaw01_TreeBack.tab4 : rtab .any (opsOf Try.f6 4) = limelightlaw01_TreeBack.T4 := by kernel_rfl
theorem limelightlaw01_TreeBack.bits4 : waitsOk limelightlaw01_TreeBack.T4.2 limelightlaw01_TreeBack.B4 = true := by kernel_rfl
set_option maxHeartbeats 8000000 in
set_option maxRecDepth 100000 in
theorem limelightlaw01_TreeBack.calls (k : Nat) (A0 : Option Addr) (c0 : Nat) (l0 : List (S49)) (a1_0 : Int) (a1_1 : Int) (a1_2 : Int) (r : Bool) (w : World) (hr0 : Kd.C k49 w A0 l0.length l0) (hc0 : l0.length ≤ c0) (h : limelightlaw01_TreeBack.f k l0 a1_0 a1_1 a1_2 = some r) :
  Calls Try.prog 6 #[.slice A0 l0.length c0, .agg #[.int .i64 a1_0, .int .i64 a1_1, .int .i64 a1_2]] w fun e w' => e = .returned (.bool r) ∧ Below w.heap.size w w' := by
 have hu33 := Try.underlying33
 have hu37 := Try.underlying37
 have HR0 := Aside0.mk hr0
 have HC0 := Aside0.mk hc0
 clear hr0 hc0
 have HB := Aside0.mk (Below.refl w.heap.size w)
 have H : ((limelightref01_Small.f l0).bind fun t301 => (if t301 = true then ((limelightref01_Is.f l0 a1_1).bind fun t302 => (limelightlaw01_TreeBack.j0 k l0 (!t302) a1_0 a1_1 a1_2)) else (limelightlaw01_TreeBack.j0 k l0 true a1_0 a1_1 a1_2))) = some r := h
 clear h
 have HC3 := Aside0.mk H
 clear H
 go_enter Try.func6, Try.ntmps6
 go_upto_region 1 with (first | ((with_reducible refine gate_dst (N := 3) rfl ?_); refine box_event ?hg (N := 3) ?hd (cs := #[.int .i64 a1_0, .int .i64 a1_1, .int .i64 a1_2]) (t := 33) ?hr ?_; (case hd => rfl); (case hg => rfl); (case hr => first | (go_simp; done) | (go_simp; rfl)); intro gb300 hg w4 hbox hb; have n0_ := Aside0.mk (below_step bel_ hb); have n1_ := Aside0.mk (hbox); have n2_ := Aside0.mk ((by rw [hg]; exact (below_size bel_) : w.heap.size ≤ gb300)); have n3_ := Aside0.mk ((by rw [hg]; exact (below_size bel_) : w.heap.size ≤ gb300)); clear HB; have HB := n0_; have BK300 := n1_; have GW300 := n2_; have GE300 := n3_; clear n0_ n1_ n2_ n3_; clear hb hbox hg))
 (try simp only [Act.put, List.setIfInBounds_toArray, List.set_cons_zero, List.set_cons_succ])
 go_cut [20] (fun v20 wc => ∃ (kq : Nat) (x20_2 : Bool), v20 = .bool x20_2 ∧ Aside0 (limelightlaw01_TreeBack.j0 kq l0 x20_2 a1_0 a1_1 a1_2 = some r) ∧ Aside0 (kq ≤ k) ∧ Aside0 (wc.heap[gb300]? = some (.cells #[.int .i64 a1_0, .int .i64 a1_1, .int .i64 a1_2] 33 (0, 0))) ∧ Aside0 (Below w.heap.size w wc))
 case first =>
  have H := HC3.out
  clear HC3
  replace H := Option.bind_eq_some_iff.mp H
  obtain ⟨t301, A50, H⟩ := H
  replace H : (if t301 = true then ((limelightref01_Is.f l0 a1_1).bind fun t302 => (limelightlaw01_TreeBack.j0 k l0 (!t302) a1_0 a1_1 a1_2)) else (limelightlaw01_TreeBack.j0 k l0 true a1_0 a1_1 a1_2)) = some r := H
  have A5 := Aside0.mk A50
  clear A50
  by_cases c6 : t301 = true
  ·subst c6
   have H1 : ((limelightref01_Is.f l0 a1_1).bind fun t302 => (limelightlaw01_TreeBack.j0 k l0 (!t302) a1_0 a1_1 a1_2)) = some r := by rw [if_pos rfl] at H; exact H
   clear H
   have H := H1
   clear H1
   replace H := Option.bind_eq_some_iff.mp H
   obtain ⟨t302, A70, H⟩ := H
   replace H : (limelightlaw01_TreeBack.j0 k l0 (!t302) a1_0 a1_1 a1_2) = some r := H
   have A7 := Aside0.mk A70
   clear A70
   have H' := Aside0.mk H
   clear H
   go_wp2_with (first | ((with_reducible refine gate_callee (f := 9) rfl ?_); refine goesL_ (some 12) rfl rfl Try.func9 (by kernel_rfl) rfl #[.slice A0 l0.length c0] rfl margs_ ?_; (with_reducible refine (limelightref01_Small.calls _ _ l0 true _ ?side1 ?side2 A5.out).mono ?_); (case side1 => exact kcb_ ((Kd.C_below HR0.out HB.out))); (case side2 => exact HC0.out); rintro e w8 ⟨rfl, hb⟩; refine ⟨_, rfl, ?_⟩; have n0_ := Aside0.mk (blk_below (g := gb300) (o := .cells #[.int .i64 a1_0, .int .i64 a1_1, .int .i64 a1_2] 33 (0, 0)) (blkx_ BK300.out) hb); have n1_ := Aside0.mk (below_step (belg_ GE300.out) hb); clear BK300; clear HB; have BK300 := n0_; have HB := n1_; clear n0_ n1_; (try clear hb); (try clear hb2); (try clear hk); (try clear hi); have hcz9_0 : w8.cell? ⟨gb300, 0, none⟩ = some (.int .i64 a1_0) := (blk_cell BK300.out 0).trans rfl; have hcz9_1 : w8.cell? ⟨gb300, 1, none⟩ = some (.int .i64 a1_1) := (blk_cell BK300.out 1).trans rfl; have hcz9_2 : w8.cell? ⟨gb300, 2, none⟩ = some (.int .i64 a1_2) := (blk_cell BK300.out 2).trans rfl; have hfz9_0 := blk_frozen BK300.out 0; have hfz9_1 := blk_frozen BK300.out 1; have hfz9_2 := blk_frozen BK300.out 2) | (go_at_call 24; (with_reducible refine (limelightref01_Is.calls _ _ l0 a1_1 t302 _ ?side1 ?side2 A7.out).mono ?_); (case side1 => exact kcb_ ((Kd.C_below HR0.out HB.out))); (case side2 => exact HC0.out); rintro e w10 ⟨rfl, hb⟩; have n0_ := Aside0.mk (blk_below (g := gb300) (o := .cells #[.int .i64 a1_0, .int .i64 a1_1, .int .i64 a1_2] 33 (0, 0)) (blkx_ BK300.out) hb); have n1_ := Aside0.mk (below_step (belg_ GE300.out) hb); clear BK300; clear HB; have BK300 := n0_; have HB := n1_; clear n0_ n1_; (try clear hb); (try clear hb2); (try clear hk); (try clear hi)))
   go_meet
   case rel => exact ⟨_, (!t302), (by first | rfl | (simp; done) | (simp [*]; done)), H', ⟨by first | omega | exact Nat.le_refl _⟩, ⟨blkx_ BK300.out⟩, ⟨belg_ GE300.out⟩⟩
  ·replace c6 := Bool.eq_false_iff.mpr c6
   subst c6
   have H1 : (limelightlaw01_TreeBack.j0 k l0 true a1_0 a1_1 a1_2) = some r := by rw [if_neg (show ¬ (false = true) by decide)] at H; exact H
   clear H
   have H := H1
   clear H1
   have H' := Aside0.mk H
   clear H
   go_wp2_with (first | ((with_reducible refine gate_callee (f := 9) rfl ?_); refine goesL_ (some 12) rfl rfl Try.func9 (by kernel_rfl) rfl #[.slice A0 l0.length c0] rfl margs_ ?_; (with_reducible refine (limelightref01_Small.calls _ _ l0 false _ ?side1 ?side2 A5.out).mono ?_); (case side1 => exact kcb_ ((Kd.C_below HR0.out HB.out))); (case side2 => exact HC0.out); rintro e w11 ⟨rfl, hb⟩; refine ⟨_, rfl, ?_⟩; have n0_ := Aside0.mk (blk_below (g := gb300) (o := .cells #[.int .i64 a1_0, .int .i64 a1_1, .int .i64 a1_2] 33 (0, 0)) (blkx_ BK300.out) hb); have n1_ := Aside0.mk (below_step (belg_ GE300.out) hb); clear BK300; clear HB; have BK300 := n0_; have HB := n1_; clear n0_ n1_; (try clear hb); (try clear hb2); (try clear hk); (try clear hi)))
   go_meet
   case rel => exact ⟨_, (true), (by first | rfl | (simp; done) | (simp [*]; done)), H', ⟨by first | omega | exact Nat.le_refl _⟩, ⟨blkx_ BK300.out⟩, ⟨belg_ GE300.out⟩⟩
 case rest =>
  clear HC3
  try clear p2
  try clear c6
  try clear c9
  try clear hcz9_0
  try clear hcz9_1
  try clear hcz9_2
  try clear hfz9_0
  try clear hfz9_1
  try clear hfz9_2
  obtain ⟨kq, x20_2, rfl, HA, HJ2, BK300, HB⟩ := hcut
  cases kq with
  | zero => exact absurd HA.out (by simp [limelightlaw01_TreeBack.j0])
  | succ kj2 =>
   have H := HA.out
   clear HA
   simp only [limelightlaw01_TreeBack.j0] at H
   by_cases c12 : x20_2 = true
   ·subst c12
    have H1 : ((limelightlaw01_live.f).bind fun t303 => (some t303)) = some r := by rw [if_pos rfl] at H; exact H
    clear H
    have H := H1
    clear H1
    replace H := Option.bind_eq_some_iff.mp H
    obtain ⟨t303, A130, H⟩ := H
    replace H : (some t303) = some r := H
    have A13 := Aside0.mk A130
    clear A130
    obtain rfl := Option.some.inj H
    go_wp2_with (first | ((with_reducible refine gate_callee (f := 10) rfl ?_); refine goesL_ (some 21) rfl rfl Try.func10 (by kernel_rfl) rfl #[] rfl margs_ ?_; (with_reducible refine (limelightlaw01_live.calls  t303 _ A13.out).mono ?_); rintro e w14 ⟨rfl, hb⟩; refine ⟨_, rfl, ?_⟩; have n0_ := Aside0.mk (blk_below (g := gb300) (o := .cells #[.int .i64 a1_0, .int .i64 a1_1, .int .i64 a1_2] 33 (0, 0)) (blkx_ BK300.out) hb); have n1_ := Aside0.mk (below_step (belg_ GE300.out) hb); clear BK300; clear HB; have BK300 := n0_; have HB := n1_; clear n0_ n1_; (try clear hb); (try clear hb2); (try clear hk); (try clear hi)))
    go_ret
    exact ⟨by first | rfl | (simp [errW_none, errW_some] <;> rfl) | (simp [*, errW_none, errW_some] <;> rfl), belg_ GE300.out⟩
   ·replace c12 := Bool.eq_false_iff.mpr c12
    subst c12
    have H1 : (if 0 ≤ a1_1 then (if a1_1 < (l0.length : Int) then (if ((rd_T49 l0 a1_1).f2) = (-1) then ((limelightlaw01_own.f a1_0 a1_1 a1_2).bind fun bt313 => ((tree_Insert.f l0 bt313.1 bt313.2.1 bt313.2.2).bind fun bt316 => (if bt316.2 = 0 then ((tree_Remove.f bt316.1 a1_1).bind fun bt320 => (if bt320.2 = 0 then ((limelightref01_Same.f kj2 bt320.1 l0).bind fun t324 => (if t324 = true then ((limelightlaw01_live.f).bind fun t325 => (some t325)) else (none))) else (none))) else ((limelightlaw01_live.f).bind fun t326 => (some t326))))) else ((tree_Insert.f l0 ((rd_T49 l0 a1_1).f2) a1_1 a1_1).bind fun bt306 => (if bt306.2 = 0 then ((limelightref01_Same.f kj2 bt306.1 l0).bind fun t310 => (if t310 = true then ((limelightlaw01_live.f).bind fun t311 => (some t311)) else (none))) else ((limelightlaw01_live.f).bind fun t312 => (some t312))))) else (none)) else (none)) = some r := by rw [if_neg (show ¬ (false = true) by decide)] at H; exact H
    clear H
    have H := H1
    clear H1
    by_cases c15 : 0 ≤ a1_1
    ·rw [if_pos c15] at H
     have c15b0 : decide (0 ≤ a1_1) = true := decide_eq_true c15
     clear c15
     by_cases c16 : a1_1 < (l0.length : Int)
     ·rw [if_pos c16] at H
      have c16b0 : decide (a1_1 < (l0.length : Int)) = true := decide_eq_true c16
      clear c16
      by_cases c17 : ((rd_T49 l0 a1_1).f2) = (-1)
      ·rw [if_pos c17] at H
       have c17b0 : (((rd_T49 l0 a1_1).f2) == (-1)) = true := beq_iff_eq.mpr c17
       have c17b1 : (((rd_T49 l0 a1_1).f2) != (-1)) = false := bne_eq_false_iff_eq.mpr c17
       clear c17
       replace H := Option.bind_eq_some_iff.mp H
       obtain ⟨⟨t313, t314, t315⟩, A180, H⟩ := H
       replace H : ((tree_Insert.f l0 t313 t314 t315).bind fun bt316 => (if bt316.2 = 0 then ((tree_Remove.f bt316.1 a1_1).bind fun bt320 => (if bt320.2 = 0 then ((limelightref01_Same.f kj2 bt320.1 l0).bind fun t324 => (if t324 = true then ((limelightlaw01_live.f).bind fun t325 => (some t325)) else (none))) else (none))) else ((limelightlaw01_live.f).bind fun t326 => (some t326)))) = some r := H
       have A18 := Aside0.mk A180
       clear A180
       replace H := Option.bind_eq_some_iff.mp H
       obtain ⟨⟨t316, t319⟩, A190, H⟩ := H
       replace H : (if t319 = 0 then ((tree_Remove.f t316 a1_1).bind fun bt320 => (if bt320.2 = 0 then ((limelightref01_Same.f kj2 bt320.1 l0).bind fun t324 => (if t324 = true then ((limelightlaw01_live.f).bind fun t325 => (some t325)) else (none))) else (none))) else ((limelightlaw01_live.f).bind fun t326 => (some t326))) = some r := H
       have A19 := Aside0.mk A190
       clear A190
       by_cases c20 : t319 = 0
       ·rw [if_pos c20] at H
        have c20b0 : (t319 == 0) = true := beq_iff_eq.mpr c20
        have c20b1 : (t319 != 0) = false := bne_eq_false_iff_eq.mpr c20
        clear c20
        replace H := Option.bind_eq_some_iff.mp H
        obtain ⟨⟨t320, t323⟩, A210, H⟩ := H
        replace H : (if t323 = 0 then ((limelightref01_Same.f kj2 t320 l0).bind fun t324 => (if t324 = true then ((limelightlaw01_live.f).bind fun t325 => (some t325)) else (none))) else (none)) = some r := H
        have A21 := Aside0.mk A210
        clear A210
        by_cases c22 : t323 = 0
        ·rw [if_pos c22] at H
         have c22b0 : (t323 == 0) = true := beq_iff_eq.mpr c22
         have c22b1 : (t323 != 0) = false := bne_eq_false_iff_eq.mpr c22
         clear c22
         replace H := Option.bind_eq_some_iff.mp H
         obtain ⟨t324, A230, H⟩ := H
         replace H : (if t324 = true then ((limelightlaw01_live.f).bind fun t325 => (some t325)) else (none)) = some r := H
         have A23 := Aside0.mk A230
         clear A230
         by_cases c24 : t324 = true
         ·subst c24
          have H1 : ((limelightlaw01_live.f).bind fun t325 => (some t325)) = some r := by rw [if_pos rfl] at H; exact H
          clear H
          have H := H1
          clear H1
          replace H := Option.bind_eq_some_iff.mp H
          obtain ⟨t325, A250, H⟩ := H
          replace H : (some t325) = some r := H
          have A25 := Aside0.mk A250
          clear A250
          obtain rfl := Option.some.inj H
          have hcz26_0 : wc.cell? ⟨gb300, 0, none⟩ = some (.int .i64 a1_0) := (blk_cell BK300.out 0).trans rfl
          have hcz26_1 : wc.cell? ⟨gb300, 1, none⟩ = some (.int .i64 a1_1) := (blk_cell BK300.out 1).trans rfl
          have hcz26_2 : wc.cell? ⟨gb300, 2, none⟩ = some (.int .i64 a1_2) := (blk_cell BK300.out 2).trans rfl
          have hfz26_0 := blk_frozen BK300.out 0
          have hfz26_1 := blk_frozen BK300.out 1
          have hfz26_2 := blk_frozen BK300.out 2
          have p304 : 0 ≤ (a1_1 : Int) := of_decide_eq_true asm_
          have q304 : a1_1 < (l0.length : Int) := of_decide_eq_true asm_
          obtain ⟨ad304, A304_3, c304_3, A304_6, c304_6, e304, hx304_0, hx304_1, hx304_2, hx304_3, hx304_4, hx304_5, hx304_6, hl304_3, hi304_3, hl304_6, hi304_6⟩ := at_T49 HR0.out a1_1 p304 q304
          cases e304
          replace hx304_0 := (HB.out.cell (World.block_lt_of_cell? w _ hx304_0)).trans hx304_0
          replace hx304_1 := (HB.out.cell (World.block_lt_of_cell? w _ hx304_1)).trans hx304_1
          replace hx304_2 := (HB.out.cell (World.block_lt_of_cell? w _ hx304_2)).trans hx304_2
          replace hx304_3 := (HB.out.cell (World.block_lt_of_cell? w _ hx304_3)).trans hx304_3
          replace hx304_4 := (HB.out.cell (World.block_lt_of_cell? w _ hx304_4)).trans hx304_4
          replace hx304_5 := (HB.out.cell (World.block_lt_of_cell? w _ hx304_5)).trans hx304_5
          replace hx304_6 := (HB.out.cell (World.block_lt_of_cell? w _ hx304_6)).trans hx304_6
          have HR304_3 := Aside0.mk hi304_3
          have HC304_3 := Aside0.mk hl304_3
          clear hi304_3 hl304_3
          have HR304_6 := Aside0.mk hi304_6
          have HC304_6 := Aside0.mk hl304_6
          clear hi304_6 hl304_6
          replace p304 := eq_true p304
          replace q304 := eq_true q304
          go_wp2_with (first | ((with_reducible refine gate_callee (f := 18) rfl ?_); refine goesL_ (some 58) rfl rfl Try.func18 (by kernel_rfl) rfl #[.agg #[.int .i64 a1_0, .int .i64 a1_1, .int .i64 a1_2]] rfl margs_ ?_; (with_reducible refine (limelightlaw01_own.calls a1_0 a1_1 a1_2 t313 t314 t315 _ A18.out).mono ?_); rintro e w27 ⟨rfl, hb⟩; refine ⟨_, rfl, ?_⟩; have n0_ := Aside0.mk (blk_below (g := gb300) (o := .cells #[.int .i64 a1_0, .int .i64 a1_1, .int .i64 a1_2] 33 (0, 0)) (blkx_ BK300.out) hb); have n1_ := Aside0.mk (below_step (belg_ GE300.out) hb); clear BK300; clear HB; have BK300 := n0_; have HB := n1_; clear n0_ n1_; (try clear hb); (try clear hb2); (try clear hk); (try clear hi)) | ((with_reducible refine gate_callee (f := 17) rfl ?_); refine goesL_ (some 59) rfl rfl Try.func17 (by kernel_rfl) rfl #[.slice (some ad304) l0.length c0, .agg #[.int .i64 t313, .int .i64 t314, .int .i64 t315]] rfl margs_ ?_; (with_reducible refine (tree_Insert.calls (fun k_ => k_ < w.heap.size) _ _ l0 t313 t314 t315 t316 t319 _ ?side1 A19.out).mono ?_); (case side1 => exact Kd.V_mk HC0.out (Kd.F_below (Kd.C_F k49_heap HR0.out) (belg_ GE300.out))); rintro e w28 ⟨v317, rfl, ho0, hb⟩; refine ⟨_, rfl, ?_⟩; have n0_ := Aside0.mk (Kd.V_lower (Kd.V_mono (ok' := fun k_ => k_ ≠ gb300) ho0 (fun k_ hk_ => Or.elim hk_ (fun hs_ => fun e_ => Nat.not_le.2 hs_ (by rw [e_]; exact GW300.out)) (fun hn_ => (Kd.freshB (g := gb300) (o := .cells #[.int .i64 a1_0, .int .i64 a1_1, .int .i64 a1_2] 33 (0, 0)) (blkx_ BK300.out) k_ hn_)))) (below_size (belg_ GE300.out))); have n1_ := Aside0.mk (blk_below (g := gb300) (o := .cells #[.int .i64 a1_0, .int .i64 a1_1, .int .i64 a1_2] 33 (0, 0)) (blkx_ BK300.out) hb); have n2_ := Aside0.mk (below_step (belg_ GE300.out) hb); clear BK300; clear HB; have HO318 := n0_; have BK300 := n1_; have HB := n2_; clear n0_ n1_ n2_; (try clear hb); (try clear hb2); (try clear hk); (try clear hi); (try clear ho0); have hcz29_0 : w28.cell? ⟨gb300, 0, none⟩ = some (.int .i64 a1_0) := (blk_cell BK300.out 0).trans rfl; have hcz29_1 : w28.cell? ⟨gb300, 1, none⟩ = some (.int .i64 a1_1) := (blk_cell BK300.out 1).trans rfl; have hcz29_2 : w28.cell? ⟨gb300, 2, none⟩ = some (.int .i64 a1_2) := (blk_cell BK300.out 2).trans rfl; have hfz29_0 := blk_frozen BK300.out 0; have hfz29_1 := blk_frozen BK300.out 1; have hfz29_2 := blk_frozen BK300.out 2; obtain ⟨Ao30, co30, eo30⟩ := Kd.V_slice HO318.out; subst eo30) | ((with_reducible refine gate_callee (f := 20) rfl ?_); refine goesL_ (some 69) rfl rfl Try.func20 (by kernel_rfl) rfl #[.slice Ao30 t316.length co30, .int .i64 a1_1] rfl margs_ ?_; (with_reducible refine (tree_Remove.calls (fun k_ => k_ ≠ gb300) _ _ t316 a1_1 t320 t323 _ ?side1 A21.out).mono ?_); (case side1 => exact HO318.out); rintro e w31 ⟨v321, rfl, ho0, hb⟩; refine ⟨_, rfl, ?_⟩; have n0_ := Aside0.mk (Kd.V_below (by (with_reducible repeat (first | apply Kd.V_alloc | apply Kd.V_drewN | apply Kd.V_drew)); exact HO318.out) hb); have n1_ := Aside0.mk (Kd.V_lower (Kd.V_mono (ok' := fun k_ => k_ ≠ gb300) ho0 (fun k_ hk_ => Or.elim hk_ (fun hs_ => hs_) (fun hn_ => (Kd.freshB (g := gb300) (o := .cells #[.int .i64 a1_0, .int .i64 a1_1, .int .i64 a1_2] 33 (0, 0)) (blkx_ BK300.out) k_ hn_)))) (below_size (belg_ GE300.out))); have n2_ := Aside0.mk (blk_below (g := gb300) (o := .cells #[.int .i64 a1_0, .int .i64 a1_1, .int .i64 a1_2] 33 (0, 0)) (blkx_ BK300.out) hb); have n3_ := Aside0.mk (below_step (belg_ GE300.out) hb); clear HO318; clear BK300; clear HB; have HO318 := n0_; have HO322 := n1_; have BK300 := n2_; have HB := n3_; clear n0_ n1_ n2_ n3_; (try clear hb); (try clear hb2); (try clear hk); (try clear hi); (try clear ho0); obtain ⟨Ao32, co32, eo32⟩ := Kd.V_slice HO322.out; subst eo32) | (go_at_call 15; (with_reducible refine (limelightref01_Same.calls kj2 _ _ t320 _ _ l0 true _ ?side1 ?side2 ?side3 ?side4 A23.out).mono ?_); (case side1 => exact kcb_ ((Kd.V_reads' HO322.out).2.2)); (case side2 => exact (Kd.V_reads' HO322.out).2.1); (case side3 => exact kcb_ ((Kd.C_below HR0.out HB.out))); (case side4 => exact HC0.out); rintro e w33 ⟨rfl, hb⟩; have n0_ := Aside0.mk (Kd.V_below (by (with_reducible repeat (first | apply Kd.V_alloc | apply Kd.V_drewN | apply Kd.V_drew)); exact HO318.out) hb); have n1_ := Aside0.mk (Kd.V_below (by (with_reducible repeat (first | apply Kd.V_alloc | apply Kd.V_drewN | apply Kd.V_drew)); exact HO322.out) hb); have n2_ := Aside0.mk (blk_below (g := gb300) (o := .cells #[.int .i64 a1_0, .int .i64 a1_1, .int .i64 a1_2] 33 (0, 0)) (blkx_ BK300.out) hb); have n3_ := Aside0.mk (below_step (belg_ GE300.out) hb); clear HO318; clear HO322; clear BK300; clear HB; have HO318 := n0_; have HO322 := n1_; have BK300 := n2_; have HB := n3_; clear n0_ n1_ n2_ n3_; (try clear hb); (try clear hb2); (try clear hk); (try clear hi)) | (go_at_call 10; (with_reducible refine (limelightlaw01_live.calls  t325 _ A25.out).mono ?_); rintro e w34 ⟨rfl, hb⟩; have n0_ := Aside0.mk (Kd.V_below (by (with_reducible repeat (first | apply Kd.V_alloc | apply Kd.V_drewN | apply Kd.V_drew)); exact HO318.out) hb); have n1_ := Aside0.mk (Kd.V_below (by (with_reducible repeat (first | apply Kd.V_alloc | apply Kd.V_drewN | apply Kd.V_drew)); exact HO322.out) hb); have n2_ := Aside0.mk (blk_below (g := gb300) (o := .cells #[.int .i64 a1_0, .int .i64 a1_1, .int .i64 a1_2] 33 (0, 0)) (blkx_ BK300.out) hb); have n3_ := Aside0.mk (below_step (belg_ GE300.out) hb); clear HO318; clear HO322; clear BK300; clear HB; have HO318 := n0_; have HO322 := n1_; have BK300 := n2_; have HB := n3_; clear n0_ n1_ n2_ n3_; (try clear hb); (try clear hb2); (try clear hk); (try clear hi)))
          go_ret
          exact ⟨by first | rfl | (simp [errW_none, errW_some] <;> rfl) | (simp [*, errW_none, errW_some] <;> rfl), belg_ GE300.out⟩
         ·replace c24 := Bool.eq_false_iff.mpr c24
          subst c24
          have H1 : (none) = some r := by rw [if_neg (show ¬ (false = true) by decide)] at H; exact H
          clear H
          have H := H1
          clear H1
          exact absurd H (by simp)
        ·rw [if_neg c22] at H
         exact absurd H (by simp)
       ·rw [if_neg c20] at H
        have c20b0 : (t319 == 0) = false := beq_eq_false_iff_ne.mpr c20
        have c20b1 : (t319 != 0) = true := bne_iff_ne.mpr c20
        replace H := Option.bind_eq_some_iff.mp H
        obtain ⟨t326, A350, H⟩ := H
        replace H : (some t326) = some r := H
        have A35 := Aside0.mk A350
        clear A350
        obtain rfl := Option.some.inj H
        have hcz36_0 : wc.cell? ⟨gb300, 0, none⟩ = some (.int .i64 a1_0) := (blk_cell BK300.out 0).trans rfl
        have hcz36_1 : wc.cell? ⟨gb300, 1, none⟩ = some (.int .i64 a1_1) := (blk_cell BK300.out 1).trans rfl
        have hcz36_2 : wc.cell? ⟨gb300, 2, none⟩ = some (.int .i64 a1_2) := (blk_cell BK300.out 2).trans rfl
        have hfz36_0 := blk_frozen BK300.out 0
        have hfz36_1 := blk_frozen BK300.out 1
        have hfz36_2 := blk_frozen BK300.out 2
        have p304 : 0 ≤ (a1_1 : Int) := of_decide_eq_true asm_
        have q304 : a1_1 < (l0.length : Int) := of_decide_eq_true asm_
        obtain ⟨ad304, A304_3, c304_3, A304_6, c304_6, e304, hx304_0, hx304_1, hx304_2, hx304_3, hx304_4, hx304_5, hx304_6, hl304_3, hi304_3, hl304_6, hi304_6⟩ := at_T49 HR0.out a1_1 p304 q304
        cases e304
        replace hx304_0 := (HB.out.cell (World.block_lt_of_cell? w _ hx304_0)).trans hx304_0
        replace hx304_1 := (HB.out.cell (World.block_lt_of_cell? w _ hx304_1)).trans hx304_1
        replace hx304_2 := (HB.out.cell (World.block_lt_of_cell? w _ hx304_2)).trans hx304_2
        replace hx304_3 := (HB.out.cell (World.block_lt_of_cell? w _ hx304_3)).trans hx304_3
        replace hx304_4 := (HB.out.cell (World.block_lt_of_cell? w _ hx304_4)).trans hx304_4
        replace hx304_5 := (HB.out.cell (World.block_lt_of_cell? w _ hx304_5)).trans hx304_5
        replace hx304_6 := (HB.out.cell (World.block_lt_of_cell? w _ hx304_6)).trans hx304_6
        have HR304_3 := Aside0.mk hi304_3
        have HC304_3 := Aside0.mk hl304_3
        clear hi304_3 hl304_3
        have HR304_6 := Aside0.mk hi304_6
        have HC304_6 := Aside0.mk hl304_6
        clear hi304_6 hl304_6
        replace p304 := eq_true p304
        replace q304 := eq_true q304
        go_wp2_with (first | ((with_reducible refine gate_callee (f := 18) rfl ?_); refine goesL_ (some 58) rfl rfl Try.func18 (by kernel_rfl) rfl #[.agg #[.int .i64 a1_0, .int .i64 a1_1, .int .i64 a1_2]] rfl margs_ ?_; (with_reducible refine (limelightlaw01_own.calls a1_0 a1_1 a1_2 t313 t314 t315 _ A18.out).mono ?_); rintro e w37 ⟨rfl, hb⟩; refine ⟨_, rfl, ?_⟩; have n0_ := Aside0.mk (blk_below (g := gb300) (o := .cells #[.int .i64 a1_0, .int .i64 a1_1, .int .i64 a1_2] 33 (0, 0)) (blkx_ BK300.out) hb); have n1_ := Aside0.mk (below_step (belg_ GE300.out) hb); clear BK300; clear HB; have BK300 := n0_; have HB := n1_; clear n0_ n1_; (try clear hb); (try clear hb2); (try clear hk); (try clear hi)) | ((with_reducible refine gate_callee (f := 17) rfl ?_); refine goesL_ (some 59) rfl rfl Try.func17 (by kernel_rfl) rfl #[.slice (some ad304) l0.length c0, .agg #[.int .i64 t313, .int .i64 t314, .int .i64 t315]] rfl margs_ ?_; (with_reducible refine (tree_Insert.calls (fun k_ => k_ < w.heap.size) _ _ l0 t313 t314 t315 t316 t319 _ ?side1 A19.out).mono ?_); (case side1 => exact Kd.V_mk HC0.out (Kd.F_below (Kd.C_F k49_heap HR0.out) (belg_ GE300.out))); rintro e w38 ⟨v317, rfl, ho0, hb⟩; refine ⟨_, rfl, ?_⟩; have n0_ := Aside0.mk (Kd.V_lower (Kd.V_mono (ok' := fun k_ => k_ ≠ gb300) ho0 (fun k_ hk_ => Or.elim hk_ (fun hs_ => fun e_ => Nat.not_le.2 hs_ (by rw [e_]; exact GW300.out)) (fun hn_ => (Kd.freshB (g := gb300) (o := .cells #[.int .i64 a1_0, .int .i64 a1_1, .int .i64 a1_2] 33 (0, 0)) (blkx_ BK300.out) k_ hn_)))) (below_size (belg_ GE300.out))); have n1_ := Aside0.mk (blk_below (g := gb300) (o := .cells #[.int .i64 a1_0, .int .i64 a1_1, .int .i64 a1_2] 33 (0, 0)) (blkx_ BK300.out) hb); have n2_ := Aside0.mk (below_step (belg_ GE300.out) hb); clear BK300; clear HB; have HO318 := n0_; have BK300 := n1_; have HB := n2_; clear n0_ n1_ n2_; (try clear hb); (try clear hb2); (try clear hk); (try clear hi); (try clear ho0)) | ((with_reducible refine gate_callee (f := 10) rfl ?_); refine goesL_ (some 64) rfl rfl Try.func10 (by kernel_rfl) rfl #[] rfl margs_ ?_; (with_reducible refine (limelightlaw01_live.calls  t326 _ A35.out).mono ?_); rintro e w39 ⟨rfl, hb⟩; refine ⟨_, rfl, ?_⟩; have n0_ := Aside0.mk (Kd.V_below (by (with_reducible repeat (first | apply Kd.V_alloc | apply Kd.V_drewN | apply Kd.V_drew)); exact HO318.out) hb); have n1_ := Aside0.mk (blk_below (g := gb300) (o := .cells #[.int .i64 a1_0, .int .i64 a1_1, .int .i64 a1_2] 33 (0, 0)) (blkx_ BK300.out) hb); have n2_ := Aside0.mk (below_step (belg_ GE300.out) hb); clear HO318; clear BK300; clear HB; have HO318 := n0_; have BK300 := n1_; have HB := n2_; clear n0_ n1_ n2_; (try clear hb); (try clear hb2); (try clear hk); (try clear hi)))
        go_ret
        exact ⟨by first | rfl | (simp [errW_none, errW_some] <;> rfl) | (simp [*, errW_none, errW_some] <;> rfl), belg_ GE300.out⟩
      ·rw [if_neg c17] at H
       have c17b0 : (((rd_T49 l0 a1_1).f2) == (-1)) = false := beq_eq_false_iff_ne.mpr c17
       have c17b1 : (((rd_T49 l0 a1_1).f2) != (-1)) = true := bne_iff_ne.mpr c17
       replace H := Option.bind_eq_some_iff.mp H
       obtain ⟨⟨t306, t309⟩, A400, H⟩ := H
       replace H : (if t309 = 0 then ((limelightref01_Same.f kj2 t306 l0).bind fun t310 => (if t310 = true then ((limelightlaw01_live.f).bind fun t311 => (some t311)) else (none))) else ((limelightlaw01_live.f).bind fun t312 => (some t312))) = some r := H
       have A40 := Aside0.mk A400
       clear A400
       by_cases c41 : t309 = 0
       ·rw [if_pos c41] at H
        have c41b0 : (t309 == 0) = true := beq_iff_eq.mpr c41
        have c41b1 : (t309 != 0) = false := bne_eq_false_iff_eq.mpr c41
        clear c41
        replace H := Option.bind_eq_some_iff.mp H
        obtain ⟨t310, A420, H⟩ := H
        replace H : (if t310 = true then ((limelightlaw01_live.f).bind fun t311 => (some t311)) else (none)) = some r := H
        have A42 := Aside0.mk A420
        clear A420
        by_cases c43 : t310 = true
        ·subst c43
         have H1 : ((limelightlaw01_live.f).bind fun t311 => (some t311)) = some r := by rw [if_pos rfl] at H; exact H
         clear H
         have H := H1
         clear H1
         replace H := Option.bind_eq_some_iff.mp H
         obtain ⟨t311, A440, H⟩ := H
         replace H : (some t311) = some r := H
         have A44 := Aside0.mk A440
         clear A440
         obtain rfl := Option.some.inj H
         have hcz45_0 : wc.cell? ⟨gb300, 0, none⟩ = some (.int .i64 a1_0) := (blk_cell BK300.out 0).trans rfl
         have hcz45_1 : wc.cell? ⟨gb300, 1, none⟩ = some (.int .i64 a1_1) := (blk_cell BK300.out 1).trans rfl
         have hcz45_2 : wc.cell? ⟨gb300, 2, none⟩ = some (.int .i64 a1_2) := (blk_cell BK300.out 2).trans rfl
         have hfz45_0 := blk_frozen BK300.out 0
         have hfz45_1 := blk_frozen BK300.out 1
         have hfz45_2 := blk_frozen BK300.out 2
         have p304 : 0 ≤ (a1_1 : Int) := of_decide_eq_true asm_
         have q304 : a1_1 < (l0.length : Int) := of_decide_eq_true asm_
         obtain ⟨ad304, A304_3, c304_3, A304_6, c304_6, e304, hx304_0, hx304_1, hx304_2, hx304_3, hx304_4, hx304_5, hx304_6, hl304_3, hi304_3, hl304_6, hi304_6⟩ := at_T49 HR0.out a1_1 p304 q304
         cases e304
         replace hx304_0 := (HB.out.cell (World.block_lt_of_cell? w _ hx304_0)).trans hx304_0
         replace hx304_1 := (HB.out.cell (World.block_lt_of_cell? w _ hx304_1)).trans hx304_1
         replace hx304_2 := (HB.out.cell (World.block_lt_of_cell? w _ hx304_2)).trans hx304_2
         replace hx304_3 := (HB.out.cell (World.block_lt_of_cell? w _ hx304_3)).trans hx304_3
         replace hx304_4 := (HB.out.cell (World.block_lt_of_cell? w _ hx304_4)).trans hx304_4
         replace hx304_5 := (HB.out.cell (World.block_lt_of_cell? w _ hx304_5)).trans hx304_5
         replace hx304_6 := (HB.out.cell (World.block_lt_of_cell? w _ hx304_6)).trans hx304_6
         have HR304_3 := Aside0.mk hi304_3
         have HC304_3 := Aside0.mk hl304_3
         clear hi304_3 hl304_3
         have HR304_6 := Aside0.mk hi304_6
         have HC304_6 := Aside0.mk hl304_6
         clear hi304_6 hl304_6
         replace p304 := eq_true p304
         replace q304 := eq_true q304
         try go_wp2
         have n0_ := Aside0.mk (blk_drew BK300.out)
         have n1_ := Aside0.mk (below_drew1 HB.out)
         clear BK300
         clear HB
         have BK300 := n0_
         have HB := n1_
         clear n0_ n1_
         have p305 : 0 ≤ (a1_1 : Int) := of_decide_eq_true asm_
         have q305 : a1_1 < (l0.length : Int) := of_decide_eq_true asm_
         obtain ⟨ad305, A305_3, c305_3, A305_6, c305_6, e305, hx305_0, hx305_1, hx305_2, hx305_3, hx305_4, hx305_5, hx305_6, hl305_3, hi305_3, hl305_6, hi305_6⟩ := at_T49 HR0.out a1_1 p305 q305
         have hw305_6 := hx305_6
         have hw305_5 := hx305_5
         have hw305_4 := hx305_4
         have hw305_3 := hx305_3
         have hw305_2 := hx305_2
         have hw305_1 := hx305_1
         have hw305_0 := hx305_0
         obtain rfl : ad304 = ad305 := (by injection e305)
         replace hx305_0 := (HB.out.cell (World.block_lt_of_cell? w _ hx305_0)).trans hx305_0
         replace hx305_1 := (HB.out.cell (World.block_lt_of_cell? w _ hx305_1)).trans hx305_1
         replace hx305_2 := (HB.out.cell (World.block_lt_of_cell? w _ hx305_2)).trans hx305_2
         replace hx305_3 := (HB.out.cell (World.block_lt_of_cell? w _ hx305_3)).trans hx305_3
         replace hx305_4 := (HB.out.cell (World.block_lt_of_cell? w _ hx305_4)).trans hx305_4
         replace hx305_5 := (HB.out.cell (World.block_lt_of_cell? w _ hx305_5)).trans hx305_5
         replace hx305_6 := (HB.out.cell (World.block_lt_of_cell? w _ hx305_6)).trans hx305_6
         have HR305_3 := Aside0.mk hi305_3
         have HC305_3 := Aside0.mk hl305_3
         clear hi305_3 hl305_3
         have HR305_6 := Aside0.mk hi305_6
         have HC305_6 := Aside0.mk hl305_6
         clear hi305_6 hl305_6
         replace p305 := eq_true p305
         replace q305 := eq_true q305
         refine start_ (n := 18) (S := fun w' => w'.cell? ⟨gb300, 0, none⟩ = some (.int .i64 a1_0) ∧ w'.cell? ⟨gb300, 1, none⟩ = some (.int .i64 a1_1) ∧ w'.cell? ⟨gb300, 2, none⟩ = some (.int .i64 a1_2) ∧ w'.cell? (ad304.add ((a1_1).toNat * 7)) = some (.int .i64 ((rd_T49 l0 a1_1).f0)) ∧ w'.cell? ⟨(ad304.add ((a1_1).toNat * 7)).block, (ad304.add ((a1_1).toNat * 7)).off + 1, none⟩ = some (.int .i64 ((rd_T49 l0 a1_1).f1)) ∧ w'.cell? ⟨(ad304.add ((a1_1).toNat * 7)).block, (ad304.add ((a1_1).toNat * 7)).off + 2, none⟩ = some (.int .i64 ((rd_T49 l0 a1_1).f2)) ∧ w'.cell? ⟨(ad304.add ((a1_1).toNat * 7)).block, (ad304.add ((a1_1).toNat * 7)).off + 3, none⟩ = some (.slice A305_3 ((rd_T49 l0 a1_1).f3).length c305_3) ∧ w'.cell? ⟨(ad304.add ((a1_1).toNat * 7)).block, (ad304.add ((a1_1).toNat * 7)).off + 4, none⟩ = some (.int .i64 ((rd_T49 l0 a1_1).f4)) ∧ w'.cell? ⟨(ad304.add ((a1_1).toNat * 7)).block, (ad304.add ((a1_1).toNat * 7)).off + 5, none⟩ = some (.int .i64 ((rd_T49 l0 a1_1).f5)) ∧ w'.cell? ⟨(ad304.add ((a1_1).toNat * 7)).block, (ad304.add ((a1_1).toNat * 7)).off + 6, none⟩ = some (.slice A305_6 ((rd_T49 l0 a1_1).f6).length c305_6)) (ds := []) #[false, false, false, false, false, false, false, false, false, false, false, false, false, false, false, false, false, false] (by kernel_rfl) rfl rfl ⟨(blk_cell BK300.out 0).trans rfl, (blk_cell BK300.out 1).trans rfl, (blk_cell BK300.out 2).trans rfl, ((HB.out.cell (World.block_lt_of_cell? w _ hw305_0)).trans hw305_0), ((HB.out.cell (World.block_lt_of_cell? w _ hw305_1)).trans hw305_1), ((HB.out.cell (World.block_lt_of_cell? w _ hw305_2)).trans hw305_2), ((HB.out.cell (World.block_lt_of_cell? w _ hw305_3)).trans hw305_3), ((HB.out.cell (World.block_lt_of_cell? w _ hw305_4)).trans hw305_4), ((HB.out.cell (World.block_lt_of_cell? w _ hw305_5)).trans hw305_5), ((HB.out.cell (World.block_lt_of_cell? w _ hw305_6)).trans hw305_6)⟩ (fun hHeld => ?_); refine with_tabW limelightlaw01_TreeBack.tab4 limelightlaw01_TreeBack.bits4 (fun HT_ HW_ => ?_)
         generalize wc.drew = w46 at BK300 HB HR305_3 HR305_6 hx305_0 hx305_1 hx305_2 hx305_3 hx305_4 hx305_5 hx305_6 hHeld ⊢
         refine pure_ (i := 0) (N := some 30) (v := ?_) (a' := ?_) #[true, false, false, false, false, false, false, false, false, false, false, false, false, false, false, false, false, false] rfl rfl (any_of HT_.out (by kernel_rfl)) (fun _ _ _ h => h) (Or.inl ⟨by rfl, ?_⟩) ?_ ?_
         rotate_left
         ·intro w'
          go_simp
          with_reducible rfl
         rotate_left
         ·simp only [Act.put, List.setIfInBounds_toArray, List.set_cons_zero, List.set_cons_succ, i64_w, i32_w]
          rfl
         refine pure_ (i := 1) (N := some 31) (v := ?_) (a' := ?_) #[true, true, false, false, false, false, false, false, false, false, false, false, false, false, false, false, false, false] rfl rfl (any_of HT_.out (by kernel_rfl)) (fun _ _ _ h => h) (Or.inl ⟨by rfl, ?_⟩) ?_ ?_
         rotate_left
         ·intro w'
          go_simp
          with_reducible rfl
         rotate_left
         ·simp only [Act.put, List.setIfInBounds_toArray, List.set_cons_zero, List.set_cons_succ, i64_w, i32_w]
          rfl
         refine pure_ (i := 2) (N := some 32) (v := ?_) (a' := ?_) #[true, true, true, false, false, false, false, false, false, false, false, false, false, false, false, false, false, false] rfl rfl (any_of HT_.out (by kernel_rfl)) (fun _ _ _ h => h) (Or.inl ⟨by rfl, ?_⟩) ?_ ?_
         rotate_left
         ·intro w'
          go_simp
          with_reducible rfl
         rotate_left
         ·simp only [Act.put, List.setIfInBounds_toArray, List.set_cons_zero, List.set_cons_succ, i64_w, i32_w]
          rfl
         refine pure_ (i := 7) (N := some 37) (v := ?_) (a' := ?_) #[true, true, true, false, false, false, false, true, false, false, false, false, false, false, false, false, false, false] rfl rfl (any_of HT_.out (by kernel_rfl)) (fun _ _ _ h => h) (Or.inl ⟨by rfl, ?_⟩) ?_ ?_
         rotate_left
         ·intro w'
          go_simp
          with_reducible rfl
         rotate_left
         ·simp only [Act.put, List.setIfInBounds_toArray, List.set_cons_zero, List.set_cons_succ, i64_w, i32_w]
          rfl
         refine pure_ (i := 9) (N := some 39) (v := ?_) (a' := ?_) #[true, true, true, false, false, false, false, true, false, true, false, false, false, false, false, false, false, false] rfl rfl (any_of HT_.out (by kernel_rfl)) (fun _ _ _ h => h) (Or.inl ⟨by rfl, ?_⟩) ?_ ?_
         rotate_left
         ·intro w'
          go_simp
          with_reducible rfl
         rotate_left
         ·simp only [Act.put, List.setIfInBounds_toArray, List.set_cons_zero, List.set_cons_succ, i64_w, i32_w]
          rfl
         refine take_ (i := 3) (N := some 33) (v := ?_) (a' := ?_) #[true, true, true, true, false, false, false, true, false, true, false, false, false, false, false, false, false, false] rfl rfl (take_ofW HT_.out HW_.out (by kernel_rfl)) (fun _ _ _ h => h) (Or.inl ⟨by rfl, ?_⟩) hHeld ?_ ?_
         rotate_left
         ·rintro w' ⟨s0, s1, s2, s3, s4, s5, s6, s7, s8, s9⟩
          go_simp
          with_reducible rfl
         rotate_left
         ·simp only [Act.put, List.setIfInBounds_toArray, List.set_cons_zero, List.set_cons_succ, i64_w, i32_w]
          rfl
         refine pure_ (i := 4) (N := some 34) (v := ?_) (a' := ?_) #[true, true, true, true, true, false, false, true, false, true, false, false, false, false, false, false, false, false] rfl rfl (any_of HT_.out (by kernel_rfl)) (fun _ _ _ h => h) (Or.inl ⟨by rfl, ?_⟩) ?_ ?_
         rotate_left
         ·intro w'
          go_simp
          with_reducible rfl
         rotate_left
         ·simp only [Act.put, List.setIfInBounds_toArray, List.set_cons_zero, List.set_cons_succ, i64_w, i32_w]
          rfl
         refine pure_ (i := 5) (N := some 35) (v := ?_) (a' := ?_) #[true, true, true, true, true, true, false, true, false, true, false, false, false, false, false, false, false, false] rfl rfl (any_of HT_.out (by kernel_rfl)) (fun _ _ _ h => h) (Or.inl ⟨by rfl, ?_⟩) ?_ ?_
         rotate_left
         ·intro w'
          go_simp
          with_reducible rfl
         rotate_left
         ·simp only [Act.put, List.setIfInBounds_toArray, List.set_cons_zero, List.set_cons_succ, i64_w, i32_w]
          rfl
         refine take_ (i := 6) (N := some 36) (v := ?_) (a' := ?_) #[true, true, true, true, true, true, true, true, false, true, false, false, false, false, false, false, false, false] rfl rfl (take_ofW HT_.out HW_.out (by kernel_rfl)) (fun _ _ _ h => h) (Or.inl ⟨by rfl, ?_⟩) hHeld ?_ ?_
         rotate_left
         ·rintro w' ⟨s0, s1, s2, s3, s4, s5, s6, s7, s8, s9⟩
          go_simp
          with_reducible rfl
         rotate_left
         ·simp only [Act.put, List.setIfInBounds_toArray, List.set_cons_zero, List.set_cons_succ, i64_w, i32_w]
          rfl
         refine take_ (i := 8) (N := some 38) (v := ?_) (a' := ?_) #[true, true, true, true, true, true, true, true, true, true, false, false, false, false, false, false, false, false] rfl rfl (take_ofW HT_.out HW_.out (by kernel_rfl)) (fun _ _ _ h => h) (Or.inl ⟨by rfl, ?_⟩) hHeld ?_ ?_
         rotate_left
         ·rintro w' ⟨s0, s1, s2, s3, s4, s5, s6, s7, s8, s9⟩
          go_simp
          with_reducible rfl
         rotate_left
         ·simp only [Act.put, List.setIfInBounds_toArray, List.set_cons_zero, List.set_cons_succ, i64_w, i32_w]
          rfl
         refine take_ (i := 10) (N := some 40) (v := ?_) (a' := ?_) #[true, true, true, true, true, true, true, true, true, true, true, false, false, false, false, false, false, false] rfl rfl (take_ofW HT_.out HW_.out (by kernel_rfl)) (fun _ _ _ h => h) (Or.inl ⟨by rfl, ?_⟩) hHeld ?_ ?_
         rotate_left
         ·rintro w' ⟨s0, s1, s2, s3, s4, s5, s6, s7, s8, s9⟩
          go_simp
          with_reducible rfl
         rotate_left
         ·simp only [Act.put, List.setIfInBounds_toArray, List.set_cons_zero, List.set_cons_succ, i64_w, i32_w]
          rfl
         refine pure_ (i := 11) (N := some 41) (v := ?_) (a' := ?_) #[true, true, true, true, true, true, true, true, true, true, true, true, false, false, false, false, false, false] rfl rfl (any_of HT_.out (by kernel_rfl)) (fun _ _ _ h => h) (Or.inl ⟨by rfl, ?_⟩) ?_ ?_
         rotate_left
         ·intro w'
          go_simp
          with_reducible rfl
         rotate_left
         ·simp only [Act.put, List.setIfInBounds_toArray, List.set_cons_zero, List.set_cons_succ, i64_w, i32_w]
          rfl
         refine one_ (i := 12) (N := some 42) #[true, true, true, true, true, true, true, true, true, true, true, true, true, false, false, false, false, false] rfl rfl (one_of HT_.out (by kernel_rfl)) (by decide) (fun K hK => ?_)
         refine goes_ Try.func17 (by kernel_rfl) rfl #[.slice (some ad304) l0.length c0, .agg #[.int .i64 ((rd_T49 l0 a1_1).f2), .int .i64 a1_1, .int .i64 a1_1]] (by rfl) rfl rfl margs_ ?_
         with_reducible refine (tree_Insert.calls (fun k_ => k_ < w.heap.size) _ _ l0 ((rd_T49 l0 a1_1).f2) a1_1 a1_1 t306 t309 _ ?side1 A40.out).mono ?_
         (case side1 => exact Kd.V_mk HC0.out (Kd.F_below (Kd.C_F k49_heap HR0.out) (belg_ GE300.out)))
         rintro e w47 ⟨v307, rfl, ho0, hb⟩
         refine ⟨_, rfl, ?_⟩
         have n0_ := Aside0.mk (Kd.V_lower (Kd.V_mono (ok' := fun k_ => k_ ≠ gb300) ho0 (fun k_ hk_ => Or.elim hk_ (fun hs_ => fun e_ => Nat.not_le.2 hs_ (by rw [e_]; exact GW300.out)) (fun hn_ => (Kd.freshB (g := gb300) (o := .cells #[.int .i64 a1_0, .int .i64 a1_1, .int .i64 a1_2] 33 (0, 0)) (blkx_ BK300.out) k_ hn_)))) (below_size (belg_ GE300.out)))
         have n1_ := Aside0.mk (blk_below (g := gb300) (o := .cells #[.int .i64 a1_0, .int .i64 a1_1, .int .i64 a1_2] 33 (0, 0)) (blkx_ BK300.out) hb)
         have n2_ := Aside0.mk (below_step (belg_ GE300.out) hb)
         clear BK300
         clear HB
         have HO308 := n0_
         have BK300 := n1_
         have HB := n2_
         clear n0_ n1_ n2_
         (try clear hb)
         (try clear hb2)
         (try clear hk)
         (try clear hi)
         (try clear ho0)
         refine hK.out _ _ ⟨(blk_cell BK300.out 0).trans rfl, (blk_cell BK300.out 1).trans rfl, (blk_cell BK300.out 2).trans rfl, ((HB.out.cell (World.block_lt_of_cell? w _ hw305_0)).trans hw305_0), ((HB.out.cell (World.block_lt_of_cell? w _ hw305_1)).trans hw305_1), ((HB.out.cell (World.block_lt_of_cell? w _ hw305_2)).trans hw305_2), ((HB.out.cell (World.block_lt_of_cell? w _ hw305_3)).trans hw305_3), ((HB.out.cell (World.block_lt_of_cell? w _ hw305_4)).trans hw305_4), ((HB.out.cell (World.block_lt_of_cell? w _ hw305_5)).trans hw305_5), ((HB.out.cell (World.block_lt_of_cell? w _ hw305_6)).trans hw305_6)⟩ (fun hHeld => ?_)
         clear hK K
         refine norm_ (a' := ?_) ?_ ?_
         rotate_left
         ·show Act.put _ (some 42) _ = _
          simp only [Act.put, List.setIfInBounds_toArray, List.set_cons_zero, List.set_cons_succ, i64_w, i32_w]
          rfl
         refine pure_ (i := 13) (N := some 29) (v := ?_) (a' := ?_) #[true, true, true, true, true, true, true, true, true, true, true, true, true, true, false, false, false, false] rfl rfl (any_of HT_.out (by kernel_rfl)) (fun _ _ _ h => h) (Or.inl ⟨by rfl, ?_⟩) ?_ ?_
         rotate_left
         ·intro w'
          go_simp
          with_reducible rfl
         rotate_left
         ·simp only [Act.put, List.setIfInBounds_toArray, List.set_cons_zero, List.set_cons_succ, i64_w, i32_w]
          rfl
         refine pure_ (i := 14) (N := some 43) (v := ?_) (a' := ?_) #[true, true, true, true, true, true, true, true, true, true, true, true, true, true, true, false, false, false] rfl rfl (any_of HT_.out (by kernel_rfl)) (fun _ _ _ h => h) (Or.inl ⟨by rfl, ?_⟩) ?_ ?_
         rotate_left
         ·intro w'
          go_simp
          with_reducible rfl
         rotate_left
         ·simp only [Act.put, List.setIfInBounds_toArray, List.set_cons_zero, List.set_cons_succ, i64_w, i32_w]
          rfl
         refine pure_ (i := 15) (N := some 44) (v := ?_) (a' := ?_) #[true, true, true, true, true, true, true, true, true, true, true, true, true, true, true, true, false, false] rfl rfl (any_of HT_.out (by kernel_rfl)) (fun _ _ _ h => h) (Or.inl ⟨by rfl, ?_⟩) ?_ ?_
         rotate_left
         ·intro w'
          go_simp
          with_reducible rfl
         rotate_left
         ·simp only [Act.put, List.setIfInBounds_toArray, List.set_cons_zero, List.set_cons_succ, i64_w, i32_w]
          rfl
         refine pure_ (i := 16) (N := some 5) (v := ?_) (a' := ?_) #[true, true, true, true, true, true, true, true, true, true, true, true, true, true, true, true, true, false] rfl rfl (any_of HT_.out (by kernel_rfl)) (fun _ _ _ h => h) (Or.inl ⟨by rfl, ?_⟩) ?_ ?_
         rotate_left
         ·intro w'
          go_simp
          with_reducible rfl
         rotate_left
         ·simp only [Act.put, List.setIfInBounds_toArray, List.set_cons_zero, List.set_cons_succ, i64_w, i32_w]
          rfl
         refine pure_ (i := 17) (N := some 6) (v := ?_) (a' := ?_) #[true, true, true, true, true, true, true, true, true, true, true, true, true, true, true, true, true, true] rfl rfl (any_of HT_.out (by kernel_rfl)) (fun _ _ _ h => h) (Or.inl ⟨by rfl, ?_⟩) ?_ ?_
         rotate_left
         ·intro w'
          go_simp
          with_reducible rfl
         rotate_left
         ·simp only [Act.put, List.setIfInBounds_toArray, List.set_cons_zero, List.set_cons_succ, i64_w, i32_w]
          rfl
         refine done_ (done_of HT_.out (by kernel_rfl)) ?_
         obtain ⟨Ao48, co48, eo48⟩ := Kd.V_slice HO308.out
         subst eo48
         try go_wp2_with (first | (go_at_call 15; (with_reducible refine (limelightref01_Same.calls kj2 _ _ t306 _ _ l0 true _ ?side1 ?side2 ?side3 ?side4 A42.out).mono ?_); (case side1 => exact kcb_ ((Kd.V_reads' HO308.out).2.2)); (case side2 => exact (Kd.V_reads' HO308.out).2.1); (case side3 => exact kcb_ ((Kd.C_below HR0.out HB.out))); (case side4 => exact HC0.out); rintro e w49 ⟨rfl, hb⟩; have n0_ := Aside0.mk (Kd.V_below (by (with_reducible repeat (first | apply Kd.V_alloc | apply Kd.V_drewN | apply Kd.V_drew)); exact HO308.out) hb); have n1_ := Aside0.mk (blk_below (g := gb300) (o := .cells #[.int .i64 a1_0, .int .i64 a1_1, .int .i64 a1_2] 33 (0, 0)) (blkx_ BK300.out) hb); have n2_ := Aside0.mk (below_step (belg_ GE300.out) hb); clear HO308; clear BK300; clear HB; have HO308 := n0_; have BK300 := n1_; have HB := n2_; clear n0_ n1_ n2_; (try clear hb); (try clear hb2); (try clear hk); (try clear hi)) | (go_at_call 10; (with_reducible refine (limelightlaw01_live.calls  t311 _ A44.out).mono ?_); rintro e w50 ⟨rfl, hb⟩; have n0_ := Aside0.mk (Kd.V_below (by (with_reducible repeat (first | apply Kd.V_alloc | apply Kd.V_drewN | apply Kd.V_drew)); exact HO308.out) hb); have n1_ := Aside0.mk (blk_below (g := gb300) (o := .cells #[.int .i64 a1_0, .int .i64 a1_1, .int .i64 a1_2] 33 (0, 0)) (blkx_ BK300.out) hb); have n2_ := Aside0.mk (below_step (belg_ GE300.out) hb); clear HO308; clear BK300; clear HB; have HO308 := n0_; have BK300 := n1_; have HB := n2_; clear n0_ n1_ n2_; (try clear hb); (try clear hb2); (try clear hk); (try clear hi)))
         go_ret
         exact ⟨by first | rfl | (simp [errW_none, errW_some] <;> rfl) | (simp [*, errW_none, errW_some] <;> rfl), belg_ GE300.out⟩
        ·replace c43 := Bool.eq_false_iff.mpr c43
         subst c43
         have H1 : (none) = some r := by rw [if_neg (show ¬ (false = true) by decide)] at H; exact H
         clear H
         have H := H1
         clear H1
         exact absurd H (by simp)
       ·rw [if_neg c41] at H
        have c41b0 : (t309 == 0) = false := beq_eq_false_iff_ne.mpr c41
        have c41b1 : (t309 != 0) = true := bne_iff_ne.mpr c41
        replace H := Option.bind_eq_some_iff.mp H
        obtain ⟨t312, A510, H⟩ := H
        replace H : (some t312) = some r := H
        have A51 := Aside0.mk A510
        clear A510
        obtain rfl := Option.some.inj H
        have hcz52_0 : wc.cell? ⟨gb300, 0, none⟩ = some (.int .i64 a1_0) := (blk_cell BK300.out 0).trans rfl
        have hcz52_1 : wc.cell? ⟨gb300, 1, none⟩ = some (.int .i64 a1_1) := (blk_cell BK300.out 1).trans rfl
        have hcz52_2 : wc.cell? ⟨gb300, 2, none⟩ = some (.int .i64 a1_2) := (blk_cell BK300.out 2).trans rfl
        have hfz52_0 := blk_frozen BK300.out 0
        have hfz52_1 := blk_frozen BK300.out 1
        have hfz52_2 := blk_frozen BK300.out 2
        have p304 : 0 ≤ (a1_1 : Int) := of_decide_eq_true asm_
        have q304 : a1_1 < (l0.length : Int) := of_decide_eq_true asm_
        obtain ⟨ad304, A304_3, c304_3, A304_6, c304_6, e304, hx304_0, hx304_1, hx304_2, hx304_3, hx304_4, hx304_5, hx304_6, hl304_3, hi304_3, hl304_6, hi304_6⟩ := at_T49 HR0.out a1_1 p304 q304
        cases e304
        replace hx304_0 := (HB.out.cell (World.block_lt_of_cell? w _ hx304_0)).trans hx304_0
        replace hx304_1 := (HB.out.cell (World.block_lt_of_cell? w _ hx304_1)).trans hx304_1
        replace hx304_2 := (HB.out.cell (World.block_lt_of_cell? w _ hx304_2)).trans hx304_2
        replace hx304_3 := (HB.out.cell (World.block_lt_of_cell? w _ hx304_3)).trans hx304_3
        replace hx304_4 := (HB.out.cell (World.block_lt_of_cell? w _ hx304_4)).trans hx304_4
        replace hx304_5 := (HB.out.cell (World.block_lt_of_cell? w _ hx304_5)).trans hx304_5
        replace hx304_6 := (HB.out.cell (World.block_lt_of_cell? w _ hx304_6)).trans hx304_6
        have HR304_3 := Aside0.mk hi304_3
        have HC304_3 := Aside0.mk hl304_3
        clear hi304_3 hl304_3
        have HR304_6 := Aside0.mk hi304_6
        have HC304_6 := Aside0.mk hl304_6
        clear hi304_6 hl304_6
        replace p304 := eq_true p304
        replace q304 := eq_true q304
        try go_wp2
        have n0_ := Aside0.mk (blk_drew BK300.out)
        have n1_ := Aside0.mk (below_drew1 HB.out)
        clear BK300
        clear HB
        have BK300 := n0_
        have HB := n1_
        clear n0_ n1_
        have p305 : 0 ≤ (a1_1 : Int) := of_decide_eq_true asm_
        have q305 : a1_1 < (l0.length : Int) := of_decide_eq_true asm_
        obtain ⟨ad305, A305_3, c305_3, A305_6, c305_6, e305, hx305_0, hx305_1, hx305_2, hx305_3, hx305_4, hx305_5, hx305_6, hl305_3, hi305_3, hl305_6, hi305_6⟩ := at_T49 HR0.out a1_1 p305 q305
        have hw305_6 := hx305_6
        have hw305_5 := hx305_5
        have hw305_4 := hx305_4
        have hw305_3 := hx305_3
        have hw305_2 := hx305_2
        have hw305_1 := hx305_1
        have hw305_0 := hx305_0
        obtain rfl : ad304 = ad305 := (by injection e305)
        replace hx305_0 := (HB.out.cell (World.block_lt_of_cell? w _ hx305_0)).trans hx305_0
        replace hx305_1 := (HB.out.cell (World.block_lt_of_cell? w _ hx305_1)).trans hx305_1
        replace hx305_2 := (HB.out.cell (World.block_lt_of_cell? w _ hx305_2)).trans hx305_2
        replace hx305_3 := (HB.out.cell (World.block_lt_of_cell? w _ hx305_3)).trans hx305_3
        replace hx305_4 := (HB.out.cell (World.block_lt_of_cell? w _ hx305_4)).trans hx305_4
        replace hx305_5 := (HB.out.cell (World.block_lt_of_cell? w _ hx305_5)).trans hx305_5
        replace hx305_6 := (HB.out.cell (World.block_lt_of_cell? w _ hx305_6)).trans hx305_6
        have HR305_3 := Aside0.mk hi305_3
        have HC305_3 := Aside0.mk hl305_3
        clear hi305_3 hl305_3
        have HR305_6 := Aside0.mk hi305_6
        have HC305_6 := Aside0.mk hl305_6
        clear hi305_6 hl305_6
        replace p305 := eq_true p305
        replace q305 := eq_true q305
        refine start_ (n := 18) (S := fun w' => w'.cell? ⟨gb300, 0, none⟩ = some (.int .i64 a1_0) ∧ w'.cell? ⟨gb300, 1, none⟩ = some (.int .i64 a1_1) ∧ w'.cell? ⟨gb300, 2, none⟩ = some (.int .i64 a1_2) ∧ w'.cell? (ad304.add ((a1_1).toNat * 7)) = some (.int .i64 ((rd_T49 l0 a1_1).f0)) ∧ w'.cell? ⟨(ad304.add ((a1_1).toNat * 7)).block, (ad304.add ((a1_1).toNat * 7)).off + 1, none⟩ = some (.int .i64 ((rd_T49 l0 a1_1).f1)) ∧ w'.cell? ⟨(ad304.add ((a1_1).toNat * 7)).block, (ad304.add ((a1_1).toNat * 7)).off + 2, none⟩ = some (.int .i64 ((rd_T49 l0 a1_1).f2)) ∧ w'.cell? ⟨(ad304.add ((a1_1).toNat * 7)).block, (ad304.add ((a1_1).toNat * 7)).off + 3, none⟩ = some (.slice A305_3 ((rd_T49 l0 a1_1).f3).length c305_3) ∧ w'.cell? ⟨(ad304.add ((a1_1).toNat * 7)).block, (ad304.add ((a1_1).toNat * 7)).off + 4, none⟩ = some (.int .i64 ((rd_T49 l0 a1_1).f4)) ∧ w'.cell? ⟨(ad304.add ((a1_1).toNat * 7)).block, (ad304.add ((a1_1).toNat * 7)).off + 5, none⟩ = some (.int .i64 ((rd_T49 l0 a1_1).f5)) ∧ w'.cell? ⟨(ad304.add ((a1_1).toNat * 7)).block, (ad304.add ((a1_1).toNat * 7)).off + 6, none⟩ = some (.slice A305_6 ((rd_T49 l0 a1_1).f6).length c305_6)) (ds := []) #[false, false, false, false, false, false, false, false, false, false, false, false, false, false, false, false, false, false] (by kernel_rfl) rfl rfl ⟨(blk_cell BK300.out 0).trans rfl, (blk_cell BK300.out 1).trans rfl, (blk_cell BK300.out 2).trans rfl, ((HB.out.cell (World.block_lt_of_cell? w _ hw305_0)).trans hw305_0), ((HB.out.cell (World.block_lt_of_cell? w _ hw305_1)).trans hw305_1), ((HB.out.cell (World.block_lt_of_cell? w _ hw305_2)).trans hw305_2), ((HB.out.cell (World.block_lt_of_cell? w _ hw305_3)).trans hw305_3), ((HB.out.cell (World.block_lt_of_cell? w _ hw305_4)).trans hw305_4), ((HB.out.cell (World.block_lt_of_cell? w _ hw305_5)).trans hw305_5), ((HB.out.cell (World.block_lt_of_cell? w _ hw305_6)).trans hw305_6)⟩ (fun hHeld => ?_); refine with_tabW limelightlaw01_TreeBack.tab4 limelightlaw01_TreeBack.bits4 (fun HT_ HW_ => ?_)
        generalize wc.drew = w53 at BK300 HB HR305_3 HR305_6 hx305_0 hx305_1 hx305_2 hx305_3 hx305_4 hx305_5 hx305_6 hHeld ⊢
        refine pure_ (i := 0) (N := some 30) (v := ?_) (a' := ?_) #[true, false, false, false, false, false, false, false, false, false, false, false, false, false, false, false, false, false] rfl rfl (any_of HT_.out (by kernel_rfl)) (fun _ _ _ h => h) (Or.inl ⟨by rfl, ?_⟩) ?_ ?_
        rotate_left
        ·intro w'
         go_simp
         with_reducible rfl
        rotate_left
        ·simp only [Act.put, List.setIfInBounds_toArray, List.set_cons_zero, List.set_cons_succ, i64_w, i32_w]
         rfl
        refine pure_ (i := 1) (N := some 31) (v := ?_) (a' := ?_) #[true, true, false, false, false, false, false, false, false, false, false, false, false, false, false, false, false, false] rfl rfl (any_of HT_.out (by kernel_rfl)) (fun _ _ _ h => h) (Or.inl ⟨by rfl, ?_⟩) ?_ ?_
        rotate_left
        ·intro w'
         go_simp
         with_reducible rfl
        rotate_left
        ·simp only [Act.put, List.setIfInBounds_toArray, List.set_cons_zero, List.set_cons_succ, i64_w, i32_w]
         rfl
        refine pure_ (i := 2) (N := some 32) (v := ?_) (a' := ?_) #[true, true, true, false, false, false, false, false, false, false, false, false, false, false, false, false, false, false] rfl rfl (any_of HT_.out (by kernel_rfl)) (fun _ _ _ h => h) (Or.inl ⟨by rfl, ?_⟩) ?_ ?_
        rotate_left
        ·intro w'
         go_simp
         with_reducible rfl
        rotate_left
        ·simp only [Act.put, List.setIfInBounds_toArray, List.set_cons_zero, List.set_cons_succ, i64_w, i32_w]
         rfl
        refine pure_ (i := 7) (N := some 37) (v := ?_) (a' := ?_) #[true, true, true, false, false, false, false, true, false, false, false, false, false, false, false, false, false, false] rfl rfl (any_of HT_.out (by kernel_rfl)) (fun _ _ _ h => h) (Or.inl ⟨by rfl, ?_⟩) ?_ ?_
        rotate_left
        ·intro w'
         go_simp
         with_reducible rfl
        rotate_left
        ·simp only [Act.put, List.setIfInBounds_toArray, List.set_cons_zero, List.set_cons_succ, i64_w, i32_w]
         rfl
        refine pure_ (i := 9) (N := some 39) (v := ?_) (a' := ?_) #[true, true, true, false, false, false, false, true, false, true, false, false, false, false, false, false, false, false] rfl rfl (any_of HT_.out (by kernel_rfl)) (fun _ _ _ h => h) (Or.inl ⟨by rfl, ?_⟩) ?_ ?_
        rotate_left
        ·intro w'
         go_simp
         with_reducible rfl
        rotate_left
        ·simp only [Act.put, List.setIfInBounds_toArray, List.set_cons_zero, List.set_cons_succ, i64_w, i32_w]
         rfl
        refine take_ (i := 3) (N := some 33) (v := ?_) (a' := ?_) #[true, true, true, true, false, false, false, true, false, true, false, false, false, false, false, false, false, false] rfl rfl (take_ofW HT_.out HW_.out (by kernel_rfl)) (fun _ _ _ h => h) (Or.inl ⟨by rfl, ?_⟩) hHeld ?_ ?_
        rotate_left
        ·rintro w' ⟨s0, s1, s2, s3, s4, s5, s6, s7, s8, s9⟩
         go_simp
         with_reducible rfl
        rotate_left
        ·simp only [Act.put, List.setIfInBounds_toArray, List.set_cons_zero, List.set_cons_succ, i64_w, i32_w]
         rfl
        refine pure_ (i := 4) (N := some 34) (v := ?_) (a' := ?_) #[true, true, true, true, true, false, false, true, false, true, false, false, false, false, false, false, false, false] rfl rfl (any_of HT_.out (by kernel_rfl)) (fun _ _ _ h => h) (Or.inl ⟨by rfl, ?_⟩) ?_ ?_
        rotate_left
        ·intro w'
         go_simp
         with_reducible rfl
        rotate_left
        ·simp only [Act.put, List.setIfInBounds_toArray, List.set_cons_zero, List.set_cons_succ, i64_w, i32_w]
         rfl
        refine pure_ (i := 5) (N := some 35) (v := ?_) (a' := ?_) #[true, true, true, true, true, true, false, true, false, true, false, false, false, false, false, false, false, false] rfl rfl (any_of HT_.out (by kernel_rfl)) (fun _ _ _ h => h) (Or.inl ⟨by rfl, ?_⟩) ?_ ?_
        rotate_left
        ·intro w'
         go_simp
         with_reducible rfl
        rotate_left
        ·simp only [Act.put, List.setIfInBounds_toArray, List.set_cons_zero, List.set_cons_succ, i64_w, i32_w]
         rfl
        refine take_ (i := 6) (N := some 36) (v := ?_) (a' := ?_) #[true, true, true, true, true, true, true, true, false, true, false, false, false, false, false, false, false, false] rfl rfl (take_ofW HT_.out HW_.out (by kernel_rfl)) (fun _ _ _ h => h) (Or.inl ⟨by rfl, ?_⟩) hHeld ?_ ?_
        rotate_left
        ·rintro w' ⟨s0, s1, s2, s3, s4, s5, s6, s7, s8, s9⟩
         go_simp
         with_reducible rfl
        rotate_left
        ·simp only [Act.put, List.setIfInBounds_toArray, List.set_cons_zero, List.set_cons_succ, i64_w, i32_w]
         rfl
        refine take_ (i := 8) (N := some 38) (v := ?_) (a' := ?_) #[true, true, true, true, true, true, true, true, true, true, false, false, false, false, false, false, false, false] rfl rfl (take_ofW HT_.out HW_.out (by kernel_rfl)) (fun _ _ _ h => h) (Or.inl ⟨by rfl, ?_⟩) hHeld ?_ ?_
        rotate_left
        ·rintro w' ⟨s0, s1, s2, s3, s4, s5, s6, s7, s8, s9⟩
         go_simp
         with_reducible rfl
        rotate_left
        ·simp only [Act.put, List.setIfInBounds_toArray, List.set_cons_zero, List.set_cons_succ, i64_w, i32_w]
         rfl
        refine take_ (i := 10) (N := some 40) (v := ?_) (a' := ?_) #[true, true, true, true, true, true, true, true, true, true, true, false, false, false, false, false, false, false] rfl rfl (take_ofW HT_.out HW_.out (by kernel_rfl)) (fun _ _ _ h => h) (Or.inl ⟨by rfl, ?_⟩) hHeld ?_ ?_
        rotate_left
        ·rintro w' ⟨s0, s1, s2, s3, s4, s5, s6, s7, s8, s9⟩
         go_simp
         with_reducible rfl
        rotate_left
        ·simp only [Act.put, List.setIfInBounds_toArray, List.set_cons_zero, List.set_cons_succ, i64_w, i32_w]
         rfl
        refine pure_ (i := 11) (N := some 41) (v := ?_) (a' := ?_) #[true, true, true, true, true, true, true, true, true, true, true, true, false, false, false, false, false, false] rfl rfl (any_of HT_.out (by kernel_rfl)) (fun _ _ _ h => h) (Or.inl ⟨by rfl, ?_⟩) ?_ ?_
        rotate_left
        ·intro w'
         go_simp
         with_reducible rfl
        rotate_left
        ·simp only [Act.put, List.setIfInBounds_toArray, List.set_cons_zero, List.set_cons_succ, i64_w, i32_w]
         rfl
        refine one_ (i := 12) (N := some 42) #[true, true, true, true, true, true, true, true, true, true, true, true, true, false, false, false, false, false] rfl rfl (one_of HT_.out (by kernel_rfl)) (by decide) (fun K hK => ?_)
        refine goes_ Try.func17 (by kernel_rfl) rfl #[.slice (some ad304) l0.length c0, .agg #[.int .i64 ((rd_T49 l0 a1_1).f2), .int .i64 a1_1, .int .i64 a1_1]] (by rfl) rfl rfl margs_ ?_
        with_reducible refine (tree_Insert.calls (fun k_ => k_ < w.heap.size) _ _ l0 ((rd_T49 l0 a1_1).f2) a1_1 a1_1 t306 t309 _ ?side1 A40.out).mono ?_
        (case side1 => exact Kd.V_mk HC0.out (Kd.F_below (Kd.C_F k49_heap HR0.out) (belg_ GE300.out)))
        rintro e w54 ⟨v307, rfl, ho0, hb⟩
        refine ⟨_, rfl, ?_⟩
        have n0_ := Aside0.mk (Kd.V_lower (Kd.V_mono (ok' := fun k_ => k_ ≠ gb300) ho0 (fun k_ hk_ => Or.elim hk_ (fun hs_ => fun e_ => Nat.not_le.2 hs_ (by rw [e_]; exact GW300.out)) (fun hn_ => (Kd.freshB (g := gb300) (o := .cells #[.int .i64 a1_0, .int .i64 a1_1, .int .i64 a1_2] 33 (0, 0)) (blkx_ BK300.out) k_ hn_)))) (below_size (belg_ GE300.out)))
        have n1_ := Aside0.mk (blk_below (g := gb300) (o := .cells #[.int .i64 a1_0, .int .i64 a1_1, .int .i64 a1_2] 33 (0, 0)) (blkx_ BK300.out) hb)
        have n2_ := Aside0.mk (below_step (belg_ GE300.out) hb)
        clear BK300
        clear HB
        have HO308 := n0_
        have BK300 := n1_
        have HB := n2_
        clear n0_ n1_ n2_
        (try clear hb)
        (try clear hb2)
        (try clear hk)
        (try clear hi)
        (try clear ho0)
        refine hK.out _ _ ⟨(blk_cell BK300.out 0).trans rfl, (blk_cell BK300.out 1).trans rfl, (blk_cell BK300.out 2).trans rfl, ((HB.out.cell (World.block_lt_of_cell? w _ hw305_0)).trans hw305_0), ((HB.out.cell (World.block_lt_of_cell? w _ hw305_1)).trans hw305_1), ((HB.out.cell (World.block_lt_of_cell? w _ hw305_2)).trans hw305_2), ((HB.out.cell (World.block_lt_of_cell? w _ hw305_3)).trans hw305_3), ((HB.out.cell (World.block_lt_of_cell? w _ hw305_4)).trans hw305_4), ((HB.out.cell (World.block_lt_of_cell? w _ hw305_5)).trans hw305_5), ((HB.out.cell (World.block_lt_of_cell? w _ hw305_6)).trans hw305_6)⟩ (fun hHeld => ?_)
        clear hK K
        refine norm_ (a' := ?_) ?_ ?_
        rotate_left
        ·show Act.put _ (some 42) _ = _
         simp only [Act.put, List.setIfInBounds_toArray, List.set_cons_zero, List.set_cons_succ, i64_w, i32_w]
         rfl
        refine pure_ (i := 13) (N := some 29) (v := ?_) (a' := ?_) #[true, true, true, true, true, true, true, true, true, true, true, true, true, true, false, false, false, false] rfl rfl (any_of HT_.out (by kernel_rfl)) (fun _ _ _ h => h) (Or.inl ⟨by rfl, ?_⟩) ?_ ?_
        rotate_left
        ·intro w'
         go_simp
         with_reducible rfl
        rotate_left
        ·simp only [Act.put, List.setIfInBounds_toArray, List.set_cons_zero, List.set_cons_succ, i64_w, i32_w]
         rfl
        refine pure_ (i := 14) (N := some 43) (v := ?_) (a' := ?_) #[true, true, true, true, true, true, true, true, true, true, true, true, true, true, true, false, false, false] rfl rfl (any_of HT_.out (by kernel_rfl)) (fun _ _ _ h => h) (Or.inl ⟨by rfl, ?_⟩) ?_ ?_
        rotate_left
        ·intro w'
         go_simp
         with_reducible rfl
        rotate_left
        ·simp only [Act.put, List.setIfInBounds_toArray, List.set_cons_zero, List.set_cons_succ, i64_w, i32_w]
         rfl
        refine pure_ (i := 15) (N := some 44) (v := ?_) (a' := ?_) #[true, true, true, true, true, true, true, true, true, true, true, true, true, true, true, true, false, false] rfl rfl (any_of HT_.out (by kernel_rfl)) (fun _ _ _ h => h) (Or.inl ⟨by rfl, ?_⟩) ?_ ?_
        rotate_left
        ·intro w'
         go_simp
         with_reducible rfl
        rotate_left
        ·simp only [Act.put, List.setIfInBounds_toArray, List.set_cons_zero, List.set_cons_succ, i64_w, i32_w]
         rfl
        refine pure_ (i := 16) (N := some 5) (v := ?_) (a' := ?_) #[true, true, true, true, true, true, true, true, true, true, true, true, true, true, true, true, true, false] rfl rfl (any_of HT_.out (by kernel_rfl)) (fun _ _ _ h => h) (Or.inl ⟨by rfl, ?_⟩) ?_ ?_
        rotate_left
        ·intro w'
         go_simp
         with_reducible rfl
        rotate_left
        ·simp only [Act.put, List.setIfInBounds_toArray, List.set_cons_zero, List.set_cons_succ, i64_w, i32_w]
         rfl
        refine pure_ (i := 17) (N := some 6) (v := ?_) (a' := ?_) #[true, true, true, true, true, true, true, true, true, true, true, true, true, true, true, true, true, true] rfl rfl (any_of HT_.out (by kernel_rfl)) (fun _ _ _ h => h) (Or.inl ⟨by rfl, ?_⟩) ?_ ?_
        rotate_left
        ·intro w'
         go_simp
         with_reducible rfl
        rotate_left
        ·simp only [Act.put, List.setIfInBounds_toArray, List.set_cons_zero, List.set_cons_succ, i64_w, i32_w]
         rfl
        refine done_ (done_of HT_.out (by kernel_rfl)) ?_
        try go_wp2_with (first | (go_at_call 10; (with_reducible refine (limelightlaw01_live.calls  t312 _ A51.out).mono ?_); rintro e w55 ⟨rfl, hb⟩; have n0_ := Aside0.mk (Kd.V_below (by (with_reducible repeat (first | apply Kd.V_alloc | apply Kd.V_drewN | apply Kd.V_drew)); exact HO308.out) hb); have n1_ := Aside0.mk (blk_below (g := gb300) (o := .cells #[.int .i64 a1_0, .int .i64 a1_1, .int .i64 a1_2] 33 (0, 0)) (blkx_ BK300.out) hb); have n2_ := Aside0.mk (below_step (belg_ GE300.out) hb); clear HO308; clear BK300; clear HB; have HO308 := n0_; have BK300 := n1_; have HB := n2_; clear n0_ n1_ n2_; (try clear hb); (try clear hb2); (try clear hk); (try clear hi)))
        go_ret
        exact ⟨by first | rfl | (simp [errW_none, errW_some] <;> rfl) | (simp [*, errW_none, errW_some] <;> rfl), belg_ GE300.out⟩
     ·rw [if_neg c16] at H
      exact absurd H (by simp)
    ·rw [if_neg c15] at H
     exact absurd H (by simp)

-- GIVEN: function 25 (tree_Check): ME

end Go.Proofs.Ytclhmgchllenlaa.P
