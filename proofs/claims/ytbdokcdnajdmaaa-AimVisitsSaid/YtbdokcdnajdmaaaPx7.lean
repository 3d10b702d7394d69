import Derived.Test.YtbdokcdnajdmaaaPx0
import Derived.Test.YtbdokcdnajdmaaaPx1
import Derived.Test.YtbdokcdnajdmaaaPx2
import Derived.Test.YtbdokcdnajdmaaaGRv
import Derived.Test.YtbdokcdnajdmaaaMU
-- printed by wip/tools/pp.sh (a patched copy of the print's program), for this claim.
namespace Go.Proofs.Ytbdokcdnajdmaaa.P
open Go.RowKit Go.Proofs.YtbdokcdnajdmaaaW.PrintWords Go.Proofs.YtbdokcdnajdmaaaW.PrintLast Go.Proofs.YtbdokcdnajdmaaaW.PrintMore
attribute [local go_sem] max2_int min2_int max_two min_two max_three min_three max_four min_four   -- for this text's walks alone
set_option linter.unusedVariables false
set_option linter.unusedSimpArgs false

attribute [local go_sem high] eqA36 eqA35
/-! ### limelightlaw07_AimVisits: function 4 -/
def limelightlaw07_AimVisits.l0 : Nat → List (S44) → List (S46) → Int → Option (Bool)
 | 0, _, _, _ => none
 | k + 1, x5, x6, x7 => if x7 < (x5.length : Int) then (if 0 ≤ x7 then (if x7 < (x6.length : Int) then (if (!(((rd_T44 x5 x7).f0.f0) == ((rd_T46 x6 x7).f0.f0)) || (!(((rd_T44 x5 x7).f0.f1) == ((rd_T46 x6 x7).f0.f1)) || (!(((rd_T44 x5 x7).f0.f2) == ((rd_T46 x6 x7).f0.f2))))) = true then (none) else (if ((rd_T44 x5 x7).f1) = ((rd_T46 x6 x7).f1) then (if (((rd_T44 x5 x7).f2) != ((rd_T46 x6 x7).f2)) = true then (none) else (limelightlaw07_AimVisits.l0 k x5 x6 (wrap64 (x7 + 1)))) else (none))) else (none)) else (none)) else ((limelightlaw07_live.f).bind fun t243 => (some t243))
def limelightlaw07_AimVisits.f (k : Nat) (l0 : List (S53)) (a1_0 : Int) (a1_1 : Int) (a1_2 : Int) (a1_3 : Bool) (a1_4 : Bool) (a1_5 : Bool) : Option (Bool) := (limelightref01_Few.f l0).bind fun t227 => (if t227 = true then ((aim_Visits.f l0 a1_0 a1_1 a1_2 a1_3 a1_4 a1_5).bind fun t229 => ((limelightref03_Both.f l0 a1_1 a1_1).bind fun t232 => (if t232 = true then ((limelightref07_Visits.f l0 a1_0 a1_1 a1_2 a1_3 a1_4 a1_5).bind fun t234 => (if (t229.length : Int) = (t234.length : Int) then (limelightlaw07_AimVisits.l0 k t229 t234 0) else (none))) else (if (t229.length : Int) = 0 then ((limelightlaw07_live.f).bind fun t233 => (some t233)) else (none))))) else ((limelightlaw07_live.f).bind fun t228 => (some t228)))
theorem limelightlaw07_AimVisits.mono_l : ∀ k, (∀ y0 y1 y2, LeO (limelightlaw07_AimVisits.l0 k y0 y1 y2) (limelightlaw07_AimVisits.l0 (k + 1) y0 y1 y2))
 | 0 => fun _ _ _ r h => by simp [limelightlaw07_AimVisits.l0] at h
 | k + 1 => by
  have ih0 := limelightlaw07_AimVisits.mono_l k
  ·intro y0 y1 y2
   unfold limelightlaw07_AimVisits.l0
   repeat' first
   | (with_reducible exact ih0 _ _ _)
   | (with_reducible exact LeO.refl _)
   | (with_reducible exact LeO.none _)
   | (with_reducible refine LeO.ite ?_ ?_)
   | (with_reducible refine LeO.bind ?_ (fun _ => ?_))
   | exact ih0 _ _ _
   | exact LeO.none _
   | refine LeO.ite ?_ ?_
   | refine LeO.bind ?_ (fun _ => ?_)
theorem limelightlaw07_AimVisits.mono : ∀ a0 a1 a2 a3 a4 a5 a6 k, LeO (limelightlaw07_AimVisits.f k a0 a1 a2 a3 a4 a5 a6) (limelightlaw07_AimVisits.f (k + 1) a0 a1 a2 a3 a4 a5 a6) := by
 intro a0 a1 a2 a3 a4 a5 a6 k
 have ih0 := limelightlaw07_AimVisits.mono_l k
 unfold limelightlaw07_AimVisits.f
 repeat' first
   | (with_reducible exact ih0 _ _ _)
   | (with_reducible exact LeO.refl _)
   | (with_reducible exact LeO.none _)
   | (with_reducible refine LeO.ite ?_ ?_)
   | (with_reducible refine LeO.bind ?_ (fun _ => ?_))
   | exact ih0 _ _ _
   | exact LeO.none _
   | refine LeO.ite ?_ ?_
   | refine LeO.bind ?_ (fun _ => ?_)
set_option maxHeartbeats 8000000 in
set_option maxRecDepth 100000 in
theorem limelightlaw07_AimVisits.calls (k : Nat) (A0 : Option Addr) (c0 : Nat) (l0 : List (S53)) (a1_0 : Int) (a1_1 : Int) (a1_2 : Int) (a1_3 : Bool) (a1_4 : Bool) (a1_5 : Bool) (r : Bool) (w : World) (hr0 : Kd.C k53 w A0 l0.length l0) (hc0 : l0.length ≤ c0) (h : limelightlaw07_AimVisits.f k l0 a1_0 a1_1 a1_2 a1_3 a1_4 a1_5 = some r) :
  Calls Try.prog 4 #[.slice A0 l0.length c0, .agg #[.int .i64 a1_0, .int .i64 a1_1, .int .i64 a1_2, .bool a1_3, .bool a1_4, .bool a1_5]] w fun e w' => e = .returned (.bool r) ∧ Below w.heap.size w w' := by
 have hu25 := Try.underlying25
 have hu36 := Try.underlying36
 have hu35 := Try.underlying35
 have HR0 := Aside0.mk hr0
 have HC0 := Aside0.mk hc0
 clear hr0 hc0
 have HB := Aside0.mk (Below.refl w.heap.size w)
 have H : ((limelightref01_Few.f l0).bind fun t227 => (if t227 = true then ((aim_Visits.f l0 a1_0 a1_1 a1_2 a1_3 a1_4 a1_5).bind fun t229 => ((limelightref03_Both.f l0 a1_1 a1_1).bind fun t232 => (if t232 = true then ((limelightref07_Visits.f l0 a1_0 a1_1 a1_2 a1_3 a1_4 a1_5).bind fun t234 => (if (t229.length : Int) = (t234.length : Int) then (limelightlaw07_AimVisits.l0 k t229 t234 0) else (none))) else (if (t229.length : Int) = 0 then ((limelightlaw07_live.f).bind fun t233 => (some t233)) else (none))))) else ((limelightlaw07_live.f).bind fun t228 => (some t228)))) = some r := h
 clear h
 replace H := Option.bind_eq_some_iff.mp H
 obtain ⟨t227, A30, H⟩ := H
 replace H : (if t227 = true then ((aim_Visits.f l0 a1_0 a1_1 a1_2 a1_3 a1_4 a1_5).bind fun t229 => ((limelightref03_Both.f l0 a1_1 a1_1).bind fun t232 => (if t232 = true then ((limelightref07_Visits.f l0 a1_0 a1_1 a1_2 a1_3 a1_4 a1_5).bind fun t234 => (if (t229.length : Int) = (t234.length : Int) then (limelightlaw07_AimVisits.l0 k t229 t234 0) else (none))) else (if (t229.length : Int) = 0 then ((limelightlaw07_live.f).bind fun t233 => (some t233)) else (none))))) else ((limelightlaw07_live.f).bind fun t228 => (some t228))) = some r := H
 have A3 := Aside0.mk A30
 clear A30
 by_cases c4 : t227 = true
 ·subst c4
  have H1 : ((aim_Visits.f l0 a1_0 a1_1 a1_2 a1_3 a1_4 a1_5).bind fun t229 => ((limelightref03_Both.f l0 a1_1 a1_1).bind fun t232 => (if t232 = true then ((limelightref07_Visits.f l0 a1_0 a1_1 a1_2 a1_3 a1_4 a1_5).bind fun t234 => (if (t229.length : Int) = (t234.length : Int) then (limelightlaw07_AimVisits.l0 k t229 t234 0) else (none))) else (if (t229.length : Int) = 0 then ((limelightlaw07_live.f).bind fun t233 => (some t233)) else (none))))) = some r := by rw [if_pos rfl] at H; exact H
  clear H
  have H := H1
  clear H1
  replace H := Option.bind_eq_some_iff.mp H
  obtain ⟨t229, A50, H⟩ := H
  replace H : ((limelightref03_Both.f l0 a1_1 a1_1).bind fun t232 => (if t232 = true then ((limelightref07_Visits.f l0 a1_0 a1_1 a1_2 a1_3 a1_4 a1_5).bind fun t234 => (if (t229.length : Int) = (t234.length : Int) then (limelightlaw07_AimVisits.l0 k t229 t234 0) else (none))) else (if (t229.length : Int) = 0 then ((limelightlaw07_live.f).bind fun t233 => (some t233)) else (none)))) = some r := H
  have A5 := Aside0.mk A50
  clear A50
  replace H := Option.bind_eq_some_iff.mp H
  obtain ⟨t232, A60, H⟩ := H
  replace H : (if t232 = true then ((limelightref07_Visits.f l0 a1_0 a1_1 a1_2 a1_3 a1_4 a1_5).bind fun t234 => (if (t229.length : Int) = (t234.length : Int) then (limelightlaw07_AimVisits.l0 k t229 t234 0) else (none))) else (if (t229.length : Int) = 0 then ((limelightlaw07_live.f).bind fun t233 => (some t233)) else (none))) = some r := H
  have A6 := Aside0.mk A60
  clear A60
  by_cases c7 : t232 = true
  ·subst c7
   have H1 : ((limelightref07_Visits.f l0 a1_0 a1_1 a1_2 a1_3 a1_4 a1_5).bind fun t234 => (if (t229.length : Int) = (t234.length : Int) then (limelightlaw07_AimVisits.l0 k t229 t234 0) else (none))) = some r := by rw [if_pos rfl] at H; exact H
   clear H
   have H := H1
   clear H1
   replace H := Option.bind_eq_some_iff.mp H
   obtain ⟨t234, A80, H⟩ := H
   replace H : (if (t229.length : Int) = (t234.length : Int) then (limelightlaw07_AimVisits.l0 k t229 t234 0) else (none)) = some r := H
   have A8 := Aside0.mk A80
   clear A80
   by_cases c9 : (t229.length : Int) = (t234.length : Int)
   ·rw [if_pos c9] at H
    have c9b0 : ((t229.length : Int) == (t234.length : Int)) = true := beq_iff_eq.mpr c9
    have c9b1 : ((t229.length : Int) != (t234.length : Int)) = false := bne_eq_false_iff_eq.mpr c9
    have c9b2 : (t229.length == t234.length) = true := by first | simpa using c9 | (simp at c9 ⊢; omega)
    clear c9
    have H' := Aside0.mk H
    clear H
    go_enter Try.func4, Try.ntmps4
    go_wp2_with (first | ((with_reducible refine gate_dst (N := 3) rfl ?_); refine box_event ?hg (N := 3) ?hd (cs := #[.int .i64 a1_0, .int .i64 a1_1, .int .i64 a1_2, .bool a1_3, .bool a1_4, .bool a1_5]) (t := 25) ?hr ?_; (case hd => rfl); (case hg => rfl); (case hr => first | (go_simp; done) | (go_simp; rfl)); intro gb226 hg w10 hbox hb; have n0_ := Aside0.mk (below_step bel_ hb); have n1_ := Aside0.mk (hbox); have n2_ := Aside0.mk ((by rw [hg]; exact (below_size bel_) : w.heap.size ≤ gb226)); have n3_ := Aside0.mk ((by rw [hg]; exact (below_size bel_) : w.heap.size ≤ gb226)); clear HB; have HB := n0_; have BK226 := n1_; have GW226 := n2_; have GE226 := n3_; clear n0_ n1_ n2_ n3_; clear hb hbox hg) | (go_at_call 8; (with_reducible refine (limelightref01_Few.calls _ _ l0 true _ ?side1 ?side2 A3.out).mono ?_); (case side1 => exact kcb_ ((Kd.C_below HR0.out HB.out))); (case side2 => exact HC0.out); rintro e w11 ⟨rfl, hb⟩; have n0_ := Aside0.mk (blk_below (g := gb226) (o := .cells #[.int .i64 a1_0, .int .i64 a1_1, .int .i64 a1_2, .bool a1_3, .bool a1_4, .bool a1_5] 25 (0, 0)) (blkx_ BK226.out) hb); have n1_ := Aside0.mk (below_step (belg_ GE226.out) hb); clear BK226; clear HB; have BK226 := n0_; have HB := n1_; clear n0_ n1_; (try clear hb); (try clear hb2); (try clear hk); (try clear hi); have hcz12_0 : w11.cell? ⟨gb226, 0, none⟩ = some (.int .i64 a1_0) := (blk_cell BK226.out 0).trans rfl; have hcz12_1 : w11.cell? ⟨gb226, 1, none⟩ = some (.int .i64 a1_1) := (blk_cell BK226.out 1).trans rfl; have hcz12_2 : w11.cell? ⟨gb226, 2, none⟩ = some (.int .i64 a1_2) := (blk_cell BK226.out 2).trans rfl; have hcz12_3 : w11.cell? ⟨gb226, 3, none⟩ = some (.bool a1_3) := (blk_cell BK226.out 3).trans rfl; have hcz12_4 : w11.cell? ⟨gb226, 4, none⟩ = some (.bool a1_4) := (blk_cell BK226.out 4).trans rfl; have hcz12_5 : w11.cell? ⟨gb226, 5, none⟩ = some (.bool a1_5) := (blk_cell BK226.out 5).trans rfl; have hfz12_0 := blk_frozen BK226.out 0; have hfz12_1 := blk_frozen BK226.out 1; have hfz12_2 := blk_frozen BK226.out 2; have hfz12_3 := blk_frozen BK226.out 3; have hfz12_4 := blk_frozen BK226.out 4; have hfz12_5 := blk_frozen BK226.out 5) | (go_at_call 16; (with_reducible refine (aim_Visits.calls _ _ l0 a1_0 a1_1 a1_2 a1_3 a1_4 a1_5 t229 _ ?side1 ?side2 A5.out).mono ?_); (case side1 => exact kcb_ ((Kd.C_below HR0.out HB.out))); (case side2 => exact HC0.out); rintro e w13 ⟨v230, rfl, ho0, hb⟩; have n0_ := Aside0.mk (Kd.R_lower ho0 (below_size (belg_ GE226.out))); have n1_ := Aside0.mk (blk_below (g := gb226) (o := .cells #[.int .i64 a1_0, .int .i64 a1_1, .int .i64 a1_2, .bool a1_3, .bool a1_4, .bool a1_5] 25 (0, 0)) (blkx_ BK226.out) hb); have n2_ := Aside0.mk (below_step (belg_ GE226.out) hb); clear BK226; clear HB; have HO231 := n0_; have BK226 := n1_; have HB := n2_; clear n0_ n1_ n2_; (try clear hb); (try clear hb2); (try clear hk); (try clear hi); (try clear ho0); have hcz14_0 : w13.cell? ⟨gb226, 0, none⟩ = some (.int .i64 a1_0) := (blk_cell BK226.out 0).trans rfl; have hcz14_1 : w13.cell? ⟨gb226, 1, none⟩ = some (.int .i64 a1_1) := (blk_cell BK226.out 1).trans rfl; have hcz14_2 : w13.cell? ⟨gb226, 2, none⟩ = some (.int .i64 a1_2) := (blk_cell BK226.out 2).trans rfl; have hcz14_3 : w13.cell? ⟨gb226, 3, none⟩ = some (.bool a1_3) := (blk_cell BK226.out 3).trans rfl; have hcz14_4 : w13.cell? ⟨gb226, 4, none⟩ = some (.bool a1_4) := (blk_cell BK226.out 4).trans rfl; have hcz14_5 : w13.cell? ⟨gb226, 5, none⟩ = some (.bool a1_5) := (blk_cell BK226.out 5).trans rfl; have hfz14_0 := blk_frozen BK226.out 0; have hfz14_1 := blk_frozen BK226.out 1; have hfz14_2 := blk_frozen BK226.out 2; have hfz14_3 := blk_frozen BK226.out 3; have hfz14_4 := blk_frozen BK226.out 4; have hfz14_5 := blk_frozen BK226.out 5) | (go_at_call 11; (with_reducible refine (limelightref03_Both.calls _ _ l0 a1_1 a1_1 true _ ?side1 ?side2 A6.out).mono ?_); (case side1 => exact kcb_ ((Kd.C_below HR0.out HB.out))); (case side2 => exact HC0.out); rintro e w15 ⟨rfl, hb⟩; have n0_ := Aside0.mk (Kd.R_below (kra_ HO231.out) hb); have n1_ := Aside0.mk (blk_below (g := gb226) (o := .cells #[.int .i64 a1_0, .int .i64 a1_1, .int .i64 a1_2, .bool a1_3, .bool a1_4, .bool a1_5] 25 (0, 0)) (blkx_ BK226.out) hb); have n2_ := Aside0.mk (below_step (belg_ GE226.out) hb); clear HO231; clear BK226; clear HB; have HO231 := n0_; have BK226 := n1_; have HB := n2_; clear n0_ n1_ n2_; (try clear hb); (try clear hb2); (try clear hk); (try clear hi); have hcz16_0 : w15.cell? ⟨gb226, 0, none⟩ = some (.int .i64 a1_0) := (blk_cell BK226.out 0).trans rfl; have hcz16_1 : w15.cell? ⟨gb226, 1, none⟩ = some (.int .i64 a1_1) := (blk_cell BK226.out 1).trans rfl; have hcz16_2 : w15.cell? ⟨gb226, 2, none⟩ = some (.int .i64 a1_2) := (blk_cell BK226.out 2).trans rfl; have hcz16_3 : w15.cell? ⟨gb226, 3, none⟩ = some (.bool a1_3) := (blk_cell BK226.out 3).trans rfl; have hcz16_4 : w15.cell? ⟨gb226, 4, none⟩ = some (.bool a1_4) := (blk_cell BK226.out 4).trans rfl; have hcz16_5 : w15.cell? ⟨gb226, 5, none⟩ = some (.bool a1_5) := (blk_cell BK226.out 5).trans rfl; have hfz16_0 := blk_frozen BK226.out 0; have hfz16_1 := blk_frozen BK226.out 1; have hfz16_2 := blk_frozen BK226.out 2; have hfz16_3 := blk_frozen BK226.out 3; have hfz16_4 := blk_frozen BK226.out 4; have hfz16_5 := blk_frozen BK226.out 5) | (go_at_call 17; (with_reducible refine (limelightref07_Visits.calls _ _ l0 a1_0 a1_1 a1_2 a1_3 a1_4 a1_5 t234 _ ?side1 ?side2 A8.out).mono ?_); (case side1 => exact kcb_ ((Kd.C_below HR0.out HB.out))); (case side2 => exact HC0.out); rintro e w17 ⟨v235, rfl, ho0, hb⟩; have n0_ := Aside0.mk (Kd.R_below (kra_ HO231.out) hb); have n1_ := Aside0.mk (Kd.R_lower ho0 (below_size (belg_ GE226.out))); have n2_ := Aside0.mk (blk_below (g := gb226) (o := .cells #[.int .i64 a1_0, .int .i64 a1_1, .int .i64 a1_2, .bool a1_3, .bool a1_4, .bool a1_5] 25 (0, 0)) (blkx_ BK226.out) hb); have n3_ := Aside0.mk (below_step (belg_ GE226.out) hb); clear HO231; clear BK226; clear HB; have HO231 := n0_; have HO236 := n1_; have BK226 := n2_; have HB := n3_; clear n0_ n1_ n2_ n3_; (try clear hb); (try clear hb2); (try clear hk); (try clear hi); (try clear ho0); obtain ⟨Ao18, co18, eo18⟩ := Kd.R_slice HO231.out; subst eo18; obtain ⟨Ao19, co19, eo19⟩ := Kd.R_slice HO236.out; subst eo19))
    repeat (go_quiet (first | ((with_reducible refine gate_dst (N := 3) rfl ?_); refine box_event ?hg (N := 3) ?hd (cs := #[.int .i64 a1_0, .int .i64 a1_1, .int .i64 a1_2, .bool a1_3, .bool a1_4, .bool a1_5]) (t := 25) ?hr ?_; (case hd => rfl); (case hg => rfl); (case hr => first | (go_simp; done) | (go_simp; rfl)); intro gb226 hg w10 hbox hb; have n0_ := Aside0.mk (below_step bel_ hb); have n1_ := Aside0.mk (hbox); have n2_ := Aside0.mk ((by rw [hg]; exact (below_size bel_) : w.heap.size ≤ gb226)); have n3_ := Aside0.mk ((by rw [hg]; exact (below_size bel_) : w.heap.size ≤ gb226)); clear HB; have HB := n0_; have BK226 := n1_; have GW226 := n2_; have GE226 := n3_; clear n0_ n1_ n2_ n3_; clear hb hbox hg) | (go_at_call 8; (with_reducible refine (limelightref01_Few.calls _ _ l0 true _ ?side1 ?side2 A3.out).mono ?_); (case side1 => exact kcb_ ((Kd.C_below HR0.out HB.out))); (case side2 => exact HC0.out); rintro e w11 ⟨rfl, hb⟩; have n0_ := Aside0.mk (blk_below (g := gb226) (o := .cells #[.int .i64 a1_0, .int .i64 a1_1, .int .i64 a1_2, .bool a1_3, .bool a1_4, .bool a1_5] 25 (0, 0)) (blkx_ BK226.out) hb); have n1_ := Aside0.mk (below_step (belg_ GE226.out) hb); clear BK226; clear HB; have BK226 := n0_; have HB := n1_; clear n0_ n1_; (try clear hb); (try clear hb2); (try clear hk); (try clear hi); have hcz12_0 : w11.cell? ⟨gb226, 0, none⟩ = some (.int .i64 a1_0) := (blk_cell BK226.out 0).trans rfl; have hcz12_1 : w11.cell? ⟨gb226, 1, none⟩ = some (.int .i64 a1_1) := (blk_cell BK226.out 1).trans rfl; have hcz12_2 : w11.cell? ⟨gb226, 2, none⟩ = some (.int .i64 a1_2) := (blk_cell BK226.out 2).trans rfl; have hcz12_3 : w11.cell? ⟨gb226, 3, none⟩ = some (.bool a1_3) := (blk_cell BK226.out 3).trans rfl; have hcz12_4 : w11.cell? ⟨gb226, 4, none⟩ = some (.bool a1_4) := (blk_cell BK226.out 4).trans rfl; have hcz12_5 : w11.cell? ⟨gb226, 5, none⟩ = some (.bool a1_5) := (blk_cell BK226.out 5).trans rfl; have hfz12_0 := blk_frozen BK226.out 0; have hfz12_1 := blk_frozen BK226.out 1; have hfz12_2 := blk_frozen BK226.out 2; have hfz12_3 := blk_frozen BK226.out 3; have hfz12_4 := blk_frozen BK226.out 4; have hfz12_5 := blk_frozen BK226.out 5) | (go_at_call 16; (with_reducible refine (aim_Visits.calls _ _ l0 a1_0 a1_1 a1_2 a1_3 a1_4 a1_5 t229 _ ?side1 ?side2 A5.out).mono ?_); (case side1 => exact kcb_ ((Kd.C_below HR0.out HB.out))); (case side2 => exact HC0.out); rintro e w13 ⟨v230, rfl, ho0, hb⟩; have n0_ := Aside0.mk (Kd.R_lower ho0 (below_size (belg_ GE226.out))); have n1_ := Aside0.mk (blk_below (g := gb226) (o := .cells #[.int .i64 a1_0, .int .i64 a1_1, .int .i64 a1_2, .bool a1_3, .bool a1_4, .bool a1_5] 25 (0, 0)) (blkx_ BK226.out) hb); have n2_ := Aside0.mk (below_step (belg_ GE226.out) hb); clear BK226; clear HB; have HO231 := n0_; have BK226 := n1_; have HB := n2_; clear n0_ n1_ n2_; (try clear hb); (try clear hb2); (try clear hk); (try clear hi); (try clear ho0); have hcz14_0 : w13.cell? ⟨gb226, 0, none⟩ = some (.int .i64 a1_0) := (blk_cell BK226.out 0).trans rfl; have hcz14_1 : w13.cell? ⟨gb226, 1, none⟩ = some (.int .i64 a1_1) := (blk_cell BK226.out 1).trans rfl; have hcz14_2 : w13.cell? ⟨gb226, 2, none⟩ = some (.int .i64 a1_2) := (blk_cell BK226.out 2).trans rfl; have hcz14_3 : w13.cell? ⟨gb226, 3, none⟩ = some (.bool a1_3) := (blk_cell BK226.out 3).trans rfl; have hcz14_4 : w13.cell? ⟨gb226, 4, none⟩ = some (.bool a1_4) := (blk_cell BK226.out 4).trans rfl; have hcz14_5 : w13.cell? ⟨gb226, 5, none⟩ = some (.bool a1_5) := (blk_cell BK226.out 5).trans rfl; have hfz14_0 := blk_frozen BK226.out 0; have hfz14_1 := blk_frozen BK226.out 1; have hfz14_2 := blk_frozen BK226.out 2; have hfz14_3 := blk_frozen BK226.out 3; have hfz14_4 := blk_frozen BK226.out 4; have hfz14_5 := blk_frozen BK226.out 5) | (go_at_call 11; (with_reducible refine (limelightref03_Both.calls _ _ l0 a1_1 a1_1 true _ ?side1 ?side2 A6.out).mono ?_); (case side1 => exact kcb_ ((Kd.C_below HR0.out HB.out))); (case side2 => exact HC0.out); rintro e w15 ⟨rfl, hb⟩; have n0_ := Aside0.mk (Kd.R_below (kra_ HO231.out) hb); have n1_ := Aside0.mk (blk_below (g := gb226) (o := .cells #[.int .i64 a1_0, .int .i64 a1_1, .int .i64 a1_2, .bool a1_3, .bool a1_4, .bool a1_5] 25 (0, 0)) (blkx_ BK226.out) hb); have n2_ := Aside0.mk (below_step (belg_ GE226.out) hb); clear HO231; clear BK226; clear HB; have HO231 := n0_; have BK226 := n1_; have HB := n2_; clear n0_ n1_ n2_; (try clear hb); (try clear hb2); (try clear hk); (try clear hi); have hcz16_0 : w15.cell? ⟨gb226, 0, none⟩ = some (.int .i64 a1_0) := (blk_cell BK226.out 0).trans rfl; have hcz16_1 : w15.cell? ⟨gb226, 1, none⟩ = some (.int .i64 a1_1) := (blk_cell BK226.out 1).trans rfl; have hcz16_2 : w15.cell? ⟨gb226, 2, none⟩ = some (.int .i64 a1_2) := (blk_cell BK226.out 2).trans rfl; have hcz16_3 : w15.cell? ⟨gb226, 3, none⟩ = some (.bool a1_3) := (blk_cell BK226.out 3).trans rfl; have hcz16_4 : w15.cell? ⟨gb226, 4, none⟩ = some (.bool a1_4) := (blk_cell BK226.out 4).trans rfl; have hcz16_5 : w15.cell? ⟨gb226, 5, none⟩ = some (.bool a1_5) := (blk_cell BK226.out 5).trans rfl; have hfz16_0 := blk_frozen BK226.out 0; have hfz16_1 := blk_frozen BK226.out 1; have hfz16_2 := blk_frozen BK226.out 2; have hfz16_3 := blk_frozen BK226.out 3; have hfz16_4 := blk_frozen BK226.out 4; have hfz16_5 := blk_frozen BK226.out 5) | (go_at_call 17; (with_reducible refine (limelightref07_Visits.calls _ _ l0 a1_0 a1_1 a1_2 a1_3 a1_4 a1_5 t234 _ ?side1 ?side2 A8.out).mono ?_); (case side1 => exact kcb_ ((Kd.C_below HR0.out HB.out))); (case side2 => exact HC0.out); rintro e w17 ⟨v235, rfl, ho0, hb⟩; have n0_ := Aside0.mk (Kd.R_below (kra_ HO231.out) hb); have n1_ := Aside0.mk (Kd.R_lower ho0 (below_size (belg_ GE226.out))); have n2_ := Aside0.mk (blk_below (g := gb226) (o := .cells #[.int .i64 a1_0, .int .i64 a1_1, .int .i64 a1_2, .bool a1_3, .bool a1_4, .bool a1_5] 25 (0, 0)) (blkx_ BK226.out) hb); have n3_ := Aside0.mk (below_step (belg_ GE226.out) hb); clear HO231; clear BK226; clear HB; have HO231 := n0_; have HO236 := n1_; have BK226 := n2_; have HB := n3_; clear n0_ n1_ n2_ n3_; (try clear hb); (try clear hb2); (try clear hk); (try clear hi); (try clear ho0); obtain ⟨Ao18, co18, eo18⟩ := Kd.R_slice HO231.out; subst eo18; obtain ⟨Ao19, co19, eo19⟩ := Kd.R_slice HO236.out; subst eo19)); try go_wp2_with (first | ((with_reducible refine gate_dst (N := 3) rfl ?_); refine box_event ?hg (N := 3) ?hd (cs := #[.int .i64 a1_0, .int .i64 a1_1, .int .i64 a1_2, .bool a1_3, .bool a1_4, .bool a1_5]) (t := 25) ?hr ?_; (case hd => rfl); (case hg => rfl); (case hr => first | (go_simp; done) | (go_simp; rfl)); intro gb226 hg w10 hbox hb; have n0_ := Aside0.mk (below_step bel_ hb); have n1_ := Aside0.mk (hbox); have n2_ := Aside0.mk ((by rw [hg]; exact (below_size bel_) : w.heap.size ≤ gb226)); have n3_ := Aside0.mk ((by rw [hg]; exact (below_size bel_) : w.heap.size ≤ gb226)); clear HB; have HB := n0_; have BK226 := n1_; have GW226 := n2_; have GE226 := n3_; clear n0_ n1_ n2_ n3_; clear hb hbox hg) | (go_at_call 8; (with_reducible refine (limelightref01_Few.calls _ _ l0 true _ ?side1 ?side2 A3.out).mono ?_); (case side1 => exact kcb_ ((Kd.C_below HR0.out HB.out))); (case side2 => exact HC0.out); rintro e w11 ⟨rfl, hb⟩; have n0_ := Aside0.mk (blk_below (g := gb226) (o := .cells #[.int .i64 a1_0, .int .i64 a1_1, .int .i64 a1_2, .bool a1_3, .bool a1_4, .bool a1_5] 25 (0, 0)) (blkx_ BK226.out) hb); have n1_ := Aside0.mk (below_step (belg_ GE226.out) hb); clear BK226; clear HB; have BK226 := n0_; have HB := n1_; clear n0_ n1_; (try clear hb); (try clear hb2); (try clear hk); (try clear hi); have hcz12_0 : w11.cell? ⟨gb226, 0, none⟩ = some (.int .i64 a1_0) := (blk_cell BK226.out 0).trans rfl; have hcz12_1 : w11.cell? ⟨gb226, 1, none⟩ = some (.int .i64 a1_1) := (blk_cell BK226.out 1).trans rfl; have hcz12_2 : w11.cell? ⟨gb226, 2, none⟩ = some (.int .i64 a1_2) := (blk_cell BK226.out 2).trans rfl; have hcz12_3 : w11.cell? ⟨gb226, 3, none⟩ = some (.bool a1_3) := (blk_cell BK226.out 3).trans rfl; have hcz12_4 : w11.cell? ⟨gb226, 4, none⟩ = some (.bool a1_4) := (blk_cell BK226.out 4).trans rfl; have hcz12_5 : w11.cell? ⟨gb226, 5, none⟩ = some (.bool a1_5) := (blk_cell BK226.out 5).trans rfl; have hfz12_0 := blk_frozen BK226.out 0; have hfz12_1 := blk_frozen BK226.out 1; have hfz12_2 := blk_frozen BK226.out 2; have hfz12_3 := blk_frozen BK226.out 3; have hfz12_4 := blk_frozen BK226.out 4; have hfz12_5 := blk_frozen BK226.out 5) | (go_at_call 16; (with_reducible refine (aim_Visits.calls _ _ l0 a1_0 a1_1 a1_2 a1_3 a1_4 a1_5 t229 _ ?side1 ?side2 A5.out).mono ?_); (case side1 => exact kcb_ ((Kd.C_below HR0.out HB.out))); (case side2 => exact HC0.out); rintro e w13 ⟨v230, rfl, ho0, hb⟩; have n0_ := Aside0.mk (Kd.R_lower ho0 (below_size (belg_ GE226.out))); have n1_ := Aside0.mk (blk_below (g := gb226) (o := .cells #[.int .i64 a1_0, .int .i64 a1_1, .int .i64 a1_2, .bool a1_3, .bool a1_4, .bool a1_5] 25 (0, 0)) (blkx_ BK226.out) hb); have n2_ := Aside0.mk (below_step (belg_ GE226.out) hb); clear BK226; clear HB; have HO231 := n0_; have BK226 := n1_; have HB := n2_; clear n0_ n1_ n2_; (try clear hb); (try clear hb2); (try clear hk); (try clear hi); (try clear ho0); have hcz14_0 : w13.cell? ⟨gb226, 0, none⟩ = some (.int .i64 a1_0) := (blk_cell BK226.out 0).trans rfl; have hcz14_1 : w13.cell? ⟨gb226, 1, none⟩ = some (.int .i64 a1_1) := (blk_cell BK226.out 1).trans rfl; have hcz14_2 : w13.cell? ⟨gb226, 2, none⟩ = some (.int .i64 a1_2) := (blk_cell BK226.out 2).trans rfl; have hcz14_3 : w13.cell? ⟨gb226, 3, none⟩ = some (.bool a1_3) := (blk_cell BK226.out 3).trans rfl; have hcz14_4 : w13.cell? ⟨gb226, 4, none⟩ = some (.bool a1_4) := (blk_cell BK226.out 4).trans rfl; have hcz14_5 : w13.cell? ⟨gb226, 5, none⟩ = some (.bool a1_5) := (blk_cell BK226.out 5).trans rfl; have hfz14_0 := blk_frozen BK226.out 0; have hfz14_1 := blk_frozen BK226.out 1; have hfz14_2 := blk_frozen BK226.out 2; have hfz14_3 := blk_frozen BK226.out 3; have hfz14_4 := blk_frozen BK226.out 4; have hfz14_5 := blk_frozen BK226.out 5) | (go_at_call 11; (with_reducible refine (limelightref03_Both.calls _ _ l0 a1_1 a1_1 true _ ?side1 ?side2 A6.out).mono ?_); (case side1 => exact kcb_ ((Kd.C_below HR0.out HB.out))); (case side2 => exact HC0.out); rintro e w15 ⟨rfl, hb⟩; have n0_ := Aside0.mk (Kd.R_below (kra_ HO231.out) hb); have n1_ := Aside0.mk (blk_below (g := gb226) (o := .cells #[.int .i64 a1_0, .int .i64 a1_1, .int .i64 a1_2, .bool a1_3, .bool a1_4, .bool a1_5] 25 (0, 0)) (blkx_ BK226.out) hb); have n2_ := Aside0.mk (below_step (belg_ GE226.out) hb); clear HO231; clear BK226; clear HB; have HO231 := n0_; have BK226 := n1_; have HB := n2_; clear n0_ n1_ n2_; (try clear hb); (try clear hb2); (try clear hk); (try clear hi); have hcz16_0 : w15.cell? ⟨gb226, 0, none⟩ = some (.int .i64 a1_0) := (blk_cell BK226.out 0).trans rfl; have hcz16_1 : w15.cell? ⟨gb226, 1, none⟩ = some (.int .i64 a1_1) := (blk_cell BK226.out 1).trans rfl; have hcz16_2 : w15.cell? ⟨gb226, 2, none⟩ = some (.int .i64 a1_2) := (blk_cell BK226.out 2).trans rfl; have hcz16_3 : w15.cell? ⟨gb226, 3, none⟩ = some (.bool a1_3) := (blk_cell BK226.out 3).trans rfl; have hcz16_4 : w15.cell? ⟨gb226, 4, none⟩ = some (.bool a1_4) := (blk_cell BK226.out 4).trans rfl; have hcz16_5 : w15.cell? ⟨gb226, 5, none⟩ = some (.bool a1_5) := (blk_cell BK226.out 5).trans rfl; have hfz16_0 := blk_frozen BK226.out 0; have hfz16_1 := blk_frozen BK226.out 1; have hfz16_2 := blk_frozen BK226.out 2; have hfz16_3 := blk_frozen BK226.out 3; have hfz16_4 := blk_frozen BK226.out 4; have hfz16_5 := blk_frozen BK226.out 5) | (go_at_call 17; (with_reducible refine (limelightref07_Visits.calls _ _ l0 a1_0 a1_1 a1_2 a1_3 a1_4 a1_5 t234 _ ?side1 ?side2 A8.out).mono ?_); (case side1 => exact kcb_ ((Kd.C_below HR0.out HB.out))); (case side2 => exact HC0.out); rintro e w17 ⟨v235, rfl, ho0, hb⟩; have n0_ := Aside0.mk (Kd.R_below (kra_ HO231.out) hb); have n1_ := Aside0.mk (Kd.R_lower ho0 (below_size (belg_ GE226.out))); have n2_ := Aside0.mk (blk_below (g := gb226) (o := .cells #[.int .i64 a1_0, .int .i64 a1_1, .int .i64 a1_2, .bool a1_3, .bool a1_4, .bool a1_5] 25 (0, 0)) (blkx_ BK226.out) hb); have n3_ := Aside0.mk (below_step (belg_ GE226.out) hb); clear HO231; clear BK226; clear HB; have HO231 := n0_; have HO236 := n1_; have BK226 := n2_; have HB := n3_; clear n0_ n1_ n2_ n3_; (try clear hb); (try clear hb2); (try clear hk); (try clear hi); (try clear ho0); obtain ⟨Ao18, co18, eo18⟩ := Kd.R_slice HO231.out; subst eo18; obtain ⟨Ao19, co19, eo19⟩ := Kd.R_slice HO236.out; subst eo19)))
    go_loopg [7] k (fun kq v7 w' => ∃ (x7_1 : Int), v7 = .int .i64 x7_1 ∧ Aside0 (limelightlaw07_AimVisits.l0 kq t229 t234 x7_1 = some r) ∧ Aside0 (kq ≤ k) ∧ Aside0 (Kd.R k44 44 w' w.heap.size (fun _ => True) (.slice Ao18 t229.length co18) t229) ∧ Aside0 (Kd.R k46 46 w' w.heap.size (fun _ => True) (.slice Ao19 t234.length co19) t234) ∧ Aside0 (w'.heap[gb226]? = some (.cells #[.int .i64 a1_0, .int .i64 a1_1, .int .i64 a1_2, .bool a1_3, .bool a1_4, .bool a1_5] 25 (0, 0))) ∧ Aside0 (Below w.heap.size w w'))
    case atStart => exact ⟨(0), (by first | rfl | (simp; done) | (simp [*]; done)), H', ⟨Nat.le_refl _⟩, ⟨kra_ HO231.out⟩, ⟨kra_ HO236.out⟩, ⟨blkx_ BK226.out⟩, ⟨belg_ GE226.out⟩⟩
    case round =>
     clear H'
     try clear p2
     try clear c4
     try clear c7
     try clear c9
     try clear c9b0
     try clear c9b1
     try clear c9b2
     try clear hcz12_0
     try clear hcz12_1
     try clear hcz12_2
     try clear hcz12_3
     try clear hcz12_4
     try clear hcz12_5
     try clear hcz14_0
     try clear hcz14_1
     try clear hcz14_2
     try clear hcz14_3
     try clear hcz14_4
     try clear hcz14_5
     try clear hcz16_0
     try clear hcz16_1
     try clear hcz16_2
     try clear hcz16_3
     try clear hcz16_4
     try clear hcz16_5
     try clear hfz12_0
     try clear hfz12_1
     try clear hfz12_2
     try clear hfz12_3
     try clear hfz12_4
     try clear hfz12_5
     try clear hfz14_0
     try clear hfz14_1
     try clear hfz14_2
     try clear hfz14_3
     try clear hfz14_4
     try clear hfz14_5
     try clear hfz16_0
     try clear hfz16_1
     try clear hfz16_2
     try clear hfz16_3
     try clear hfz16_4
     try clear hfz16_5
     obtain ⟨x7_1, rfl, HA, HK1, HO_5, HO_6, BK226, HB⟩ := hrel
     cases gk with
     | zero => exact absurd HA.out (by simp [limelightlaw07_AimVisits.l0])
     | succ k1 =>
      have H := HA.out
      clear HA
      simp only [limelightlaw07_AimVisits.l0] at H
      by_cases c20 : x7_1 < (t229.length : Int)
      ·rw [if_pos c20] at H
       have c20b0 : decide (x7_1 < (t229.length : Int)) = true := decide_eq_true c20
       clear c20
       by_cases c21 : 0 ≤ x7_1
       ·rw [if_pos c21] at H
        have c21b0 : decide (0 ≤ x7_1) = true := decide_eq_true c21
        clear c21
        by_cases c22 : x7_1 < (t234.length : Int)
        ·rw [if_pos c22] at H
         have c22b0 : decide (x7_1 < (t234.length : Int)) = true := decide_eq_true c22
         clear c22
         by_cases c23 : (!(((rd_T44 t229 x7_1).f0.f0) == ((rd_T46 t234 x7_1).f0.f0)) || (!(((rd_T44 t229 x7_1).f0.f1) == ((rd_T46 t234 x7_1).f0.f1)) || (!(((rd_T44 t229 x7_1).f0.f2) == ((rd_T46 t234 x7_1).f0.f2))))) = true
         ·rw [if_pos c23] at H
          exact absurd H (by simp)
         ·rw [if_neg c23] at H
          have c23b0 : (!(((rd_T44 t229 x7_1).f0.f0) == ((rd_T46 t234 x7_1).f0.f0)) || (!(((rd_T44 t229 x7_1).f0.f1) == ((rd_T46 t234 x7_1).f0.f1)) || (!(((rd_T44 t229 x7_1).f0.f2) == ((rd_T46 t234 x7_1).f0.f2))))) = false := by simpa using c23
          clear c23
          by_cases c24 : ((rd_T44 t229 x7_1).f1) = ((rd_T46 t234 x7_1).f1)
          ·rw [if_pos c24] at H
           have c24b0 : (((rd_T44 t229 x7_1).f1) == ((rd_T46 t234 x7_1).f1)) = true := beq_iff_eq.mpr c24
           have c24b1 : (((rd_T44 t229 x7_1).f1) != ((rd_T46 t234 x7_1).f1)) = false := bne_eq_false_iff_eq.mpr c24
           clear c24
           by_cases c25 : (((rd_T44 t229 x7_1).f2) != ((rd_T46 t234 x7_1).f2)) = true
           ·rw [if_pos c25] at H
            exact absurd H (by simp)
           ·rw [if_neg c25] at H
            have c25b0 : (((rd_T44 t229 x7_1).f2) != ((rd_T46 t234 x7_1).f2)) = false := by simpa using c25
            (try (have c25b1 : decide (((rd_T44 t229 x7_1).f2) = ((rd_T46 t234 x7_1).f2)) = true := by simpa using c25))
            (try (have c25b2 : (((rd_T44 t229 x7_1).f2) == ((rd_T46 t234 x7_1).f2)) = true := by simpa using c25))
            clear c25
            have H' := Aside0.mk H
            clear H
            have p237 : 0 ≤ (x7_1 : Int) := of_decide_eq_true asm_
            have q237 : x7_1 < (t229.length : Int) := of_decide_eq_true asm_
            obtain ⟨ad237, e237, hx237_0, hx237_1, hx237_2, hx237_3, hx237_4⟩ := at_T44 (Kd.R_reads' HO_5.out).2.2 x7_1 p237 q237
            cases e237
            replace p237 := eq_true p237
            replace q237 := eq_true q237
            have p238 : 0 ≤ (x7_1 : Int) := of_decide_eq_true asm_
            have q238 : x7_1 < (t234.length : Int) := of_decide_eq_true asm_
            obtain ⟨ad238, e238, hx238_0, hx238_1, hx238_2, hx238_3, hx238_4⟩ := at_T46 (Kd.R_reads' HO_6.out).2.2 x7_1 p238 q238
            cases e238
            replace p238 := eq_true p238
            replace q238 := eq_true q238
            have p239 : 0 ≤ (x7_1 : Int) := of_decide_eq_true asm_
            have q239 : x7_1 < (t229.length : Int) := of_decide_eq_true asm_
            obtain ⟨ad239, e239, hx239_0, hx239_1, hx239_2, hx239_3, hx239_4⟩ := at_T44 (Kd.R_reads' HO_5.out).2.2 x7_1 p239 q239
            obtain rfl : ad237 = ad239 := (by injection e239)
            replace p239 := eq_true p239
            replace q239 := eq_true q239
            have p240 : 0 ≤ (x7_1 : Int) := of_decide_eq_true asm_
            have q240 : x7_1 < (t234.length : Int) := of_decide_eq_true asm_
            obtain ⟨ad240, e240, hx240_0, hx240_1, hx240_2, hx240_3, hx240_4⟩ := at_T46 (Kd.R_reads' HO_6.out).2.2 x7_1 p240 q240
            obtain rfl : ad238 = ad240 := (by injection e240)
            replace p240 := eq_true p240
            replace q240 := eq_true q240
            have p241 : 0 ≤ (x7_1 : Int) := of_decide_eq_true asm_
            have q241 : x7_1 < (t229.length : Int) := of_decide_eq_true asm_
            obtain ⟨ad241, e241, hx241_0, hx241_1, hx241_2, hx241_3, hx241_4⟩ := at_T44 (Kd.R_reads' HO_5.out).2.2 x7_1 p241 q241
            obtain rfl : ad237 = ad241 := (by injection e241)
            replace p241 := eq_true p241
            replace q241 := eq_true q241
            have p242 : 0 ≤ (x7_1 : Int) := of_decide_eq_true asm_
            have q242 : x7_1 < (t234.length : Int) := of_decide_eq_true asm_
            obtain ⟨ad242, e242, hx242_0, hx242_1, hx242_2, hx242_3, hx242_4⟩ := at_T46 (Kd.R_reads' HO_6.out).2.2 x7_1 p242 q242
            obtain rfl : ad238 = ad242 := (by injection e242)
            replace p242 := eq_true p242
            replace q242 := eq_true q242
            go_wp2
            repeat (go_quiet (fail); try go_wp2)
            go_roundg k1
            case measure => have := HK1.out; omega
            case rel => exact ⟨(wrap64 (x7_1 + 1)), (by first | rfl | (simp; done) | (simp [*]; done)), H', ⟨by have := HK1.out; omega⟩, ⟨kra_ HO_5.out⟩, ⟨kra_ HO_6.out⟩, ⟨blkx_ BK226.out⟩, ⟨belg_ GE226.out⟩⟩
          ·rw [if_neg c24] at H
           exact absurd H (by simp)
        ·rw [if_neg c22] at H
         exact absurd H (by simp)
       ·rw [if_neg c21] at H
        exact absurd H (by simp)
      ·rw [if_neg c20] at H
       have c20b0 : decide (x7_1 < (t229.length : Int)) = false := decide_eq_false c20
       clear c20
       replace H := Option.bind_eq_some_iff.mp H
       obtain ⟨t243, A260, H⟩ := H
       replace H : (some t243) = some r := H
       have A26 := Aside0.mk A260
       clear A260
       obtain rfl := Option.some.inj H
       go_wp2_with (first | (go_at_call 9; (with_reducible refine (limelightlaw07_live.calls  t243 _ A26.out).mono ?_); rintro e w27 ⟨rfl, hb⟩; have n0_ := Aside0.mk (Kd.R_below (kra_ HO_5.out) hb); have n1_ := Aside0.mk (Kd.R_below (kra_ HO_6.out) hb); have n2_ := Aside0.mk (blk_below (g := gb226) (o := .cells #[.int .i64 a1_0, .int .i64 a1_1, .int .i64 a1_2, .bool a1_3, .bool a1_4, .bool a1_5] 25 (0, 0)) (blkx_ BK226.out) hb); have n3_ := Aside0.mk (below_step (belg_ GE226.out) hb); clear HO_5; clear HO_6; clear BK226; clear HB; have HO_5 := n0_; have HO_6 := n1_; have BK226 := n2_; have HB := n3_; clear n0_ n1_ n2_ n3_; (try clear hb); (try clear hb2); (try clear hk); (try clear hi)))
       repeat (go_quiet (first | (go_at_call 9; (with_reducible refine (limelightlaw07_live.calls  t243 _ A26.out).mono ?_); rintro e w27 ⟨rfl, hb⟩; have n0_ := Aside0.mk (Kd.R_below (kra_ HO_5.out) hb); have n1_ := Aside0.mk (Kd.R_below (kra_ HO_6.out) hb); have n2_ := Aside0.mk (blk_below (g := gb226) (o := .cells #[.int .i64 a1_0, .int .i64 a1_1, .int .i64 a1_2, .bool a1_3, .bool a1_4, .bool a1_5] 25 (0, 0)) (blkx_ BK226.out) hb); have n3_ := Aside0.mk (below_step (belg_ GE226.out) hb); clear HO_5; clear HO_6; clear BK226; clear HB; have HO_5 := n0_; have HO_6 := n1_; have BK226 := n2_; have HB := n3_; clear n0_ n1_ n2_ n3_; (try clear hb); (try clear hb2); (try clear hk); (try clear hi))); try go_wp2_with (first | (go_at_call 9; (with_reducible refine (limelightlaw07_live.calls  t243 _ A26.out).mono ?_); rintro e w27 ⟨rfl, hb⟩; have n0_ := Aside0.mk (Kd.R_below (kra_ HO_5.out) hb); have n1_ := Aside0.mk (Kd.R_below (kra_ HO_6.out) hb); have n2_ := Aside0.mk (blk_below (g := gb226) (o := .cells #[.int .i64 a1_0, .int .i64 a1_1, .int .i64 a1_2, .bool a1_3, .bool a1_4, .bool a1_5] 25 (0, 0)) (blkx_ BK226.out) hb); have n3_ := Aside0.mk (below_step (belg_ GE226.out) hb); clear HO_5; clear HO_6; clear BK226; clear HB; have HO_5 := n0_; have HO_6 := n1_; have BK226 := n2_; have HB := n3_; clear n0_ n1_ n2_ n3_; (try clear hb); (try clear hb2); (try clear hk); (try clear hi))))
       go_ret
       exact ⟨by first | rfl | (simp [errW_none, errW_some] <;> rfl) | (simp [*, errW_none, errW_some] <;> rfl), belg_ GE226.out⟩
   ·rw [if_neg c9] at H
    exact absurd H (by simp)
  ·replace c7 := Bool.eq_false_iff.mpr c7
   subst c7
   have H1 : (if (t229.length : Int) = 0 then ((limelightlaw07_live.f).bind fun t233 => (some t233)) else (none)) = some r := by rw [if_neg (show ¬ (false = true) by decide)] at H; exact H
   clear H
   have H := H1
   clear H1
   by_cases c28 : (t229.length : Int) = 0
   ·rw [if_pos c28] at H
    have c28b0 : ((t229.length : Int) == 0) = true := beq_iff_eq.mpr c28
    have c28b1 : ((t229.length : Int) != 0) = false := bne_eq_false_iff_eq.mpr c28
    clear c28
    replace H := Option.bind_eq_some_iff.mp H
    obtain ⟨t233, A290, H⟩ := H
    replace H : (some t233) = some r := H
    have A29 := Aside0.mk A290
    clear A290
    obtain rfl := Option.some.inj H
    go_enter Try.func4, Try.ntmps4
    go_wp2_with (first | ((with_reducible refine gate_dst (N := 3) rfl ?_); refine box_event ?hg (N := 3) ?hd (cs := #[.int .i64 a1_0, .int .i64 a1_1, .int .i64 a1_2, .bool a1_3, .bool a1_4, .bool a1_5]) (t := 25) ?hr ?_; (case hd => rfl); (case hg => rfl); (case hr => first | (go_simp; done) | (go_simp; rfl)); intro gb226 hg w30 hbox hb; have n0_ := Aside0.mk (below_step bel_ hb); have n1_ := Aside0.mk (hbox); have n2_ := Aside0.mk ((by rw [hg]; exact (below_size bel_) : w.heap.size ≤ gb226)); have n3_ := Aside0.mk ((by rw [hg]; exact (below_size bel_) : w.heap.size ≤ gb226)); clear HB; have HB := n0_; have BK226 := n1_; have GW226 := n2_; have GE226 := n3_; clear n0_ n1_ n2_ n3_; clear hb hbox hg) | (go_at_call 8; (with_reducible refine (limelightref01_Few.calls _ _ l0 true _ ?side1 ?side2 A3.out).mono ?_); (case side1 => exact kcb_ ((Kd.C_below HR0.out HB.out))); (case side2 => exact HC0.out); rintro e w31 ⟨rfl, hb⟩; have n0_ := Aside0.mk (blk_below (g := gb226) (o := .cells #[.int .i64 a1_0, .int .i64 a1_1, .int .i64 a1_2, .bool a1_3, .bool a1_4, .bool a1_5] 25 (0, 0)) (blkx_ BK226.out) hb); have n1_ := Aside0.mk (below_step (belg_ GE226.out) hb); clear BK226; clear HB; have BK226 := n0_; have HB := n1_; clear n0_ n1_; (try clear hb); (try clear hb2); (try clear hk); (try clear hi); have hcz32_0 : w31.cell? ⟨gb226, 0, none⟩ = some (.int .i64 a1_0) := (blk_cell BK226.out 0).trans rfl; have hcz32_1 : w31.cell? ⟨gb226, 1, none⟩ = some (.int .i64 a1_1) := (blk_cell BK226.out 1).trans rfl; have hcz32_2 : w31.cell? ⟨gb226, 2, none⟩ = some (.int .i64 a1_2) := (blk_cell BK226.out 2).trans rfl; have hcz32_3 : w31.cell? ⟨gb226, 3, none⟩ = some (.bool a1_3) := (blk_cell BK226.out 3).trans rfl; have hcz32_4 : w31.cell? ⟨gb226, 4, none⟩ = some (.bool a1_4) := (blk_cell BK226.out 4).trans rfl; have hcz32_5 : w31.cell? ⟨gb226, 5, none⟩ = some (.bool a1_5) := (blk_cell BK226.out 5).trans rfl; have hfz32_0 := blk_frozen BK226.out 0; have hfz32_1 := blk_frozen BK226.out 1; have hfz32_2 := blk_frozen BK226.out 2; have hfz32_3 := blk_frozen BK226.out 3; have hfz32_4 := blk_frozen BK226.out 4; have hfz32_5 := blk_frozen BK226.out 5) | (go_at_call 16; (with_reducible refine (aim_Visits.calls _ _ l0 a1_0 a1_1 a1_2 a1_3 a1_4 a1_5 t229 _ ?side1 ?side2 A5.out).mono ?_); (case side1 => exact kcb_ ((Kd.C_below HR0.out HB.out))); (case side2 => exact HC0.out); rintro e w33 ⟨v230, rfl, ho0, hb⟩; have n0_ := Aside0.mk (Kd.R_lower ho0 (below_size (belg_ GE226.out))); have n1_ := Aside0.mk (blk_below (g := gb226) (o := .cells #[.int .i64 a1_0, .int .i64 a1_1, .int .i64 a1_2, .bool a1_3, .bool a1_4, .bool a1_5] 25 (0, 0)) (blkx_ BK226.out) hb); have n2_ := Aside0.mk (below_step (belg_ GE226.out) hb); clear BK226; clear HB; have HO231 := n0_; have BK226 := n1_; have HB := n2_; clear n0_ n1_ n2_; (try clear hb); (try clear hb2); (try clear hk); (try clear hi); (try clear ho0); have hcz34_0 : w33.cell? ⟨gb226, 0, none⟩ = some (.int .i64 a1_0) := (blk_cell BK226.out 0).trans rfl; have hcz34_1 : w33.cell? ⟨gb226, 1, none⟩ = some (.int .i64 a1_1) := (blk_cell BK226.out 1).trans rfl; have hcz34_2 : w33.cell? ⟨gb226, 2, none⟩ = some (.int .i64 a1_2) := (blk_cell BK226.out 2).trans rfl; have hcz34_3 : w33.cell? ⟨gb226, 3, none⟩ = some (.bool a1_3) := (blk_cell BK226.out 3).trans rfl; have hcz34_4 : w33.cell? ⟨gb226, 4, none⟩ = some (.bool a1_4) := (blk_cell BK226.out 4).trans rfl; have hcz34_5 : w33.cell? ⟨gb226, 5, none⟩ = some (.bool a1_5) := (blk_cell BK226.out 5).trans rfl; have hfz34_0 := blk_frozen BK226.out 0; have hfz34_1 := blk_frozen BK226.out 1; have hfz34_2 := blk_frozen BK226.out 2; have hfz34_3 := blk_frozen BK226.out 3; have hfz34_4 := blk_frozen BK226.out 4; have hfz34_5 := blk_frozen BK226.out 5) | (go_at_call 11; (with_reducible refine (limelightref03_Both.calls _ _ l0 a1_1 a1_1 false _ ?side1 ?side2 A6.out).mono ?_); (case side1 => exact kcb_ ((Kd.C_below HR0.out HB.out))); (case side2 => exact HC0.out); rintro e w35 ⟨rfl, hb⟩; have n0_ := Aside0.mk (Kd.R_below (kra_ HO231.out) hb); have n1_ := Aside0.mk (blk_below (g := gb226) (o := .cells #[.int .i64 a1_0, .int .i64 a1_1, .int .i64 a1_2, .bool a1_3, .bool a1_4, .bool a1_5] 25 (0, 0)) (blkx_ BK226.out) hb); have n2_ := Aside0.mk (below_step (belg_ GE226.out) hb); clear HO231; clear BK226; clear HB; have HO231 := n0_; have BK226 := n1_; have HB := n2_; clear n0_ n1_ n2_; (try clear hb); (try clear hb2); (try clear hk); (try clear hi); obtain ⟨Ao36, co36, eo36⟩ := Kd.R_slice HO231.out; subst eo36) | (go_at_call 9; (with_reducible refine (limelightlaw07_live.calls  t233 _ A29.out).mono ?_); rintro e w37 ⟨rfl, hb⟩; have n0_ := Aside0.mk (Kd.R_below (kra_ HO231.out) hb); have n1_ := Aside0.mk (blk_below (g := gb226) (o := .cells #[.int .i64 a1_0, .int .i64 a1_1, .int .i64 a1_2, .bool a1_3, .bool a1_4, .bool a1_5] 25 (0, 0)) (blkx_ BK226.out) hb); have n2_ := Aside0.mk (below_step (belg_ GE226.out) hb); clear HO231; clear BK226; clear HB; have HO231 := n0_; have BK226 := n1_; have HB := n2_; clear n0_ n1_ n2_; (try clear hb); (try clear hb2); (try clear hk); (try clear hi)))
    repeat (go_quiet (first | ((with_reducible refine gate_dst (N := 3) rfl ?_); refine box_event ?hg (N := 3) ?hd (cs := #[.int .i64 a1_0, .int .i64 a1_1, .int .i64 a1_2, .bool a1_3, .bool a1_4, .bool a1_5]) (t := 25) ?hr ?_; (case hd => rfl); (case hg => rfl); (case hr => first | (go_simp; done) | (go_simp; rfl)); intro gb226 hg w30 hbox hb; have n0_ := Aside0.mk (below_step bel_ hb); have n1_ := Aside0.mk (hbox); have n2_ := Aside0.mk ((by rw [hg]; exact (below_size bel_) : w.heap.size ≤ gb226)); have n3_ := Aside0.mk ((by rw [hg]; exact (below_size bel_) : w.heap.size ≤ gb226)); clear HB; have HB := n0_; have BK226 := n1_; have GW226 := n2_; have GE226 := n3_; clear n0_ n1_ n2_ n3_; clear hb hbox hg) | (go_at_call 8; (with_reducible refine (limelightref01_Few.calls _ _ l0 true _ ?side1 ?side2 A3.out).mono ?_); (case side1 => exact kcb_ ((Kd.C_below HR0.out HB.out))); (case side2 => exact HC0.out); rintro e w31 ⟨rfl, hb⟩; have n0_ := Aside0.mk (blk_below (g := gb226) (o := .cells #[.int .i64 a1_0, .int .i64 a1_1, .int .i64 a1_2, .bool a1_3, .bool a1_4, .bool a1_5] 25 (0, 0)) (blkx_ BK226.out) hb); have n1_ := Aside0.mk (below_step (belg_ GE226.out) hb); clear BK226; clear HB; have BK226 := n0_; have HB := n1_; clear n0_ n1_; (try clear hb); (try clear hb2); (try clear hk); (try clear hi); have hcz32_0 : w31.cell? ⟨gb226, 0, none⟩ = some (.int .i64 a1_0) := (blk_cell BK226.out 0).trans rfl; have hcz32_1 : w31.cell? ⟨gb226, 1, none⟩ = some (.int .i64 a1_1) := (blk_cell BK226.out 1).trans rfl; have hcz32_2 : w31.cell? ⟨gb226, 2, none⟩ = some (.int .i64 a1_2) := (blk_cell BK226.out 2).trans rfl; have hcz32_3 : w31.cell? ⟨gb226, 3, none⟩ = some (.bool a1_3) := (blk_cell BK226.out 3).trans rfl; have hcz32_4 : w31.cell? ⟨gb226, 4, none⟩ = some (.bool a1_4) := (blk_cell BK226.out 4).trans rfl; have hcz32_5 : w31.cell? ⟨gb226, 5, none⟩ = some (.bool a1_5) := (blk_cell BK226.out 5).trans rfl; have hfz32_0 := blk_frozen BK226.out 0; have hfz32_1 := blk_frozen BK226.out 1; have hfz32_2 := blk_frozen BK226.out 2; have hfz32_3 := blk_frozen BK226.out 3; have hfz32_4 := blk_frozen BK226.out 4; have hfz32_5 := blk_frozen BK226.out 5) | (go_at_call 16; (with_reducible refine (aim_Visits.calls _ _ l0 a1_0 a1_1 a1_2 a1_3 a1_4 a1_5 t229 _ ?side1 ?side2 A5.out).mono ?_); (case side1 => exact kcb_ ((Kd.C_below HR0.out HB.out))); (case side2 => exact HC0.out); rintro e w33 ⟨v230, rfl, ho0, hb⟩; have n0_ := Aside0.mk (Kd.R_lower ho0 (below_size (belg_ GE226.out))); have n1_ := Aside0.mk (blk_below (g := gb226) (o := .cells #[.int .i64 a1_0, .int .i64 a1_1, .int .i64 a1_2, .bool a1_3, .bool a1_4, .bool a1_5] 25 (0, 0)) (blkx_ BK226.out) hb); have n2_ := Aside0.mk (below_step (belg_ GE226.out) hb); clear BK226; clear HB; have HO231 := n0_; have BK226 := n1_; have HB := n2_; clear n0_ n1_ n2_; (try clear hb); (try clear hb2); (try clear hk); (try clear hi); (try clear ho0); have hcz34_0 : w33.cell? ⟨gb226, 0, none⟩ = some (.int .i64 a1_0) := (blk_cell BK226.out 0).trans rfl; have hcz34_1 : w33.cell? ⟨gb226, 1, none⟩ = some (.int .i64 a1_1) := (blk_cell BK226.out 1).trans rfl; have hcz34_2 : w33.cell? ⟨gb226, 2, none⟩ = some (.int .i64 a1_2) := (blk_cell BK226.out 2).trans rfl; have hcz34_3 : w33.cell? ⟨gb226, 3, none⟩ = some (.bool a1_3) := (blk_cell BK226.out 3).trans rfl; have hcz34_4 : w33.cell? ⟨gb226, 4, none⟩ = some (.bool a1_4) := (blk_cell BK226.out 4).trans rfl; have hcz34_5 : w33.cell? ⟨gb226, 5, none⟩ = some (.bool a1_5) := (blk_cell BK226.out 5).trans rfl; have hfz34_0 := blk_frozen BK226.out 0; have hfz34_1 := blk_frozen BK226.out 1; have hfz34_2 := blk_frozen BK226.out 2; have hfz34_3 := blk_frozen BK226.out 3; have hfz34_4 := blk_frozen BK226.out 4; have hfz34_5 := blk_frozen BK226.out 5) | (go_at_call 11; (with_reducible refine (limelightref03_Both.calls _ _ l0 a1_1 a1_1 false _ ?side1 ?side2 A6.out).mono ?_); (case side1 => exact kcb_ ((Kd.C_below HR0.out HB.out))); (case side2 => exact HC0.out); rintro e w35 ⟨rfl, hb⟩; have n0_ := Aside0.mk (Kd.R_below (kra_ HO231.out) hb); have n1_ := Aside0.mk (blk_below (g := gb226) (o := .cells #[.int .i64 a1_0, .int .i64 a1_1, .int .i64 a1_2, .bool a1_3, .bool a1_4, .bool a1_5] 25 (0, 0)) (blkx_ BK226.out) hb); have n2_ := Aside0.mk (below_step (belg_ GE226.out) hb); clear HO231; clear BK226; clear HB; have HO231 := n0_; have BK226 := n1_; have HB := n2_; clear n0_ n1_ n2_; (try clear hb); (try clear hb2); (try clear hk); (try clear hi); obtain ⟨Ao36, co36, eo36⟩ := Kd.R_slice HO231.out; subst eo36) | (go_at_call 9; (with_reducible refine (limelightlaw07_live.calls  t233 _ A29.out).mono ?_); rintro e w37 ⟨rfl, hb⟩; have n0_ := Aside0.mk (Kd.R_below (kra_ HO231.out) hb); have n1_ := Aside0.mk (blk_below (g := gb226) (o := .cells #[.int .i64 a1_0, .int .i64 a1_1, .int .i64 a1_2, .bool a1_3, .bool a1_4, .bool a1_5] 25 (0, 0)) (blkx_ BK226.out) hb); have n2_ := Aside0.mk (below_step (belg_ GE226.out) hb); clear HO231; clear BK226; clear HB; have HO231 := n0_; have BK226 := n1_; have HB := n2_; clear n0_ n1_ n2_; (try clear hb); (try clear hb2); (try clear hk); (try clear hi))); try go_wp2_with (first | ((with_reducible refine gate_dst (N := 3) rfl ?_); refine box_event ?hg (N := 3) ?hd (cs := #[.int .i64 a1_0, .int .i64 a1_1, .int .i64 a1_2, .bool a1_3, .bool a1_4, .bool a1_5]) (t := 25) ?hr ?_; (case hd => rfl); (case hg => rfl); (case hr => first | (go_simp; done) | (go_simp; rfl)); intro gb226 hg w30 hbox hb; have n0_ := Aside0.mk (below_step bel_ hb); have n1_ := Aside0.mk (hbox); have n2_ := Aside0.mk ((by rw [hg]; exact (below_size bel_) : w.heap.size ≤ gb226)); have n3_ := Aside0.mk ((by rw [hg]; exact (below_size bel_) : w.heap.size ≤ gb226)); clear HB; have HB := n0_; have BK226 := n1_; have GW226 := n2_; have GE226 := n3_; clear n0_ n1_ n2_ n3_; clear hb hbox hg) | (go_at_call 8; (with_reducible refine (limelightref01_Few.calls _ _ l0 true _ ?side1 ?side2 A3.out).mono ?_); (case side1 => exact kcb_ ((Kd.C_below HR0.out HB.out))); (case side2 => exact HC0.out); rintro e w31 ⟨rfl, hb⟩; have n0_ := Aside0.mk (blk_below (g := gb226) (o := .cells #[.int .i64 a1_0, .int .i64 a1_1, .int .i64 a1_2, .bool a1_3, .bool a1_4, .bool a1_5] 25 (0, 0)) (blkx_ BK226.out) hb); have n1_ := Aside0.mk (below_step (belg_ GE226.out) hb); clear BK226; clear HB; have BK226 := n0_; have HB := n1_; clear n0_ n1_; (try clear hb); (try clear hb2); (try clear hk); (try clear hi); have hcz32_0 : w31.cell? ⟨gb226, 0, none⟩ = some (.int .i64 a1_0) := (blk_cell BK226.out 0).trans rfl; have hcz32_1 : w31.cell? ⟨gb226, 1, none⟩ = some (.int .i64 a1_1) := (blk_cell BK226.out 1).trans rfl; have hcz32_2 : w31.cell? ⟨gb226, 2, none⟩ = some (.int .i64 a1_2) := (blk_cell BK226.out 2).trans rfl; have hcz32_3 : w31.cell? ⟨gb226, 3, none⟩ = some (.bool a1_3) := (blk_cell BK226.out 3).trans rfl; have hcz32_4 : w31.cell? ⟨gb226, 4, none⟩ = some (.bool a1_4) := (blk_cell BK226.out 4).trans rfl; have hcz32_5 : w31.cell? ⟨gb226, 5, none⟩ = some (.bool a1_5) := (blk_cell BK226.out 5).trans rfl; have hfz32_0 := blk_frozen BK226.out 0; have hfz32_1 := blk_frozen BK226.out 1; have hfz32_2 := blk_frozen BK226.out 2; have hfz32_3 := blk_frozen BK226.out 3; have hfz32_4 := blk_frozen BK226.out 4; have hfz32_5 := blk_frozen BK226.out 5) | (go_at_call 16; (with_reducible refine (aim_Visits.calls _ _ l0 a1_0 a1_1 a1_2 a1_3 a1_4 a1_5 t229 _ ?side1 ?side2 A5.out).mono ?_); (case side1 => exact kcb_ ((Kd.C_below HR0.out HB.out))); (case side2 => exact HC0.out); rintro e w33 ⟨v230, rfl, ho0, hb⟩; have n0_ := Aside0.mk (Kd.R_lower ho0 (below_size (belg_ GE226.out))); have n1_ := Aside0.mk (blk_below (g := gb226) (o := .cells #[.int .i64 a1_0, .int .i64 a1_1, .int .i64 a1_2, .bool a1_3, .bool a1_4, .bool a1_5] 25 (0, 0)) (blkx_ BK226.out) hb); have n2_ := Aside0.mk (below_step (belg_ GE226.out) hb); clear BK226; clear HB; have HO231 := n0_; have BK226 := n1_; have HB := n2_; clear n0_ n1_ n2_; (try clear hb); (try clear hb2); (try clear hk); (try clear hi); (try clear ho0); have hcz34_0 : w33.cell? ⟨gb226, 0, none⟩ = some (.int .i64 a1_0) := (blk_cell BK226.out 0).trans rfl; have hcz34_1 : w33.cell? ⟨gb226, 1, none⟩ = some (.int .i64 a1_1) := (blk_cell BK226.out 1).trans rfl; have hcz34_2 : w33.cell? ⟨gb226, 2, none⟩ = some (.int .i64 a1_2) := (blk_cell BK226.out 2).trans rfl; have hcz34_3 : w33.cell? ⟨gb226, 3, none⟩ = some (.bool a1_3) := (blk_cell BK226.out 3).trans rfl; have hcz34_4 : w33.cell? ⟨gb226, 4, none⟩ = some (.bool a1_4) := (blk_cell BK226.out 4).trans rfl; have hcz34_5 : w33.cell? ⟨gb226, 5, none⟩ = some (.bool a1_5) := (blk_cell BK226.out 5).trans rfl; have hfz34_0 := blk_frozen BK226.out 0; have hfz34_1 := blk_frozen BK226.out 1; have hfz34_2 := blk_frozen BK226.out 2; have hfz34_3 := blk_frozen BK226.out 3; have hfz34_4 := blk_frozen BK226.out 4; have hfz34_5 := blk_frozen BK226.out 5) | (go_at_call 11; (with_reducible refine (limelightref03_Both.calls _ _ l0 a1_1 a1_1 false _ ?side1 ?side2 A6.out).mono ?_); (case side1 => exact kcb_ ((Kd.C_below HR0.out HB.out))); (case side2 => exact HC0.out); rintro e w35 ⟨rfl, hb⟩; have n0_ := Aside0.mk (Kd.R_below (kra_ HO231.out) hb); have n1_ := Aside0.mk (blk_below (g := gb226) (o := .cells #[.int .i64 a1_0, .int .i64 a1_1, .int .i64 a1_2, .bool a1_3, .bool a1_4, .bool a1_5] 25 (0, 0)) (blkx_ BK226.out) hb); have n2_ := Aside0.mk (below_step (belg_ GE226.out) hb); clear HO231; clear BK226; clear HB; have HO231 := n0_; have BK226 := n1_; have HB := n2_; clear n0_ n1_ n2_; (try clear hb); (try clear hb2); (try clear hk); (try clear hi); obtain ⟨Ao36, co36, eo36⟩ := Kd.R_slice HO231.out; subst eo36) | (go_at_call 9; (with_reducible refine (limelightlaw07_live.calls  t233 _ A29.out).mono ?_); rintro e w37 ⟨rfl, hb⟩; have n0_ := Aside0.mk (Kd.R_below (kra_ HO231.out) hb); have n1_ := Aside0.mk (blk_below (g := gb226) (o := .cells #[.int .i64 a1_0, .int .i64 a1_1, .int .i64 a1_2, .bool a1_3, .bool a1_4, .bool a1_5] 25 (0, 0)) (blkx_ BK226.out) hb); have n2_ := Aside0.mk (below_step (belg_ GE226.out) hb); clear HO231; clear BK226; clear HB; have HO231 := n0_; have BK226 := n1_; have HB := n2_; clear n0_ n1_ n2_; (try clear hb); (try clear hb2); (try clear hk); (try clear hi))))
    go_ret
    exact ⟨by first | rfl | (simp [errW_none, errW_some] <;> rfl) | (simp [*, errW_none, errW_some] <;> rfl), belg_ GE226.out⟩
   ·rw [if_neg c28] at H
    exact absurd H (by simp)
 ·replace c4 := Bool.eq_false_iff.mpr c4
  subst c4
  have H1 : ((limelightlaw07_live.f).bind fun t228 => (some t228)) = some r := by rw [if_neg (show ¬ (false = true) by decide)] at H; exact H
  clear H
  have H := H1
  clear H1
  replace H := Option.bind_eq_some_iff.mp H
  obtain ⟨t228, A380, H⟩ := H
  replace H : (some t228) = some r := H
  have A38 := Aside0.mk A380
  clear A380
  obtain rfl := Option.some.inj H
  go_enter Try.func4, Try.ntmps4
  go_wp2_with (first | ((with_reducible refine gate_dst (N := 3) rfl ?_); refine box_event ?hg (N := 3) ?hd (cs := #[.int .i64 a1_0, .int .i64 a1_1, .int .i64 a1_2, .bool a1_3, .bool a1_4, .bool a1_5]) (t := 25) ?hr ?_; (case hd => rfl); (case hg => rfl); (case hr => first | (go_simp; done) | (go_simp; rfl)); intro gb226 hg w39 hbox hb; have n0_ := Aside0.mk (below_step bel_ hb); have n1_ := Aside0.mk (hbox); have n2_ := Aside0.mk ((by rw [hg]; exact (below_size bel_) : w.heap.size ≤ gb226)); have n3_ := Aside0.mk ((by rw [hg]; exact (below_size bel_) : w.heap.size ≤ gb226)); clear HB; have HB := n0_; have BK226 := n1_; have GW226 := n2_; have GE226 := n3_; clear n0_ n1_ n2_ n3_; clear hb hbox hg) | (go_at_call 8; (with_reducible refine (limelightref01_Few.calls _ _ l0 false _ ?side1 ?side2 A3.out).mono ?_); (case side1 => exact kcb_ ((Kd.C_below HR0.out HB.out))); (case side2 => exact HC0.out); rintro e w40 ⟨rfl, hb⟩; have n0_ := Aside0.mk (blk_below (g := gb226) (o := .cells #[.int .i64 a1_0, .int .i64 a1_1, .int .i64 a1_2, .bool a1_3, .bool a1_4, .bool a1_5] 25 (0, 0)) (blkx_ BK226.out) hb); have n1_ := Aside0.mk (below_step (belg_ GE226.out) hb); clear BK226; clear HB; have BK226 := n0_; have HB := n1_; clear n0_ n1_; (try clear hb); (try clear hb2); (try clear hk); (try clear hi)) | (go_at_call 9; (with_reducible refine (limelightlaw07_live.calls  t228 _ A38.out).mono ?_); rintro e w41 ⟨rfl, hb⟩; have n0_ := Aside0.mk (blk_below (g := gb226) (o := .cells #[.int .i64 a1_0, .int .i64 a1_1, .int .i64 a1_2, .bool a1_3, .bool a1_4, .bool a1_5] 25 (0, 0)) (blkx_ BK226.out) hb); have n1_ := Aside0.mk (below_step (belg_ GE226.out) hb); clear BK226; clear HB; have BK226 := n0_; have HB := n1_; clear n0_ n1_; (try clear hb); (try clear hb2); (try clear hk); (try clear hi)))
  repeat (go_quiet (first | ((with_reducible refine gate_dst (N := 3) rfl ?_); refine box_event ?hg (N := 3) ?hd (cs := #[.int .i64 a1_0, .int .i64 a1_1, .int .i64 a1_2, .bool a1_3, .bool a1_4, .bool a1_5]) (t := 25) ?hr ?_; (case hd => rfl); (case hg => rfl); (case hr => first | (go_simp; done) | (go_simp; rfl)); intro gb226 hg w39 hbox hb; have n0_ := Aside0.mk (below_step bel_ hb); have n1_ := Aside0.mk (hbox); have n2_ := Aside0.mk ((by rw [hg]; exact (below_size bel_) : w.heap.size ≤ gb226)); have n3_ := Aside0.mk ((by rw [hg]; exact (below_size bel_) : w.heap.size ≤ gb226)); clear HB; have HB := n0_; have BK226 := n1_; have GW226 := n2_; have GE226 := n3_; clear n0_ n1_ n2_ n3_; clear hb hbox hg) | (go_at_call 8; (with_reducible refine (limelightref01_Few.calls _ _ l0 false _ ?side1 ?side2 A3.out).mono ?_); (case side1 => exact kcb_ ((Kd.C_below HR0.out HB.out))); (case side2 => exact HC0.out); rintro e w40 ⟨rfl, hb⟩; have n0_ := Aside0.mk (blk_below (g := gb226) (o := .cells #[.int .i64 a1_0, .int .i64 a1_1, .int .i64 a1_2, .bool a1_3, .bool a1_4, .bool a1_5] 25 (0, 0)) (blkx_ BK226.out) hb); have n1_ := Aside0.mk (below_step (belg_ GE226.out) hb); clear BK226; clear HB; have BK226 := n0_; have HB := n1_; clear n0_ n1_; (try clear hb); (try clear hb2); (try clear hk); (try clear hi)) | (go_at_call 9; (with_reducible refine (limelightlaw07_live.calls  t228 _ A38.out).mono ?_); rintro e w41 ⟨rfl, hb⟩; have n0_ := Aside0.mk (blk_below (g := gb226) (o := .cells #[.int .i64 a1_0, .int .i64 a1_1, .int .i64 a1_2, .bool a1_3, .bool a1_4, .bool a1_5] 25 (0, 0)) (blkx_ BK226.out) hb); have n1_ := Aside0.mk (below_step (belg_ GE226.out) hb); clear BK226; clear HB; have BK226 := n0_; have HB := n1_; clear n0_ n1_; (try clear hb); (try clear hb2); (try clear hk); (try clear hi))); try go_wp2_with (first | ((with_reducible refine gate_dst (N := 3) rfl ?_); refine box_event ?hg (N := 3) ?hd (cs := #[.int .i64 a1_0, .int .i64 a1_1, .int .i64 a1_2, .bool a1_3, .bool a1_4, .bool a1_5]) (t := 25) ?hr ?_; (case hd => rfl); (case hg => rfl); (case hr => first | (go_simp; done) | (go_simp; rfl)); intro gb226 hg w39 hbox hb; have n0_ := Aside0.mk (below_step bel_ hb); have n1_ := Aside0.mk (hbox); have n2_ := Aside0.mk ((by rw [hg]; exact (below_size bel_) : w.heap.size ≤ gb226)); have n3_ := Aside0.mk ((by rw [hg]; exact (below_size bel_) : w.heap.size ≤ gb226)); clear HB; have HB := n0_; have BK226 := n1_; have GW226 := n2_; have GE226 := n3_; clear n0_ n1_ n2_ n3_; clear hb hbox hg) | (go_at_call 8; (with_reducible refine (limelightref01_Few.calls _ _ l0 false _ ?side1 ?side2 A3.out).mono ?_); (case side1 => exact kcb_ ((Kd.C_below HR0.out HB.out))); (case side2 => exact HC0.out); rintro e w40 ⟨rfl, hb⟩; have n0_ := Aside0.mk (blk_below (g := gb226) (o := .cells #[.int .i64 a1_0, .int .i64 a1_1, .int .i64 a1_2, .bool a1_3, .bool a1_4, .bool a1_5] 25 (0, 0)) (blkx_ BK226.out) hb); have n1_ := Aside0.mk (below_step (belg_ GE226.out) hb); clear BK226; clear HB; have BK226 := n0_; have HB := n1_; clear n0_ n1_; (try clear hb); (try clear hb2); (try clear hk); (try clear hi)) | (go_at_call 9; (with_reducible refine (limelightlaw07_live.calls  t228 _ A38.out).mono ?_); rintro e w41 ⟨rfl, hb⟩; have n0_ := Aside0.mk (blk_below (g := gb226) (o := .cells #[.int .i64 a1_0, .int .i64 a1_1, .int .i64 a1_2, .bool a1_3, .bool a1_4, .bool a1_5] 25 (0, 0)) (blkx_ BK226.out) hb); have n1_ := Aside0.mk (below_step (belg_ GE226.out) hb); clear BK226; clear HB; have BK226 := n0_; have HB := n1_; clear n0_ n1_; (try clear hb); (try clear hb2); (try clear hk); (try clear hi))))
  go_ret
  exact ⟨by first | rfl | (simp [errW_none, errW_some] <;> rfl) | (simp [*, errW_none, errW_some] <;> rfl), belg_ GE226.out⟩

end Go.Proofs.Ytbdokcdnajdmaaa.P
