import Derived.Test.YtclhmgchllenlaaPx0
import Derived.Test.YtclhmgchllenlaaPx1
import Derived.Test.YtclhmgchllenlaaPx4
import Derived.Test.YtclhmgchllenlaaPx6
import Derived.Test.YtclhmgchllenlaaGMk
import Derived.Test.YtclhmgchllenlaaGRm
import Derived.Test.YtclhmgchllenlaaLiv01
import Derived.Test.YtclhmgchllenlaaME
-- printed by wip/tools/pp.sh (a patched copy of the print's program), for this claim.
namespace Go.Proofs.Ytclhmgchllenlaa.P
open Go.RowKit Go.Proofs.YtclhmgchllenlaaW.PrintWords Go.Proofs.YtclhmgchllenlaaW.PrintLast Go.Proofs.YtclhmgchllenlaaW.PrintMore
attribute [local go_sem] max2_int min2_int max_two min_two max_three min_three max_four min_four   -- for this text's walks alone
set_option linter.unusedVariables false
set_option linter.unusedSimpArgs false

/-! ### limelightlaw01_TreeMoves: function 4 -/
def limelightlaw01_TreeMoves.f (k : Nat) (l0 : List (S49)) (a1_0 : Int) (a1_1 : Int) (a1_2 : Int) : Option (Bool) := (limelightref01_Small.f l0).bind fun t112 => (if t112 = true then ((limelightref01_Copy.f l0).bind fun t114 => ((limelightlaw01_own.f a1_0 a1_1 a1_2).bind fun bt117 => ((tree_Insert.f l0 bt117.1 bt117.2.1 bt117.2.2).bind fun bt120 => ((limelightref01_Insert.f l0 a1_0 a1_1 a1_2).bind fun bt124 => ((tree_Remove.f l0 a1_1).bind fun bt128 => ((limelightref01_Remove.f l0 a1_1).bind fun bt132 => ((limelightref01_Same.f k bt120.1 bt124.1).bind fun t136 => (if t136 = true then (if bt120.2 = bt124.2 then ((limelightref01_Same.f k bt128.1 bt132.1).bind fun t137 => (if t137 = true then (if bt128.2 = bt132.2 then ((limelightref01_Same.f k l0 t114).bind fun t138 => (if t138 = true then ((limelightlaw01_live.f).bind fun t139 => (some t139)) else (none))) else (none)) else (none))) else (none)) else (none))))))))) else ((limelightlaw01_live.f).bind fun t113 => (some t113)))
theorem limelightlaw01_TreeMoves.mono : ∀ a0 a1 a2 a3 k, LeO (limelightlaw01_TreeMoves.f k a0 a1 a2 a3) (limelightlaw01_TreeMoves.f (k + 1) a0 a1 a2 a3) := by
 intro a0 a1 a2 a3 k
 unfold limelightlaw01_TreeMoves.f
 repeat' first
   | (with_reducible exact limelightref01_Same.mono _ _ _)
   | (with_reducible exact LeO.refl _)
   | (with_reducible exact LeO.none _)
   | (with_reducible refine LeO.ite ?_ ?_)
   | (with_reducible refine LeO.bind ?_ (fun _ => ?_))
   | exact limelightref01_Same.mono _ _ _
   | exact LeO.none _
   | refine LeO.ite ?_ ?_
   | refine LeO.bind ?_ (fun _ => ?_)
set_option maxHeartbeats 8000000 in
set_option maxRecDepth 100000 in
theorem limelightlaw01_TreeMoves.calls (k : Nat) (A0 : Option Addr) (c0 : Nat) (l0 : List (S49)) (a1_0 : Int) (a1_1 : Int) (a1_2 : Int) (r : Bool) (w : World) (hr0 : Kd.C k49 w A0 l0.length l0) (hc0 : l0.length ≤ c0) (h : limelightlaw01_TreeMoves.f k l0 a1_0 a1_1 a1_2 = some r) :
  Calls Try.prog 4 #[.slice A0 l0.length c0, .agg #[.int .i64 a1_0, .int .i64 a1_1, .int .i64 a1_2]] w fun e w' => e = .returned (.bool r) ∧ Below w.heap.size w w' := by
 have hu33 := Try.underlying33
 have HR0 := Aside0.mk hr0
 have HC0 := Aside0.mk hc0
 clear hr0 hc0
 have HB := Aside0.mk (Below.refl w.heap.size w)
 have H : ((limelightref01_Small.f l0).bind fun t112 => (if t112 = true then ((limelightref01_Copy.f l0).bind fun t114 => ((limelightlaw01_own.f a1_0 a1_1 a1_2).bind fun bt117 => ((tree_Insert.f l0 bt117.1 bt117.2.1 bt117.2.2).bind fun bt120 => ((limelightref01_Insert.f l0 a1_0 a1_1 a1_2).bind fun bt124 => ((tree_Remove.f l0 a1_1).bind fun bt128 => ((limelightref01_Remove.f l0 a1_1).bind fun bt132 => ((limelightref01_Same.f k bt120.1 bt124.1).bind fun t136 => (if t136 = true then (if bt120.2 = bt124.2 then ((limelightref01_Same.f k bt128.1 bt132.1).bind fun t137 => (if t137 = true then (if bt128.2 = bt132.2 then ((limelightref01_Same.f k l0 t114).bind fun t138 => (if t138 = true then ((limelightlaw01_live.f).bind fun t139 => (some t139)) else (none))) else (none)) else (none))) else (none)) else (none))))))))) else ((limelightlaw01_live.f).bind fun t113 => (some t113)))) = some r := h
 clear h
 replace H := Option.bind_eq_some_iff.mp H
 obtain ⟨t112, A30, H⟩ := H
 replace H : (if t112 = true then ((limelightref01_Copy.f l0).bind fun t114 => ((limelightlaw01_own.f a1_0 a1_1 a1_2).bind fun bt117 => ((tree_Insert.f l0 bt117.1 bt117.2.1 bt117.2.2).bind fun bt120 => ((limelightref01_Insert.f l0 a1_0 a1_1 a1_2).bind fun bt124 => ((tree_Remove.f l0 a1_1).bind fun bt128 => ((limelightref01_Remove.f l0 a1_1).bind fun bt132 => ((limelightref01_Same.f k bt120.1 bt124.1).bind fun t136 => (if t136 = true then (if bt120.2 = bt124.2 then ((limelightref01_Same.f k bt128.1 bt132.1).bind fun t137 => (if t137 = true then (if bt128.2 = bt132.2 then ((limelightref01_Same.f k l0 t114).bind fun t138 => (if t138 = true then ((limelightlaw01_live.f).bind fun t139 => (some t139)) else (none))) else (none)) else (none))) else (none)) else (none))))))))) else ((limelightlaw01_live.f).bind fun t113 => (some t113))) = some r := H
 have A3 := Aside0.mk A30
 clear A30
 by_cases c4 : t112 = true
 ·subst c4
  have H1 : ((limelightref01_Copy.f l0).bind fun t114 => ((limelightlaw01_own.f a1_0 a1_1 a1_2).bind fun bt117 => ((tree_Insert.f l0 bt117.1 bt117.2.1 bt117.2.2).bind fun bt120 => ((limelightref01_Insert.f l0 a1_0 a1_1 a1_2).bind fun bt124 => ((tree_Remove.f l0 a1_1).bind fun bt128 => ((limelightref01_Remove.f l0 a1_1).bind fun bt132 => ((limelightref01_Same.f k bt120.1 bt124.1).bind fun t136 => (if t136 = true then (if bt120.2 = bt124.2 then ((limelightref01_Same.f k bt128.1 bt132.1).bind fun t137 => (if t137 = true then (if bt128.2 = bt132.2 then ((limelightref01_Same.f k l0 t114).bind fun t138 => (if t138 = true then ((limelightlaw01_live.f).bind fun t139 => (some t139)) else (none))) else (none)) else (none))) else (none)) else (none))))))))) = some r := by rw [if_pos rfl] at H; exact H
  clear H
  have H := H1
  clear H1
  replace H := Option.bind_eq_some_iff.mp H
  obtain ⟨t114, A50, H⟩ := H
  replace H : ((limelightlaw01_own.f a1_0 a1_1 a1_2).bind fun bt117 => ((tree_Insert.f l0 bt117.1 bt117.2.1 bt117.2.2).bind fun bt120 => ((limelightref01_Insert.f l0 a1_0 a1_1 a1_2).bind fun bt124 => ((tree_Remove.f l0 a1_1).bind fun bt128 => ((limelightref01_Remove.f l0 a1_1).bind fun bt132 => ((limelightref01_Same.f k bt120.1 bt124.1).bind fun t136 => (if t136 = true then (if bt120.2 = bt124.2 then ((limelightref01_Same.f k bt128.1 bt132.1).bind fun t137 => (if t137 = true then (if bt128.2 = bt132.2 then ((limelightref01_Same.f k l0 t114).bind fun t138 => (if t138 = true then ((limelightlaw01_live.f).bind fun t139 => (some t139)) else (none))) else (none)) else (none))) else (none)) else (none)))))))) = some r := H
  have A5 := Aside0.mk A50
  clear A50
  replace H := Option.bind_eq_some_iff.mp H
  obtain ⟨⟨t117, t118, t119⟩, A60, H⟩ := H
  replace H : ((tree_Insert.f l0 t117 t118 t119).bind fun bt120 => ((limelightref01_Insert.f l0 a1_0 a1_1 a1_2).bind fun bt124 => ((tree_Remove.f l0 a1_1).bind fun bt128 => ((limelightref01_Remove.f l0 a1_1).bind fun bt132 => ((limelightref01_Same.f k bt120.1 bt124.1).bind fun t136 => (if t136 = true then (if bt120.2 = bt124.2 then ((limelightref01_Same.f k bt128.1 bt132.1).bind fun t137 => (if t137 = true then (if bt128.2 = bt132.2 then ((limelightref01_Same.f k l0 t114).bind fun t138 => (if t138 = true then ((limelightlaw01_live.f).bind fun t139 => (some t139)) else (none))) else (none)) else (none))) else (none)) else (none))))))) = some r := H
  have A6 := Aside0.mk A60
  clear A60
  replace H := Option.bind_eq_some_iff.mp H
  obtain ⟨⟨t120, t123⟩, A70, H⟩ := H
  replace H : ((limelightref01_Insert.f l0 a1_0 a1_1 a1_2).bind fun bt124 => ((tree_Remove.f l0 a1_1).bind fun bt128 => ((limelightref01_Remove.f l0 a1_1).bind fun bt132 => ((limelightref01_Same.f k t120 bt124.1).bind fun t136 => (if t136 = true then (if t123 = bt124.2 then ((limelightref01_Same.f k bt128.1 bt132.1).bind fun t137 => (if t137 = true then (if bt128.2 = bt132.2 then ((limelightref01_Same.f k l0 t114).bind fun t138 => (if t138 = true then ((limelightlaw01_live.f).bind fun t139 => (some t139)) else (none))) else (none)) else (none))) else (none)) else (none)))))) = some r := H
  have A7 := Aside0.mk A70
  clear A70
  replace H := Option.bind_eq_some_iff.mp H
  obtain ⟨⟨t124, t127⟩, A80, H⟩ := H
  replace H : ((tree_Remove.f l0 a1_1).bind fun bt128 => ((limelightref01_Remove.f l0 a1_1).bind fun bt132 => ((limelightref01_Same.f k t120 t124).bind fun t136 => (if t136 = true then (if t123 = t127 then ((limelightref01_Same.f k bt128.1 bt132.1).bind fun t137 => (if t137 = true then (if bt128.2 = bt132.2 then ((limelightref01_Same.f k l0 t114).bind fun t138 => (if t138 = true then ((limelightlaw01_live.f).bind fun t139 => (some t139)) else (none))) else (none)) else (none))) else (none)) else (none))))) = some r := H
  have A8 := Aside0.mk A80
  clear A80
  replace H := Option.bind_eq_some_iff.mp H
  obtain ⟨⟨t128, t131⟩, A90, H⟩ := H
  replace H : ((limelightref01_Remove.f l0 a1_1).bind fun bt132 => ((limelightref01_Same.f k t120 t124).bind fun t136 => (if t136 = true then (if t123 = t127 then ((limelightref01_Same.f k t128 bt132.1).bind fun t137 => (if t137 = true then (if t131 = bt132.2 then ((limelightref01_Same.f k l0 t114).bind fun t138 => (if t138 = true then ((limelightlaw01_live.f).bind fun t139 => (some t139)) else (none))) else (none)) else (none))) else (none)) else (none)))) = some r := H
  have A9 := Aside0.mk A90
  clear A90
  replace H := Option.bind_eq_some_iff.mp H
  obtain ⟨⟨t132, t135⟩, A100, H⟩ := H
  replace H : ((limelightref01_Same.f k t120 t124).bind fun t136 => (if t136 = true then (if t123 = t127 then ((limelightref01_Same.f k t128 t132).bind fun t137 => (if t137 = true then (if t131 = t135 then ((limelightref01_Same.f k l0 t114).bind fun t138 => (if t138 = true then ((limelightlaw01_live.f).bind fun t139 => (some t139)) else (none))) else (none)) else (none))) else (none)) else (none))) = some r := H
  have A10 := Aside0.mk A100
  clear A100
  replace H := Option.bind_eq_some_iff.mp H
  obtain ⟨t136, A110, H⟩ := H
  replace H : (if t136 = true then (if t123 = t127 then ((limelightref01_Same.f k t128 t132).bind fun t137 => (if t137 = true then (if t131 = t135 then ((limelightref01_Same.f k l0 t114).bind fun t138 => (if t138 = true then ((limelightlaw01_live.f).bind fun t139 => (some t139)) else (none))) else (none)) else (none))) else (none)) else (none)) = some r := H
  have A11 := Aside0.mk A110
  clear A110
  by_cases c12 : t136 = true
  ·subst c12
   have H1 : (if t123 = t127 then ((limelightref01_Same.f k t128 t132).bind fun t137 => (if t137 = true then (if t131 = t135 then ((limelightref01_Same.f k l0 t114).bind fun t138 => (if t138 = true then ((limelightlaw01_live.f).bind fun t139 => (some t139)) else (none))) else (none)) else (none))) else (none)) = some r := by rw [if_pos rfl] at H; exact H
   clear H
   have H := H1
   clear H1
   by_cases c13 : t123 = t127
   ·rw [if_pos c13] at H
    have c13b0 : (t123 == t127) = true := beq_iff_eq.mpr c13
    have c13b1 : (t123 != t127) = false := bne_eq_false_iff_eq.mpr c13
    clear c13
    replace H := Option.bind_eq_some_iff.mp H
    obtain ⟨t137, A140, H⟩ := H
    replace H : (if t137 = true then (if t131 = t135 then ((limelightref01_Same.f k l0 t114).bind fun t138 => (if t138 = true then ((limelightlaw01_live.f).bind fun t139 => (some t139)) else (none))) else (none)) else (none)) = some r := H
    have A14 := Aside0.mk A140
    clear A140
    by_cases c15 : t137 = true
    ·subst c15
     have H1 : (if t131 = t135 then ((limelightref01_Same.f k l0 t114).bind fun t138 => (if t138 = true then ((limelightlaw01_live.f).bind fun t139 => (some t139)) else (none))) else (none)) = some r := by rw [if_pos rfl] at H; exact H
     clear H
     have H := H1
     clear H1
     by_cases c16 : t131 = t135
     ·rw [if_pos c16] at H
      have c16b0 : (t131 == t135) = true := beq_iff_eq.mpr c16
      have c16b1 : (t131 != t135) = false := bne_eq_false_iff_eq.mpr c16
      clear c16
      replace H := Option.bind_eq_some_iff.mp H
      obtain ⟨t138, A170, H⟩ := H
      replace H : (if t138 = true then ((limelightlaw01_live.f).bind fun t139 => (some t139)) else (none)) = some r := H
      have A17 := Aside0.mk A170
      clear A170
      by_cases c18 : t138 = true
      ·subst c18
       have H1 : ((limelightlaw01_live.f).bind fun t139 => (some t139)) = some r := by rw [if_pos rfl] at H; exact H
       clear H
       have H := H1
       clear H1
       replace H := Option.bind_eq_some_iff.mp H
       obtain ⟨t139, A190, H⟩ := H
       replace H : (some t139) = some r := H
       have A19 := Aside0.mk A190
       clear A190
       obtain rfl := Option.some.inj H
       go_enter Try.func4, Try.ntmps4
       go_wp2_with (first | ((with_reducible refine gate_dst (N := 3) rfl ?_); refine box_event ?hg (N := 3) ?hd (cs := #[.int .i64 a1_0, .int .i64 a1_1, .int .i64 a1_2]) (t := 33) ?hr ?_; (case hd => rfl); (case hg => rfl); (case hr => first | (go_simp; done) | (go_simp; rfl)); intro gb111 hg w20 hbox hb; have n0_ := Aside0.mk (below_step bel_ hb); have n1_ := Aside0.mk (hbox); have n2_ := Aside0.mk ((by rw [hg]; exact (below_size bel_) : w.heap.size ≤ gb111)); have n3_ := Aside0.mk ((by rw [hg]; exact (below_size bel_) : w.heap.size ≤ gb111)); clear HB; have HB := n0_; have BK111 := n1_; have GW111 := n2_; have GE111 := n3_; clear n0_ n1_ n2_ n3_; clear hb hbox hg) | ((with_reducible refine gate_callee (f := 9) rfl ?_); refine goesL_ (some 15) rfl rfl Try.func9 (by kernel_rfl) rfl #[.slice A0 l0.length c0] rfl margs_ ?_; (with_reducible refine (limelightref01_Small.calls _ _ l0 true _ ?side1 ?side2 A3.out).mono ?_); (case side1 => exact kcb_ ((Kd.C_below HR0.out HB.out))); (case side2 => exact HC0.out); rintro e w21 ⟨rfl, hb⟩; refine ⟨_, rfl, ?_⟩; have n0_ := Aside0.mk (blk_below (g := gb111) (o := .cells #[.int .i64 a1_0, .int .i64 a1_1, .int .i64 a1_2] 33 (0, 0)) (blkx_ BK111.out) hb); have n1_ := Aside0.mk (below_step (belg_ GE111.out) hb); clear BK111; clear HB; have BK111 := n0_; have HB := n1_; clear n0_ n1_; (try clear hb); (try clear hb2); (try clear hk); (try clear hi)) | ((with_reducible refine gate_callee (f := 16) rfl ?_); refine goesL_ (some 19) rfl rfl Try.func16 (by kernel_rfl) rfl #[.slice A0 l0.length c0] rfl margs_ ?_; (with_reducible refine (limelightref01_Copy.calls _ _ l0 t114 _ ?side1 ?side2 A5.out).mono ?_); (case side1 => exact kcb_ ((Kd.C_below HR0.out HB.out))); (case side2 => exact HC0.out); rintro e w22 ⟨v115, rfl, ho0, hb⟩; refine ⟨_, rfl, ?_⟩; have n0_ := Aside0.mk (Kd.V_lower (Kd.V_mono (ok' := fun k_ => k_ ≠ gb111) ho0 (fun k_ hk_ => (Kd.freshB (g := gb111) (o := .cells #[.int .i64 a1_0, .int .i64 a1_1, .int .i64 a1_2] 33 (0, 0)) (blkx_ BK111.out) k_ hk_))) (below_size (belg_ GE111.out))); have n1_ := Aside0.mk (blk_below (g := gb111) (o := .cells #[.int .i64 a1_0, .int .i64 a1_1, .int .i64 a1_2] 33 (0, 0)) (blkx_ BK111.out) hb); have n2_ := Aside0.mk (below_step (belg_ GE111.out) hb); clear BK111; clear HB; have HO116 := n0_; have BK111 := n1_; have HB := n2_; clear n0_ n1_ n2_; (try clear hb); (try clear hb2); (try clear hk); (try clear hi); (try clear ho0); have hcz23_0 : w22.cell? ⟨gb111, 0, none⟩ = some (.int .i64 a1_0) := (blk_cell BK111.out 0).trans rfl; have hcz23_1 : w22.cell? ⟨gb111, 1, none⟩ = some (.int .i64 a1_1) := (blk_cell BK111.out 1).trans rfl; have hcz23_2 : w22.cell? ⟨gb111, 2, none⟩ = some (.int .i64 a1_2) := (blk_cell BK111.out 2).trans rfl; have hfz23_0 := blk_frozen BK111.out 0; have hfz23_1 := blk_frozen BK111.out 1; have hfz23_2 := blk_frozen BK111.out 2) | ((with_reducible refine gate_callee (f := 18) rfl ?_); refine goesL_ (some 23) rfl rfl Try.func18 (by kernel_rfl) rfl #[.agg #[.int .i64 a1_0, .int .i64 a1_1, .int .i64 a1_2]] rfl margs_ ?_; (with_reducible refine (limelightlaw01_own.calls a1_0 a1_1 a1_2 t117 t118 t119 _ A6.out).mono ?_); rintro e w24 ⟨rfl, hb⟩; refine ⟨_, rfl, ?_⟩; have n0_ := Aside0.mk (Kd.V_below (by (with_reducible repeat (first | apply Kd.V_alloc | apply Kd.V_drewN | apply Kd.V_drew)); exact HO116.out) hb); have n1_ := Aside0.mk (blk_below (g := gb111) (o := .cells #[.int .i64 a1_0, .int .i64 a1_1, .int .i64 a1_2] 33 (0, 0)) (blkx_ BK111.out) hb); have n2_ := Aside0.mk (below_step (belg_ GE111.out) hb); clear HO116; clear BK111; clear HB; have HO116 := n0_; have BK111 := n1_; have HB := n2_; clear n0_ n1_ n2_; (try clear hb); (try clear hb2); (try clear hk); (try clear hi)) | ((with_reducible refine gate_callee (f := 17) rfl ?_); refine goesL_ (some 24) rfl rfl Try.func17 (by kernel_rfl) rfl #[.slice A0 l0.length c0, .agg #[.int .i64 t117, .int .i64 t118, .int .i64 t119]] rfl margs_ ?_; (with_reducible refine (tree_Insert.calls (fun k_ => k_ < w.heap.size) _ _ l0 t117 t118 t119 t120 t123 _ ?side1 A7.out).mono ?_); (case side1 => exact Kd.V_mk HC0.out (Kd.F_below (Kd.C_F k49_heap HR0.out) (belg_ GE111.out))); rintro e w25 ⟨v121, rfl, ho0, hb⟩; refine ⟨_, rfl, ?_⟩; have n0_ := Aside0.mk (Kd.V_below (by (with_reducible repeat (first | apply Kd.V_alloc | apply Kd.V_drewN | apply Kd.V_drew)); exact HO116.out) hb); have n1_ := Aside0.mk (Kd.V_lower (Kd.V_mono (ok' := fun k_ => k_ ≠ gb111) ho0 (fun k_ hk_ => Or.elim hk_ (fun hs_ => fun e_ => Nat.not_le.2 hs_ (by rw [e_]; exact GW111.out)) (fun hn_ => (Kd.freshB (g := gb111) (o := .cells #[.int .i64 a1_0, .int .i64 a1_1, .int .i64 a1_2] 33 (0, 0)) (blkx_ BK111.out) k_ hn_)))) (below_size (belg_ GE111.out))); have n2_ := Aside0.mk (blk_below (g := gb111) (o := .cells #[.int .i64 a1_0, .int .i64 a1_1, .int .i64 a1_2] 33 (0, 0)) (blkx_ BK111.out) hb); have n3_ := Aside0.mk (below_step (belg_ GE111.out) hb); clear HO116; clear BK111; clear HB; have HO116 := n0_; have HO122 := n1_; have BK111 := n2_; have HB := n3_; clear n0_ n1_ n2_ n3_; (try clear hb); (try clear hb2); (try clear hk); (try clear hi); (try clear ho0); have hcz26_0 : w25.cell? ⟨gb111, 0, none⟩ = some (.int .i64 a1_0) := (blk_cell BK111.out 0).trans rfl; have hcz26_1 : w25.cell? ⟨gb111, 1, none⟩ = some (.int .i64 a1_1) := (blk_cell BK111.out 1).trans rfl; have hcz26_2 : w25.cell? ⟨gb111, 2, none⟩ = some (.int .i64 a1_2) := (blk_cell BK111.out 2).trans rfl; have hfz26_0 := blk_frozen BK111.out 0; have hfz26_1 := blk_frozen BK111.out 1; have hfz26_2 := blk_frozen BK111.out 2) | ((with_reducible refine gate_callee (f := 19) rfl ?_); refine goesL_ (some 30) rfl rfl Try.func19 (by kernel_rfl) rfl #[.slice A0 l0.length c0, .agg #[.int .i64 a1_0, .int .i64 a1_1, .int .i64 a1_2]] rfl margs_ ?_; (with_reducible refine (limelightref01_Insert.calls (fun k_ => k_ < w.heap.size) _ _ l0 a1_0 a1_1 a1_2 t124 t127 _ ?side1 A8.out).mono ?_); (case side1 => exact Kd.V_mk HC0.out (Kd.F_below (Kd.C_F k49_heap HR0.out) (belg_ GE111.out))); rintro e w27 ⟨v125, rfl, ho0, hb⟩; refine ⟨_, rfl, ?_⟩; have n0_ := Aside0.mk (Kd.V_below (by (with_reducible repeat (first | apply Kd.V_alloc | apply Kd.V_drewN | apply Kd.V_drew)); exact HO116.out) hb); have n1_ := Aside0.mk (Kd.V_below (by (with_reducible repeat (first | apply Kd.V_alloc | apply Kd.V_drewN | apply Kd.V_drew)); exact HO122.out) hb); have n2_ := Aside0.mk (Kd.V_lower (Kd.V_mono (ok' := fun k_ => k_ ≠ gb111) ho0 (fun k_ hk_ => Or.elim hk_ (fun hs_ => fun e_ => Nat.not_le.2 hs_ (by rw [e_]; exact GW111.out)) (fun hn_ => (Kd.freshB (g := gb111) (o := .cells #[.int .i64 a1_0, .int .i64 a1_1, .int .i64 a1_2] 33 (0, 0)) (blkx_ BK111.out) k_ hn_)))) (below_size (belg_ GE111.out))); have n3_ := Aside0.mk (blk_below (g := gb111) (o := .cells #[.int .i64 a1_0, .int .i64 a1_1, .int .i64 a1_2] 33 (0, 0)) (blkx_ BK111.out) hb); have n4_ := Aside0.mk (below_step (belg_ GE111.out) hb); clear HO116; clear HO122; clear BK111; clear HB; have HO116 := n0_; have HO122 := n1_; have HO126 := n2_; have BK111 := n3_; have HB := n4_; clear n0_ n1_ n2_ n3_ n4_; (try clear hb); (try clear hb2); (try clear hk); (try clear hi); (try clear ho0); have hcz28_0 : w27.cell? ⟨gb111, 0, none⟩ = some (.int .i64 a1_0) := (blk_cell BK111.out 0).trans rfl; have hcz28_1 : w27.cell? ⟨gb111, 1, none⟩ = some (.int .i64 a1_1) := (blk_cell BK111.out 1).trans rfl; have hcz28_2 : w27.cell? ⟨gb111, 2, none⟩ = some (.int .i64 a1_2) := (blk_cell BK111.out 2).trans rfl; have hfz28_0 := blk_frozen BK111.out 0; have hfz28_1 := blk_frozen BK111.out 1; have hfz28_2 := blk_frozen BK111.out 2) | ((with_reducible refine gate_callee (f := 20) rfl ?_); refine goesL_ (some 37) rfl rfl Try.func20 (by kernel_rfl) rfl #[.slice A0 l0.length c0, .int .i64 a1_1] rfl margs_ ?_; (with_reducible refine (tree_Remove.calls (fun k_ => k_ < w.heap.size) _ _ l0 a1_1 t128 t131 _ ?side1 A9.out).mono ?_); (case side1 => exact Kd.V_mk HC0.out (Kd.F_below (Kd.C_F k49_heap HR0.out) (belg_ GE111.out))); rintro e w29 ⟨v129, rfl, ho0, hb⟩; refine ⟨_, rfl, ?_⟩; have n0_ := Aside0.mk (Kd.V_below (by (with_reducible repeat (first | apply Kd.V_alloc | apply Kd.V_drewN | apply Kd.V_drew)); exact HO116.out) hb); have n1_ := Aside0.mk (Kd.V_below (by (with_reducible repeat (first | apply Kd.V_alloc | apply Kd.V_drewN | apply Kd.V_drew)); exact HO122.out) hb); have n2_ := Aside0.mk (Kd.V_below (by (with_reducible repeat (first | apply Kd.V_alloc | apply Kd.V_drewN | apply Kd.V_drew)); exact HO126.out) hb); have n3_ := Aside0.mk (Kd.V_lower (Kd.V_mono (ok' := fun k_ => k_ ≠ gb111) ho0 (fun k_ hk_ => Or.elim hk_ (fun hs_ => fun e_ => Nat.not_le.2 hs_ (by rw [e_]; exact GW111.out)) (fun hn_ => (Kd.freshB (g := gb111) (o := .cells #[.int .i64 a1_0, .int .i64 a1_1, .int .i64 a1_2] 33 (0, 0)) (blkx_ BK111.out) k_ hn_)))) (below_size (belg_ GE111.out))); have n4_ := Aside0.mk (blk_below (g := gb111) (o := .cells #[.int .i64 a1_0, .int .i64 a1_1, .int .i64 a1_2] 33 (0, 0)) (blkx_ BK111.out) hb); have n5_ := Aside0.mk (below_step (belg_ GE111.out) hb); clear HO116; clear HO122; clear HO126; clear BK111; clear HB; have HO116 := n0_; have HO122 := n1_; have HO126 := n2_; have HO130 := n3_; have BK111 := n4_; have HB := n5_; clear n0_ n1_ n2_ n3_ n4_ n5_; (try clear hb); (try clear hb2); (try clear hk); (try clear hi); (try clear ho0); have hcz30_0 : w29.cell? ⟨gb111, 0, none⟩ = some (.int .i64 a1_0) := (blk_cell BK111.out 0).trans rfl; have hcz30_1 : w29.cell? ⟨gb111, 1, none⟩ = some (.int .i64 a1_1) := (blk_cell BK111.out 1).trans rfl; have hcz30_2 : w29.cell? ⟨gb111, 2, none⟩ = some (.int .i64 a1_2) := (blk_cell BK111.out 2).trans rfl; have hfz30_0 := blk_frozen BK111.out 0; have hfz30_1 := blk_frozen BK111.out 1; have hfz30_2 := blk_frozen BK111.out 2) | ((with_reducible refine gate_callee (f := 21) rfl ?_); refine goesL_ (some 44) rfl rfl Try.func21 (by kernel_rfl) rfl #[.slice A0 l0.length c0, .int .i64 a1_1] rfl margs_ ?_; (with_reducible refine (limelightref01_Remove.calls (fun k_ => k_ < w.heap.size) _ _ l0 a1_1 t132 t135 _ ?side1 A10.out).mono ?_); (case side1 => exact Kd.V_mk HC0.out (Kd.F_below (Kd.C_F k49_heap HR0.out) (belg_ GE111.out))); rintro e w31 ⟨v133, rfl, ho0, hb⟩; refine ⟨_, rfl, ?_⟩; have n0_ := Aside0.mk (Kd.V_below (by (with_reducible repeat (first | apply Kd.V_alloc | apply Kd.V_drewN | apply Kd.V_drew)); exact HO116.out) hb); have n1_ := Aside0.mk (Kd.V_below (by (with_reducible repeat (first | apply Kd.V_alloc | apply Kd.V_drewN | apply Kd.V_drew)); exact HO122.out) hb); have n2_ := Aside0.mk (Kd.V_below (by (with_reducible repeat (first | apply Kd.V_alloc | apply Kd.V_drewN | apply Kd.V_drew)); exact HO126.out) hb); have n3_ := Aside0.mk (Kd.V_below (by (with_reducible repeat (first | apply Kd.V_alloc | apply Kd.V_drewN | apply Kd.V_drew)); exact HO130.out) hb); have n4_ := Aside0.mk (Kd.V_lower (Kd.V_mono (ok' := fun k_ => k_ ≠ gb111) ho0 (fun k_ hk_ => Or.elim hk_ (fun hs_ => fun e_ => Nat.not_le.2 hs_ (by rw [e_]; exact GW111.out)) (fun hn_ => (Kd.freshB (g := gb111) (o := .cells #[.int .i64 a1_0, .int .i64 a1_1, .int .i64 a1_2] 33 (0, 0)) (blkx_ BK111.out) k_ hn_)))) (below_size (belg_ GE111.out))); have n5_ := Aside0.mk (blk_below (g := gb111) (o := .cells #[.int .i64 a1_0, .int .i64 a1_1, .int .i64 a1_2] 33 (0, 0)) (blkx_ BK111.out) hb); have n6_ := Aside0.mk (below_step (belg_ GE111.out) hb); clear HO116; clear HO122; clear HO126; clear HO130; clear BK111; clear HB; have HO116 := n0_; have HO122 := n1_; have HO126 := n2_; have HO130 := n3_; have HO134 := n4_; have BK111 := n5_; have HB := n6_; clear n0_ n1_ n2_ n3_ n4_ n5_ n6_; (try clear hb); (try clear hb2); (try clear hk); (try clear hi); (try clear ho0); obtain ⟨Ao32, co32, eo32⟩ := Kd.V_slice HO122.out; subst eo32; obtain ⟨Ao33, co33, eo33⟩ := Kd.V_slice HO126.out; subst eo33) | ((with_reducible refine gate_callee (f := 15) rfl ?_); refine goesL_ (some 49) rfl rfl Try.func15 (by kernel_rfl) rfl #[.slice Ao32 t120.length co32, .slice Ao33 t124.length co33] rfl margs_ ?_; (with_reducible refine (limelightref01_Same.calls k _ _ t120 _ _ t124 true _ ?side1 ?side2 ?side3 ?side4 A11.out).mono ?_); (case side1 => exact kcb_ ((Kd.V_reads' HO122.out).2.2)); (case side2 => exact (Kd.V_reads' HO122.out).2.1); (case side3 => exact kcb_ ((Kd.V_reads' HO126.out).2.2)); (case side4 => exact (Kd.V_reads' HO126.out).2.1); rintro e w34 ⟨rfl, hb⟩; refine ⟨_, rfl, ?_⟩; have n0_ := Aside0.mk (Kd.V_below (by (with_reducible repeat (first | apply Kd.V_alloc | apply Kd.V_drewN | apply Kd.V_drew)); exact HO116.out) hb); have n1_ := Aside0.mk (Kd.V_below (by (with_reducible repeat (first | apply Kd.V_alloc | apply Kd.V_drewN | apply Kd.V_drew)); exact HO122.out) hb); have n2_ := Aside0.mk (Kd.V_below (by (with_reducible repeat (first | apply Kd.V_alloc | apply Kd.V_drewN | apply Kd.V_drew)); exact HO126.out) hb); have n3_ := Aside0.mk (Kd.V_below (by (with_reducible repeat (first | apply Kd.V_alloc | apply Kd.V_drewN | apply Kd.V_drew)); exact HO130.out) hb); have n4_ := Aside0.mk (Kd.V_below (by (with_reducible repeat (first | apply Kd.V_alloc | apply Kd.V_drewN | apply Kd.V_drew)); exact HO134.out) hb); have n5_ := Aside0.mk (blk_below (g := gb111) (o := .cells #[.int .i64 a1_0, .int .i64 a1_1, .int .i64 a1_2] 33 (0, 0)) (blkx_ BK111.out) hb); have n6_ := Aside0.mk (below_step (belg_ GE111.out) hb); clear HO116; clear HO122; clear HO126; clear HO130; clear HO134; clear BK111; clear HB; have HO116 := n0_; have HO122 := n1_; have HO126 := n2_; have HO130 := n3_; have HO134 := n4_; have BK111 := n5_; have HB := n6_; clear n0_ n1_ n2_ n3_ n4_ n5_ n6_; (try clear hb); (try clear hb2); (try clear hk); (try clear hi); obtain ⟨Ao35, co35, eo35⟩ := Kd.V_slice HO130.out; subst eo35; obtain ⟨Ao36, co36, eo36⟩ := Kd.V_slice HO134.out; subst eo36) | (go_at_call 15; (with_reducible refine (limelightref01_Same.calls k _ _ t128 _ _ t132 true _ ?side1 ?side2 ?side3 ?side4 A14.out).mono ?_); (case side1 => exact kcb_ ((Kd.V_reads' HO130.out).2.2)); (case side2 => exact (Kd.V_reads' HO130.out).2.1); (case side3 => exact kcb_ ((Kd.V_reads' HO134.out).2.2)); (case side4 => exact (Kd.V_reads' HO134.out).2.1); rintro e w37 ⟨rfl, hb⟩; have n0_ := Aside0.mk (Kd.V_below (by (with_reducible repeat (first | apply Kd.V_alloc | apply Kd.V_drewN | apply Kd.V_drew)); exact HO116.out) hb); have n1_ := Aside0.mk (Kd.V_below (by (with_reducible repeat (first | apply Kd.V_alloc | apply Kd.V_drewN | apply Kd.V_drew)); exact HO122.out) hb); have n2_ := Aside0.mk (Kd.V_below (by (with_reducible repeat (first | apply Kd.V_alloc | apply Kd.V_drewN | apply Kd.V_drew)); exact HO126.out) hb); have n3_ := Aside0.mk (Kd.V_below (by (with_reducible repeat (first | apply Kd.V_alloc | apply Kd.V_drewN | apply Kd.V_drew)); exact HO130.out) hb); have n4_ := Aside0.mk (Kd.V_below (by (with_reducible repeat (first | apply Kd.V_alloc | apply Kd.V_drewN | apply Kd.V_drew)); exact HO134.out) hb); have n5_ := Aside0.mk (blk_below (g := gb111) (o := .cells #[.int .i64 a1_0, .int .i64 a1_1, .int .i64 a1_2] 33 (0, 0)) (blkx_ BK111.out) hb); have n6_ := Aside0.mk (below_step (belg_ GE111.out) hb); clear HO116; clear HO122; clear HO126; clear HO130; clear HO134; clear BK111; clear HB; have HO116 := n0_; have HO122 := n1_; have HO126 := n2_; have HO130 := n3_; have HO134 := n4_; have BK111 := n5_; have HB := n6_; clear n0_ n1_ n2_ n3_ n4_ n5_ n6_; (try clear hb); (try clear hb2); (try clear hk); (try clear hi); obtain ⟨Ao38, co38, eo38⟩ := Kd.V_slice HO116.out; subst eo38) | (go_at_call 15; (with_reducible refine (limelightref01_Same.calls k _ _ l0 _ _ t114 true _ ?side1 ?side2 ?side3 ?side4 A17.out).mono ?_); (case side1 => exact kcb_ ((Kd.C_below HR0.out HB.out))); (case side2 => exact HC0.out); (case side3 => exact kcb_ ((Kd.V_reads' HO116.out).2.2)); (case side4 => exact (Kd.V_reads' HO116.out).2.1); rintro e w39 ⟨rfl, hb⟩; have n0_ := Aside0.mk (Kd.V_below (by (with_reducible repeat (first | apply Kd.V_alloc | apply Kd.V_drewN | apply Kd.V_drew)); exact HO116.out) hb); have n1_ := Aside0.mk (Kd.V_below (by (with_reducible repeat (first | apply Kd.V_alloc | apply Kd.V_drewN | apply Kd.V_drew)); exact HO122.out) hb); have n2_ := Aside0.mk (Kd.V_below (by (with_reducible repeat (first | apply Kd.V_alloc | apply Kd.V_drewN | apply Kd.V_drew)); exact HO126.out) hb); have n3_ := Aside0.mk (Kd.V_below (by (with_reducible repeat (first | apply Kd.V_alloc | apply Kd.V_drewN | apply Kd.V_drew)); exact HO130.out) hb); have n4_ := Aside0.mk (Kd.V_below (by (with_reducible repeat (first | apply Kd.V_alloc | apply Kd.V_drewN | apply Kd.V_drew)); exact HO134.out) hb); have n5_ := Aside0.mk (blk_below (g := gb111) (o := .cells #[.int .i64 a1_0, .int .i64 a1_1, .int .i64 a1_2] 33 (0, 0)) (blkx_ BK111.out) hb); have n6_ := Aside0.mk (below_step (belg_ GE111.out) hb); clear HO116; clear HO122; clear HO126; clear HO130; clear HO134; clear BK111; clear HB; have HO116 := n0_; have HO122 := n1_; have HO126 := n2_; have HO130 := n3_; have HO134 := n4_; have BK111 := n5_; have HB := n6_; clear n0_ n1_ n2_ n3_ n4_ n5_ n6_; (try clear hb); (try clear hb2); (try clear hk); (try clear hi)) | (go_at_call 10; (with_reducible refine (limelightlaw01_live.calls  t139 _ A19.out).mono ?_); rintro e w40 ⟨rfl, hb⟩; have n0_ := Aside0.mk (Kd.V_below (by (with_reducible repeat (first | apply Kd.V_alloc | apply Kd.V_drewN | apply Kd.V_drew)); exact HO116.out) hb); have n1_ := Aside0.mk (Kd.V_below (by (with_reducible repeat (first | apply Kd.V_alloc | apply Kd.V_drewN | apply Kd.V_drew)); exact HO122.out) hb); have n2_ := Aside0.mk (Kd.V_below (by (with_reducible repeat (first | apply Kd.V_alloc | apply Kd.V_drewN | apply Kd.V_drew)); exact HO126.out) hb); have n3_ := Aside0.mk (Kd.V_below (by (with_reducible repeat (first | apply Kd.V_alloc | apply Kd.V_drewN | apply Kd.V_drew)); exact HO130.out) hb); have n4_ := Aside0.mk (Kd.V_below (by (with_reducible repeat (first | apply Kd.V_alloc | apply Kd.V_drewN | apply Kd.V_drew)); exact HO134.out) hb); have n5_ := Aside0.mk (blk_below (g := gb111) (o := .cells #[.int .i64 a1_0, .int .i64 a1_1, .int .i64 a1_2] 33 (0, 0)) (blkx_ BK111.out) hb); have n6_ := Aside0.mk (below_step (belg_ GE111.out) hb); clear HO116; clear HO122; clear HO126; clear HO130; clear HO134; clear BK111; clear HB; have HO116 := n0_; have HO122 := n1_; have HO126 := n2_; have HO130 := n3_; have HO134 := n4_; have BK111 := n5_; have HB := n6_; clear n0_ n1_ n2_ n3_ n4_ n5_ n6_; (try clear hb); (try clear hb2); (try clear hk); (try clear hi)))
       go_ret
       exact ⟨by first | rfl | (simp [errW_none, errW_some] <;> rfl) | (simp [*, errW_none, errW_some] <;> rfl), belg_ GE111.out⟩
      ·replace c18 := Bool.eq_false_iff.mpr c18
       subst c18
       have H1 : (none) = some r := by rw [if_neg (show ¬ (false = true) by decide)] at H; exact H
       clear H
       have H := H1
       clear H1
       exact absurd H (by simp)
     ·rw [if_neg c16] at H
      exact absurd H (by simp)
    ·replace c15 := Bool.eq_false_iff.mpr c15
     subst c15
     have H1 : (none) = some r := by rw [if_neg (show ¬ (false = true) by decide)] at H; exact H
     clear H
     have H := H1
     clear H1
     exact absurd H (by simp)
   ·rw [if_neg c13] at H
    exact absurd H (by simp)
  ·replace c12 := Bool.eq_false_iff.mpr c12
   subst c12
   have H1 : (none) = some r := by rw [if_neg (show ¬ (false = true) by decide)] at H; exact H
   clear H
   have H := H1
   clear H1
   exact absurd H (by simp)
 ·replace c4 := Bool.eq_false_iff.mpr c4
  subst c4
  have H1 : ((limelightlaw01_live.f).bind fun t113 => (some t113)) = some r := by rw [if_neg (show ¬ (false = true) by decide)] at H; exact H
  clear H
  have H := H1
  clear H1
  replace H := Option.bind_eq_some_iff.mp H
  obtain ⟨t113, A410, H⟩ := H
  replace H : (some t113) = some r := H
  have A41 := Aside0.mk A410
  clear A410
  obtain rfl := Option.some.inj H
  go_enter Try.func4, Try.ntmps4
  go_wp2_with (first | ((with_reducible refine gate_dst (N := 3) rfl ?_); refine box_event ?hg (N := 3) ?hd (cs := #[.int .i64 a1_0, .int .i64 a1_1, .int .i64 a1_2]) (t := 33) ?hr ?_; (case hd => rfl); (case hg => rfl); (case hr => first | (go_simp; done) | (go_simp; rfl)); intro gb111 hg w42 hbox hb; have n0_ := Aside0.mk (below_step bel_ hb); have n1_ := Aside0.mk (hbox); have n2_ := Aside0.mk ((by rw [hg]; exact (below_size bel_) : w.heap.size ≤ gb111)); have n3_ := Aside0.mk ((by rw [hg]; exact (below_size bel_) : w.heap.size ≤ gb111)); clear HB; have HB := n0_; have BK111 := n1_; have GW111 := n2_; have GE111 := n3_; clear n0_ n1_ n2_ n3_; clear hb hbox hg) | ((with_reducible refine gate_callee (f := 9) rfl ?_); refine goesL_ (some 15) rfl rfl Try.func9 (by kernel_rfl) rfl #[.slice A0 l0.length c0] rfl margs_ ?_; (with_reducible refine (limelightref01_Small.calls _ _ l0 false _ ?side1 ?side2 A3.out).mono ?_); (case side1 => exact kcb_ ((Kd.C_below HR0.out HB.out))); (case side2 => exact HC0.out); rintro e w43 ⟨rfl, hb⟩; refine ⟨_, rfl, ?_⟩; have n0_ := Aside0.mk (blk_below (g := gb111) (o := .cells #[.int .i64 a1_0, .int .i64 a1_1, .int .i64 a1_2] 33 (0, 0)) (blkx_ BK111.out) hb); have n1_ := Aside0.mk (below_step (belg_ GE111.out) hb); clear BK111; clear HB; have BK111 := n0_; have HB := n1_; clear n0_ n1_; (try clear hb); (try clear hb2); (try clear hk); (try clear hi)) | ((with_reducible refine gate_callee (f := 10) rfl ?_); refine goesL_ (some 17) rfl rfl Try.func10 (by kernel_rfl) rfl #[] rfl margs_ ?_; (with_reducible refine (limelightlaw01_live.calls  t113 _ A41.out).mono ?_); rintro e w44 ⟨rfl, hb⟩; refine ⟨_, rfl, ?_⟩; have n0_ := Aside0.mk (blk_below (g := gb111) (o := .cells #[.int .i64 a1_0, .int .i64 a1_1, .int .i64 a1_2] 33 (0, 0)) (blkx_ BK111.out) hb); have n1_ := Aside0.mk (below_step (belg_ GE111.out) hb); clear BK111; clear HB; have BK111 := n0_; have HB := n1_; clear n0_ n1_; (try clear hb); (try clear hb2); (try clear hk); (try clear hi)))
  go_ret
  exact ⟨by first | rfl | (simp [errW_none, errW_some] <;> rfl) | (simp [*, errW_none, errW_some] <;> rfl), belg_ GE111.out⟩

end Go.Proofs.Ytclhmgchllenlaa.P
