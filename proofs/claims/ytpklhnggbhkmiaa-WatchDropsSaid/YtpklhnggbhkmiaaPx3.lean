-- printed by wip/tools/pp.sh (a patched copy of the print's program), for this claim.
import Derived.Test.YtpklhnggbhkmiaaPx0
namespace Go.Proofs.Ytpklhnggbhkmiaa.P
open Go.RowKit Go.Proofs.YtpklhnggbhkmiaaW.PrintWords Go.Proofs.YtpklhnggbhkmiaaW.PrintLast Go.Proofs.YtpklhnggbhkmiaaW.PrintMore
attribute [local go_sem] max2_int min2_int max_two min_two max_three min_three max_four min_four   -- for this text's walks alone
set_option linter.unusedVariables false
set_option linter.unusedSimpArgs false

/-! ### limelightlaw18_small: function 13 -/
def limelightlaw18_small.l0 : Nat → Int → List (List Int) → Int → Bool → Option (Bool)
 | 0, _, _, _, _ => none
 | k + 1, x3, x205000, x205001, x205002 => if x3 < (x205000.length : Int) then (if 0 ≤ x3 then (if ((rd_L1 x205000 x3).length : Int) > 60 then (some false) else (limelightlaw18_small.l0 k (wrap64 (x3 + 1)) x205000 x205001 x205002)) else (none)) else (some (decide ((x205000.length : Int) ≤ 60)))
def limelightlaw18_small.f (k : Nat) (l0_0 : List (List Int)) (a0_1 : Int) (a0_2 : Bool) : Option (Bool) := limelightlaw18_small.l0 k 0 l0_0 a0_1 a0_2
theorem limelightlaw18_small.mono_l : ∀ k, (∀ y0 y1 y2 y3, LeO (limelightlaw18_small.l0 k y0 y1 y2 y3) (limelightlaw18_small.l0 (k + 1) y0 y1 y2 y3))
 | 0 => fun _ _ _ _ r h => by simp [limelightlaw18_small.l0] at h
 | k + 1 => by
  have ih0 := limelightlaw18_small.mono_l k
  ·intro y0 y1 y2 y3
   unfold limelightlaw18_small.l0
   repeat' first
   | (with_reducible exact ih0 _ _ _ _)
   | (with_reducible exact LeO.refl _)
   | (with_reducible exact LeO.none _)
   | (with_reducible refine LeO.ite ?_ ?_)
   | (with_reducible refine LeO.bind ?_ (fun _ => ?_))
   | exact ih0 _ _ _ _
   | exact LeO.none _
   | refine LeO.ite ?_ ?_
   | refine LeO.bind ?_ (fun _ => ?_)
theorem limelightlaw18_small.mono : ∀ a0 a1 a2 k, LeO (limelightlaw18_small.f k a0 a1 a2) (limelightlaw18_small.f (k + 1) a0 a1 a2) := by
 intro a0 a1 a2 k
 have ih0 := limelightlaw18_small.mono_l k
 unfold limelightlaw18_small.f
 repeat' first
   | (with_reducible exact ih0 _ _ _ _)
   | (with_reducible exact LeO.refl _)
   | (with_reducible exact LeO.none _)
   | (with_reducible refine LeO.ite ?_ ?_)
   | (with_reducible refine LeO.bind ?_ (fun _ => ?_))
   | exact ih0 _ _ _ _
   | exact LeO.none _
   | refine LeO.ite ?_ ?_
   | refine LeO.bind ?_ (fun _ => ?_)
set_option maxHeartbeats 8000000 in
set_option maxRecDepth 100000 in
theorem limelightlaw18_small.calls (k : Nat) (A0_0 : Option Addr) (c0_0 : Nat) (l0_0 : List (List Int)) (a0_1 : Int) (a0_2 : Bool) (r : Bool) (w : World) (hr0_0 : Kd.C (Kd.slice 3 (Kd.int .i64)) w A0_0 l0_0.length l0_0) (hc0_0 : l0_0.length ≤ c0_0) (h : limelightlaw18_small.f k l0_0 a0_1 a0_2 = some r) :
  Calls Try.prog 13 #[.agg #[.slice A0_0 l0_0.length c0_0, .int .i64 a0_1, .bool a0_2]] w fun e w' => e = .returned (.bool r) ∧ Below w.heap.size w w' := by
 have hu33 := Try.underlying33
 have HR0_0 := Aside0.mk hr0_0
 have HC0_0 := Aside0.mk hc0_0
 clear hr0_0 hc0_0
 have HB := Aside0.mk (Below.refl w.heap.size w)
 have H : (limelightlaw18_small.l0 k 0 l0_0 a0_1 a0_2) = some r := h
 clear h
 have H' := Aside0.mk H
 clear H
 go_enter Try.func13, Try.ntmps13
 go_wp2_with (first | ((with_reducible refine gate_dst (N := 1) rfl ?_); refine box_event ?hg (N := 1) ?hd (cs := #[.slice A0_0 l0_0.length c0_0, .int .i64 a0_1, .bool a0_2]) (t := 33) ?hr ?_; (case hd => rfl); (case hg => rfl); (case hr => first | (go_simp; done) | (go_simp; rfl)); intro gb204 hg w2 hbox hb; have n0_ := Aside0.mk (below_step bel_ hb); have n1_ := Aside0.mk (hbox); have n2_ := Aside0.mk ((by rw [hg]; exact (below_size bel_) : w.heap.size ≤ gb204)); have n3_ := Aside0.mk ((by rw [hg]; exact (below_size bel_) : w.heap.size ≤ gb204)); clear HB; have HB := n0_; have BK204 := n1_; have GW204 := n2_; have GE204 := n3_; clear n0_ n1_ n2_ n3_; clear hb hbox hg))
 go_loopg [3] k (fun kq v3 w' => ∃ (x3_1 : Int), v3 = .int .i64 x3_1 ∧ Aside0 (limelightlaw18_small.l0 kq x3_1 l0_0 a0_1 a0_2 = some r) ∧ Aside0 (kq ≤ k) ∧ Aside0 (w'.heap[gb204]? = some (.cells #[(.slice A0_0 l0_0.length c0_0), .int .i64 a0_1, .bool a0_2] 33 (0, 0))) ∧ Aside0 (Below w.heap.size w w'))
 case atStart => exact ⟨(0), (by first | rfl | (simp; done) | (simp [*]; done)), H', ⟨Nat.le_refl _⟩, ⟨blkx_ BK204.out⟩, ⟨belg_ GE204.out⟩⟩
 case round =>
  clear H'
  try clear c1
  try clear p2
  obtain ⟨x3_1, rfl, HA, HK1, BK204, HB⟩ := hrel
  cases gk with
  | zero => exact absurd HA.out (by simp [limelightlaw18_small.l0])
  | succ k1 =>
   have H := HA.out
   clear HA
   simp only [limelightlaw18_small.l0] at H
   by_cases c3 : x3_1 < (l0_0.length : Int)
   ·rw [if_pos c3] at H
    have c3b0 : decide (x3_1 < (l0_0.length : Int)) = true := decide_eq_true c3
    clear c3
    by_cases c4 : 0 ≤ x3_1
    ·rw [if_pos c4] at H
     have c4b0 : decide (0 ≤ x3_1) = true := decide_eq_true c4
     clear c4
     by_cases c5 : ((rd_L1 l0_0 x3_1).length : Int) > 60
     ·rw [if_pos c5] at H
      have c5b0 : decide (60 < ((rd_L1 l0_0 x3_1).length : Int)) = true := decide_eq_true c5
      have c5b1 : decide (60 < (rd_L1 l0_0 x3_1).length) = true := decide_eq_true (by omega)
      clear c5
      obtain rfl := Option.some.inj H
      have hcz6_0 : wr.cell? ⟨gb204, 0, none⟩ = some (.slice A0_0 l0_0.length c0_0) := (blk_cell BK204.out 0).trans rfl
      have hcz6_1 : wr.cell? ⟨gb204, 1, none⟩ = some (.int .i64 a0_1) := (blk_cell BK204.out 1).trans rfl
      have hcz6_2 : wr.cell? ⟨gb204, 2, none⟩ = some (.bool a0_2) := (blk_cell BK204.out 2).trans rfl
      have hfz6_0 := blk_frozen BK204.out 0
      have hfz6_1 := blk_frozen BK204.out 1
      have hfz6_2 := blk_frozen BK204.out 2
      have p205 : 0 ≤ (x3_1 : Int) := of_decide_eq_true asm_
      have q205 : x3_1 < (l0_0.length : Int) := of_decide_eq_true asm_
      obtain ⟨ad205, A205_0, c205_0, e205, hx205_0, hl205_0, hi205_0⟩ := at_L1 HR0_0.out x3_1 p205 q205
      cases e205
      replace hx205_0 := (HB.out.cell (World.block_lt_of_cell? w _ hx205_0)).trans hx205_0
      have HR205_0 := Aside0.mk hi205_0
      have HC205_0 := Aside0.mk hl205_0
      clear hi205_0 hl205_0
      replace p205 := eq_true p205
      replace q205 := eq_true q205
      go_wp2
      go_ret
      exact ⟨by first | rfl | (simp [errW_none, errW_some] <;> rfl) | (simp [*, errW_none, errW_some] <;> rfl), belg_ GE204.out⟩
     ·rw [if_neg c5] at H
      have c5b0 : decide (60 < ((rd_L1 l0_0 x3_1).length : Int)) = false := decide_eq_false c5
      have c5b1 : decide (60 < (rd_L1 l0_0 x3_1).length) = false := decide_eq_false (by omega)
      clear c5
      have H' := Aside0.mk H
      clear H
      have hcz7_0 : wr.cell? ⟨gb204, 0, none⟩ = some (.slice A0_0 l0_0.length c0_0) := (blk_cell BK204.out 0).trans rfl
      have hcz7_1 : wr.cell? ⟨gb204, 1, none⟩ = some (.int .i64 a0_1) := (blk_cell BK204.out 1).trans rfl
      have hcz7_2 : wr.cell? ⟨gb204, 2, none⟩ = some (.bool a0_2) := (blk_cell BK204.out 2).trans rfl
      have hfz7_0 := blk_frozen BK204.out 0
      have hfz7_1 := blk_frozen BK204.out 1
      have hfz7_2 := blk_frozen BK204.out 2
      have p205 : 0 ≤ (x3_1 : Int) := of_decide_eq_true asm_
      have q205 : x3_1 < (l0_0.length : Int) := of_decide_eq_true asm_
      obtain ⟨ad205, A205_0, c205_0, e205, hx205_0, hl205_0, hi205_0⟩ := at_L1 HR0_0.out x3_1 p205 q205
      cases e205
      replace hx205_0 := (HB.out.cell (World.block_lt_of_cell? w _ hx205_0)).trans hx205_0
      have HR205_0 := Aside0.mk hi205_0
      have HC205_0 := Aside0.mk hl205_0
      clear hi205_0 hl205_0
      replace p205 := eq_true p205
      replace q205 := eq_true q205
      go_wp2
      go_roundg k1
      case measure => have := HK1.out; omega
      case rel => exact ⟨(wrap64 (x3_1 + 1)), (by first | rfl | (simp; done) | (simp [*]; done)), H', ⟨by have := HK1.out; omega⟩, ⟨blkx_ BK204.out⟩, ⟨belg_ GE204.out⟩⟩
    ·rw [if_neg c4] at H
     exact absurd H (by simp)
   ·rw [if_neg c3] at H
    have c3b0 : decide (x3_1 < (l0_0.length : Int)) = false := decide_eq_false c3
    clear c3
    obtain rfl := Option.some.inj H
    have hcz8_0 : wr.cell? ⟨gb204, 0, none⟩ = some (.slice A0_0 l0_0.length c0_0) := (blk_cell BK204.out 0).trans rfl
    have hcz8_1 : wr.cell? ⟨gb204, 1, none⟩ = some (.int .i64 a0_1) := (blk_cell BK204.out 1).trans rfl
    have hcz8_2 : wr.cell? ⟨gb204, 2, none⟩ = some (.bool a0_2) := (blk_cell BK204.out 2).trans rfl
    have hfz8_0 := blk_frozen BK204.out 0
    have hfz8_1 := blk_frozen BK204.out 1
    have hfz8_2 := blk_frozen BK204.out 2
    go_wp2
    go_ret
    exact ⟨by first | rfl | (simp [errW_none, errW_some] <;> rfl) | (simp [*, errW_none, errW_some] <;> rfl), belg_ GE204.out⟩

/-! ### limelightlaw18_own: function 15 -/
def limelightlaw18_own.f (l0_0 : List (List Int)) (a0_1 : Int) (a0_2 : Bool) : Option ((List (List Int)) × Int × Bool) := some (l0_0, a0_1, a0_2)
set_option maxHeartbeats 8000000 in
set_option maxRecDepth 100000 in
theorem limelightlaw18_own.calls (P0_0_ : Nat → Prop) (A0_0 : Option Addr) (c0_0 : Nat) (l0_0 : List (List Int)) (a0_1 : Int) (a0_2 : Bool) (r1 : List (List Int)) (r2 : Int) (r3 : Bool) (w : World) (hs0_0 : Kd.V (Kd.slice 3 (Kd.int .i64)) 22 w w.heap.size (fun k_ => P0_0_ k_) (.slice A0_0 l0_0.length c0_0) l0_0) (h : limelightlaw18_own.f l0_0 a0_1 a0_2 = some (r1, r2, r3)) :
  Calls Try.prog 15 #[.agg #[.slice A0_0 l0_0.length c0_0, .int .i64 a0_1, .bool a0_2]] w fun e w' => ∃ v0_ : Value, e = .returned (.agg #[v0_, .int .i64 r2, .bool r3]) ∧ Kd.V (Kd.slice 3 (Kd.int .i64)) 22 w' w.heap.size (fun k_ => (P0_0_ k_ ∨ w.heap.size ≤ k_)) v0_ r1 ∧ Below w.heap.size w w' := by
 have hu33 := Try.underlying33
 have hu26 := Try.underlying26
 have HO0_0 := Aside0.mk (show Kd.V (Kd.slice 3 (Kd.int .i64)) 22 w w.heap.size (fun k_ => (P0_0_ k_ ∨ w.heap.size ≤ k_)) (.slice A0_0 l0_0.length c0_0) l0_0 from Kd.V_mono hs0_0 (fun k_ hk => .inl hk))
 have HB := Aside0.mk (Below.refl w.heap.size w)
 have H : (some (l0_0, a0_1, a0_2)) = some (r1, r2, r3) := h
 clear h
 simp only [Option.some.injEq, Prod.mk.injEq] at H
 obtain ⟨rfl, rfl, rfl⟩ := H
 go_enter Try.func15, Try.ntmps15
 go_wp2_with (first | ((with_reducible refine gate_dst (N := 1) rfl ?_); refine box_event ?hg (N := 1) ?hd (cs := #[.slice A0_0 l0_0.length c0_0, .int .i64 a0_1, .bool a0_2]) (t := 33) ?hr ?_; (case hd => rfl); (case hg => rfl); (case hr => first | (go_simp; done) | (go_simp; rfl)); intro gb206 hg w2 hbox hb; have n0_ := Aside0.mk (Kd.V_below (Kd.V_elderB (by (with_reducible repeat (first | apply Kd.V_alloc | apply Kd.V_drewN | apply Kd.V_drew)); exact HO0_0.out) gb206 (Nat.le_of_eq hg.symm)) hb); have n1_ := Aside0.mk (below_step bel_ hb); have n2_ := Aside0.mk (hbox); have n3_ := Aside0.mk ((by rw [hg]; exact (below_size bel_) : w.heap.size ≤ gb206)); have n4_ := Aside0.mk ((by rw [hg]; exact (below_size bel_) : w.heap.size ≤ gb206)); clear HO0_0; clear HB; have HO0_0 := n0_; have HB := n1_; have BK206 := n2_; have GW206 := n3_; have GE206 := n4_; clear n0_ n1_ n2_ n3_ n4_; clear hb hbox hg) | ((with_reducible refine gate_dst (N := 2) rfl ?_); refine box_event ?hg (N := 2) ?hd (cs := #[.slice none 0 0, .int .i64 0, .bool false]) (t := 26) ?hr ?_; (case hd => rfl); (case hg => rfl); (case hr => first | (go_simp; done) | (go_simp; rfl)); intro gb207 hg w3 hbox hb; have n0_ := Aside0.mk (Kd.V_below (Kd.V_elderB (by (with_reducible repeat (first | apply Kd.V_alloc | apply Kd.V_drewN | apply Kd.V_drew)); exact HO0_0.out) gb207 (Nat.le_of_eq hg.symm)) hb); have n1_ := Aside0.mk (blk_below (g := gb206) (o := .cells #[.slice A0_0 l0_0.length c0_0, .int .i64 a0_1, .bool a0_2] 33 (0, 0)) (blkx_ BK206.out) hb); have n2_ := Aside0.mk (below_step (belg_ GE206.out) hb); have n3_ := Aside0.mk (hbox); have n4_ := Aside0.mk ((by rw [hg]; exact (below_size (belg_ GE206.out)) : w.heap.size ≤ gb207)); have n5_ := Aside0.mk ((by rw [hg]; exact (below_size (belg_ GE206.out)) : w.heap.size ≤ gb207)); have n6_ := Aside0.mk ((by rw [hg]; exact Nat.ne_of_lt (blk_lt (g := gb206) (o := .cells #[.slice A0_0 l0_0.length c0_0, .int .i64 a0_1, .bool a0_2] 33 (0, 0)) (blkx_ BK206.out)) : gb206 ≠ gb207)); have n7_ := Aside0.mk ((by rw [hg]; exact Nat.ne_of_gt (blk_lt (g := gb206) (o := .cells #[.slice A0_0 l0_0.length c0_0, .int .i64 a0_1, .bool a0_2] 33 (0, 0)) (blkx_ BK206.out)) : gb207 ≠ gb206)); clear HO0_0; clear BK206; clear HB; have HO0_0 := n0_; have BK206 := n1_; have HB := n2_; have BK207 := n3_; have GW207 := n4_; have GE207 := n5_; have NB206_207 := n6_; have NB207_206 := n7_; clear n0_ n1_ n2_ n3_ n4_ n5_ n6_ n7_; clear hb hbox hg; have hnb4 := NB206_207.out; have hnc4 := NB207_206.out; have hcz5_0 : w3.cell? ⟨gb206, 0, none⟩ = some (.slice A0_0 l0_0.length c0_0) := (blk_cell BK206.out 0).trans rfl; have hcz5_1 : w3.cell? ⟨gb206, 1, none⟩ = some (.int .i64 a0_1) := (blk_cell BK206.out 1).trans rfl; have hcz5_2 : w3.cell? ⟨gb206, 2, none⟩ = some (.bool a0_2) := (blk_cell BK206.out 2).trans rfl; have hfz5_0 := blk_frozen BK206.out 0; have hfz5_1 := blk_frozen BK206.out 1; have hfz5_2 := blk_frozen BK206.out 2; have hcz6_0 : w3.cell? ⟨gb207, 0, none⟩ = some (.slice none 0 0) := (blk_cell BK207.out 0).trans rfl; have hcz6_1 : w3.cell? ⟨gb207, 1, none⟩ = some (.int .i64 0) := (blk_cell BK207.out 1).trans rfl; have hcz6_2 : w3.cell? ⟨gb207, 2, none⟩ = some (.bool false) := (blk_cell BK207.out 2).trans rfl; have hfz6_0 := blk_frozen BK207.out 0; have hfz6_1 := blk_frozen BK207.out 1; have hfz6_2 := blk_frozen BK207.out 2))
 refine bodyPost_ret (results_cell_row rfl _ _ gb207 26 #[.slice A0_0 l0_0.length c0_0, .int .i64 a0_1, .bool a0_2] (0, 0) _ rfl (by (with_reducible repeat (first | refine blk_drewN ?_ _ | refine blk_drew ?_ | refine blk_alloc ?_ _)); refine blk_put (cs := #[.slice A0_0 l0_0.length c0_0, .int .i64 a0_1, .bool false]) ?_ 2 _ rfl; (with_reducible repeat (first | refine blk_drewN ?_ _ | refine blk_drew ?_ | refine blk_alloc ?_ _)); refine blk_put (cs := #[.slice A0_0 l0_0.length c0_0, .int .i64 0, .bool false]) ?_ 1 _ rfl; (with_reducible repeat (first | refine blk_drewN ?_ _ | refine blk_drew ?_ | refine blk_alloc ?_ _)); refine blk_put (cs := #[.slice none 0 0, .int .i64 0, .bool false]) ?_ 0 _ rfl; (with_reducible repeat (first | refine blk_drewN ?_ _ | refine blk_drew ?_ | refine blk_alloc ?_ _)); exact BK207.out) Try.underlying26 rfl (by kernel_rfl)) rfl ?_
 exact ⟨_, by first | rfl | (simp [errW_none, errW_some] <;> rfl) | (simp [*, errW_none, errW_some] <;> rfl), by (with_reducible repeat (first | apply Kd.V_alloc | apply Kd.V_drewN | apply Kd.V_drew)); exact Kd.V_mono (Kd.V_far (p := ⟨gb207, 2, none⟩) (Kd.V_far (p := ⟨gb207, 1, none⟩) (Kd.V_far (p := ⟨gb207, 0, none⟩) (Kd.V_mono HO0_0.out (fun k_ hk => (⟨hk, hk.2⟩ : _ ∧ k_ ≠ gb207))) (fun _ hk => hk.2) (.slice A0_0 l0_0.length c0_0)) (fun _ hk => hk.2) (.int .i64 a0_1)) (fun _ hk => hk.2) (.bool a0_2)) (fun _ hk => hk.1.1.1), by repeat (first | (with_reducible first | exact HB.out | apply below_alloc | apply pw_below_drewN | apply below_drew1 | refine below_set ?_ GE206.out | refine below_set ?_ GE207.out) | exact HB.out)⟩

end Go.Proofs.Ytpklhnggbhkmiaa.P
