-- printed by wip/tools/pp.sh (a patched copy of the print's program), for this claim.
import Derived.Test.YtpklhnggbhkmiaaPx0
import Derived.Test.YtpklhnggbhkmiaaPx1
import Derived.Test.YtpklhnggbhkmiaaWT
namespace Go.Proofs.Ytpklhnggbhkmiaa.P
open Go.RowKit Go.Proofs.YtpklhnggbhkmiaaW.PrintWords Go.Proofs.YtpklhnggbhkmiaaW.PrintLast Go.Proofs.YtpklhnggbhkmiaaW.PrintMore
attribute [local go_sem] max2_int min2_int max_two min_two max_three min_three max_four min_four   -- for this text's walks alone
set_option linter.unusedVariables false
set_option linter.unusedSimpArgs false

/-! ### limelightlaw18_WatchRooms: function 5 -/
def limelightlaw18_WatchRooms.l0 : Nat → List Int → Int → List (List Int) → Int → Bool → Option (Bool)
 | 0, _, _, _, _, _ => none
 | k + 1, x0, x4, x299000, x299001, x299002 => if x4 < (x0.length : Int) then (if 0 ≤ x4 then (if (Go.bits .and .i64 (rd x0 x4) 3) = 0 then ((watch_Act.f x299000 x299001 x299002).bind fun bt301 => ((watch_Act.f bt301.1 bt301.2.1 bt301.2.2).bind fun bt306 => (if bt301.2.1 < x299001 then (none) else (if bt301.2.1 > (wrap64 (x299001 + 1)) then (none) else (if bt301.2.2 = true then (none) else (if bt306.2.1 = bt301.2.1 then (limelightlaw18_WatchRooms.l0 k x0 (wrap64 (x4 + 1)) bt301.1 bt301.2.1 bt301.2.2) else (none))))))) else (if (Go.bits .and .i64 (rd x0 x4) 3) = 1 then ((watch_Close.f x299000 x299001 x299002).bind fun bt312 => (if bt312.2.1 = (mx (wrap64 (x299001 - 1)) 1) then (if (bt312.1.length : Int) = (x299000.length : Int) then (limelightlaw18_WatchRooms.l0 k x0 (wrap64 (x4 + 1)) bt312.1 bt312.2.1 bt312.2.2.1) else (none)) else (none))) else ((watch_Open.f x299000 x299001 x299002 x4).bind fun bt321 => (if (bt321.1.length : Int) < (x299000.length : Int) then (none) else (if (bt321.1.length : Int) > (wrap64 ((x299000.length : Int) + 1)) then (none) else (if (bt321.1.length : Int) > (x299000.length : Int) then (if (x299000.length : Int) ≥ (mx x299001 1) then (none) else (if bt321.2.2 = true then (limelightlaw18_WatchRooms.l0 k x0 (wrap64 (x4 + 1)) bt321.1 bt321.2.1 bt321.2.2) else (none))) else (if bt321.2.2 = true then (limelightlaw18_WatchRooms.l0 k x0 (wrap64 (x4 + 1)) bt321.1 bt321.2.1 bt321.2.2) else (none)))))))) else (none)) else ((limelightlaw18_live.f).bind fun t299 => (some t299))
def limelightlaw18_WatchRooms.f (k : Nat) (l0 : List Int) : Option (Bool) := if (l0.length : Int) > 60 then ((limelightlaw18_live.f).bind fun t292 => (some t292)) else ((watch_New.f).bind fun bt293 => (limelightlaw18_WatchRooms.l0 k l0 0 bt293.1 bt293.2.1 bt293.2.2))
theorem limelightlaw18_WatchRooms.mono_l : ∀ k, (∀ y0 y1 y2 y3 y4, LeO (limelightlaw18_WatchRooms.l0 k y0 y1 y2 y3 y4) (limelightlaw18_WatchRooms.l0 (k + 1) y0 y1 y2 y3 y4))
 | 0 => fun _ _ _ _ _ r h => by simp [limelightlaw18_WatchRooms.l0] at h
 | k + 1 => by
  have ih0 := limelightlaw18_WatchRooms.mono_l k
  ·intro y0 y1 y2 y3 y4
   unfold limelightlaw18_WatchRooms.l0
   repeat' first
   | (with_reducible exact ih0 _ _ _ _ _)
   | (with_reducible exact LeO.refl _)
   | (with_reducible exact LeO.none _)
   | (with_reducible refine LeO.ite ?_ ?_)
   | (with_reducible refine LeO.bind ?_ (fun _ => ?_))
   | exact ih0 _ _ _ _ _
   | exact LeO.none _
   | refine LeO.ite ?_ ?_
   | refine LeO.bind ?_ (fun _ => ?_)
theorem limelightlaw18_WatchRooms.mono : ∀ a0 k, LeO (limelightlaw18_WatchRooms.f k a0) (limelightlaw18_WatchRooms.f (k + 1) a0) := by
 intro a0 k
 have ih0 := limelightlaw18_WatchRooms.mono_l k
 unfold limelightlaw18_WatchRooms.f
 repeat' first
   | (with_reducible exact ih0 _ _ _ _ _)
   | (with_reducible exact LeO.refl _)
   | (with_reducible exact LeO.none _)
   | (with_reducible refine LeO.ite ?_ ?_)
   | (with_reducible refine LeO.bind ?_ (fun _ => ?_))
   | exact ih0 _ _ _ _ _
   | exact LeO.none _
   | refine LeO.ite ?_ ?_
   | refine LeO.bind ?_ (fun _ => ?_)
set_option maxHeartbeats 8000000 in
set_option maxRecDepth 100000 in
theorem limelightlaw18_WatchRooms.calls (k : Nat) (A0 : Option Addr) (c0 : Nat) (l0 : List Int) (r : Bool) (w : World) (hr0 : Kd.C (Kd.int .i64) w A0 l0.length l0) (hc0 : l0.length ≤ c0) (h : limelightlaw18_WatchRooms.f k l0 = some r) :
  Calls Try.prog 5 #[.slice A0 l0.length c0] w fun e w' => e = .returned (.bool r) ∧ Below w.heap.size w w' := by
 have hu26 := Try.underlying26
 have HR0 := Aside0.mk hr0
 have HC0 := Aside0.mk hc0
 clear hr0 hc0
 have HB := Aside0.mk (Below.refl w.heap.size w)
 have H : (if (l0.length : Int) > 60 then ((limelightlaw18_live.f).bind fun t292 => (some t292)) else ((watch_New.f).bind fun bt293 => (limelightlaw18_WatchRooms.l0 k l0 0 bt293.1 bt293.2.1 bt293.2.2))) = some r := h
 clear h
 by_cases c2 : (l0.length : Int) > 60
 ·rw [if_pos c2] at H
  have c2b0 : decide (60 < (l0.length : Int)) = true := decide_eq_true c2
  have c2b1 : decide (60 < l0.length) = true := decide_eq_true (by omega)
  clear c2
  replace H := Option.bind_eq_some_iff.mp H
  obtain ⟨t292, A30, H⟩ := H
  replace H : (some t292) = some r := H
  have A3 := Aside0.mk A30
  clear A30
  obtain rfl := Option.some.inj H
  go_enter Try.func5, Try.ntmps5
  go_wp2_with (first | ((with_reducible refine gate_callee (f := 8) rfl ?_); refine goesL_ (some 13) rfl rfl Try.func8 (by kernel_rfl) rfl #[] rfl margs_ ?_; (with_reducible refine (limelightlaw18_live.calls  t292 _ A3.out).mono ?_); rintro e w4 ⟨rfl, hb⟩; refine ⟨_, rfl, ?_⟩; have n0_ := Aside0.mk (below_step bel_ hb); clear HB; have HB := n0_; clear n0_; (try clear hb); (try clear hb2); (try clear hk); (try clear hi)))
  go_ret
  exact ⟨by first | rfl | (simp [errW_none, errW_some] <;> rfl) | (simp [*, errW_none, errW_some] <;> rfl), bel_⟩
 ·rw [if_neg c2] at H
  have c2b0 : decide (60 < (l0.length : Int)) = false := decide_eq_false c2
  have c2b1 : decide (60 < l0.length) = false := decide_eq_false (by omega)
  clear c2
  replace H := Option.bind_eq_some_iff.mp H
  obtain ⟨⟨t293, t296, t297⟩, A50, H⟩ := H
  replace H : (limelightlaw18_WatchRooms.l0 k l0 0 t293 t296 t297) = some r := H
  have A5 := Aside0.mk A50
  clear A50
  have H' := Aside0.mk H
  clear H
  go_enter Try.func5, Try.ntmps5
  go_wp2_with (first | ((with_reducible refine gate_callee (f := 9) rfl ?_); refine goesL_ (some 14) rfl rfl Try.func9 (by kernel_rfl) rfl #[] rfl margs_ ?_; (with_reducible refine (watch_New.calls  t293 t296 t297 _ A5.out).mono ?_); rintro e w6 ⟨v294, rfl, ho0, hb⟩; refine ⟨_, rfl, ?_⟩; have n0_ := Aside0.mk (Kd.S_lower ho0 (below_size bel_)); have n1_ := Aside0.mk (below_step bel_ hb); clear HB; have HO295 := n0_; have HB := n1_; clear n0_ n1_; (try clear hb); (try clear hb2); (try clear hk); (try clear hi); (try clear ho0)) | ((with_reducible refine gate_dst (N := 3) rfl ?_); (try (refine gate_guard (by rfl) ?_; dsimp only)); refine box_event ?hg (N := 3) ?hd (cs := #[.slice none 0 0, .int .i64 0, .bool false]) (t := 26) ?hr ?_; (case hd => rfl); (case hg => rfl); (case hr => first | (go_simp; done) | (go_simp; rfl)); intro gb298 hg w7 hbox hb; have n0_ := Aside0.mk (Kd.S_below (by (with_reducible repeat (first | apply Kd.S_alloc | apply Kd.S_drewN | apply Kd.S_drew)); exact HO295.out) hb); have n1_ := Aside0.mk (below_step bel_ hb); have n2_ := Aside0.mk (hbox); have n3_ := Aside0.mk ((by rw [hg]; exact (below_size bel_) : w.heap.size ≤ gb298)); have n4_ := Aside0.mk ((by rw [hg]; exact (below_size bel_) : w.heap.size ≤ gb298)); clear HO295; clear HB; have HO295 := n0_; have HB := n1_; have BK298 := n2_; have GW298 := n3_; have GE298 := n4_; clear n0_ n1_ n2_ n3_ n4_; clear hb hbox hg; obtain ⟨Ao8, co8, eo8⟩ := Kd.S_slice HO295.out; subst eo8; have hcz9_0 : w7.cell? ⟨gb298, 0, none⟩ = some (.slice none 0 0) := (blk_cell BK298.out 0).trans rfl; have hcz9_1 : w7.cell? ⟨gb298, 1, none⟩ = some (.int .i64 0) := (blk_cell BK298.out 1).trans rfl; have hcz9_2 : w7.cell? ⟨gb298, 2, none⟩ = some (.bool false) := (blk_cell BK298.out 2).trans rfl; have hfz9_0 := blk_frozen BK298.out 0; have hfz9_1 := blk_frozen BK298.out 1; have hfz9_2 := blk_frozen BK298.out 2))
  go_loopg [4] k (fun kq v4 w' => ∃ (x4_1 : Int) (x299000_1 : List (List Int)) (x299001_1 : Int) (x299002_1 : Bool) (u299000 : Value), v4 = .int .i64 x4_1 ∧ Aside0 (limelightlaw18_WatchRooms.l0 kq l0 x4_1 x299000_1 x299001_1 x299002_1 = some r) ∧ Aside0 (kq ≤ k) ∧ Aside0 (Kd.S (Kd.slice 3 (Kd.int .i64)) 22 w' w.heap.size (fun _ => True) u299000 x299000_1) ∧ Aside0 (w'.heap[gb298]? = some (.cells #[u299000, .int .i64 x299001_1, .bool x299002_1] 26 (0, 0))) ∧ Aside0 (Below w.heap.size w w'))
  case atStart => exact ⟨(0), (t293), (t296), (t297), (.slice Ao8 t293.length co8), (by first | rfl | (simp; done) | (simp [*]; done)), H', ⟨Nat.le_refl _⟩, ⟨by (with_reducible repeat (first | apply Kd.S_alloc | apply Kd.S_drewN | apply Kd.S_drew)); exact Kd.S_mono (Kd.S_far (p := ⟨gb298, 2, none⟩) (Kd.S_far (p := ⟨gb298, 1, none⟩) (Kd.S_far (p := ⟨gb298, 0, none⟩) (Kd.S_types HO295.out BK298.out (by decide)) (fun _ hk => hk.2) (.slice Ao8 t293.length co8)) (fun _ hk => hk.2) (.int .i64 t296)) (fun _ hk => hk.2) (.bool t297)) (fun _ hk => trivial)⟩, ⟨by (with_reducible repeat (first | refine blk_drewN ?_ _ | refine blk_drew ?_ | refine blk_alloc ?_ _)); refine blk_put (cs := #[.slice Ao8 t293.length co8, .int .i64 t296, .bool false]) ?_ 2 _ rfl; (with_reducible repeat (first | refine blk_drewN ?_ _ | refine blk_drew ?_ | refine blk_alloc ?_ _)); refine blk_put (cs := #[.slice Ao8 t293.length co8, .int .i64 0, .bool false]) ?_ 1 _ rfl; (with_reducible repeat (first | refine blk_drewN ?_ _ | refine blk_drew ?_ | refine blk_alloc ?_ _)); refine blk_put (cs := #[.slice none 0 0, .int .i64 0, .bool false]) ?_ 0 _ rfl; (with_reducible repeat (first | refine blk_drewN ?_ _ | refine blk_drew ?_ | refine blk_alloc ?_ _)); exact BK298.out⟩, ⟨belg_ GE298.out⟩⟩
  case round =>
   clear H'
   try clear c2
   try clear c2b0
   try clear c2b1
   try clear p2
   try clear c5
   try clear c8
   try clear c9
   try clear hcz9_0
   try clear hcz9_1
   try clear hcz9_2
   try clear hfz9_0
   try clear hfz9_1
   try clear hfz9_2
   obtain ⟨x4_1, x299000_1, x299001_1, x299002_1, u299000, rfl, HA, HK1, HO_299000, BK298, HB⟩ := hrel
   cases gk with
   | zero => exact absurd HA.out (by simp [limelightlaw18_WatchRooms.l0])
   | succ k1 =>
    have H := HA.out
    clear HA
    simp only [limelightlaw18_WatchRooms.l0] at H
    by_cases c10 : x4_1 < (l0.length : Int)
    ·rw [if_pos c10] at H
     have c10b0 : decide (x4_1 < (l0.length : Int)) = true := decide_eq_true c10
     clear c10
     by_cases c11 : 0 ≤ x4_1
     ·rw [if_pos c11] at H
      have c11b0 : decide (0 ≤ x4_1) = true := decide_eq_true c11
      clear c11
      by_cases c12 : (Go.bits .and .i64 (rd l0 x4_1) 3) = 0
      ·rw [if_pos c12] at H
       have c12b0 : ((Go.bits .and .i64 (rd l0 x4_1) 3) == 0) = true := beq_iff_eq.mpr c12
       have c12b1 : ((Go.bits .and .i64 (rd l0 x4_1) 3) != 0) = false := bne_eq_false_iff_eq.mpr c12
       clear c12
       replace H := Option.bind_eq_some_iff.mp H
       obtain ⟨⟨t301, t304, t305⟩, A130, H⟩ := H
       replace H : ((watch_Act.f t301 t304 t305).bind fun bt306 => (if t304 < x299001_1 then (none) else (if t304 > (wrap64 (x299001_1 + 1)) then (none) else (if t305 = true then (none) else (if bt306.2.1 = t304 then (limelightlaw18_WatchRooms.l0 k1 l0 (wrap64 (x4_1 + 1)) t301 t304 t305) else (none)))))) = some r := H
       have A13 := Aside0.mk A130
       clear A130
       replace H := Option.bind_eq_some_iff.mp H
       obtain ⟨⟨t306, t309, t310⟩, A140, H⟩ := H
       replace H : (if t304 < x299001_1 then (none) else (if t304 > (wrap64 (x299001_1 + 1)) then (none) else (if t305 = true then (none) else (if t309 = t304 then (limelightlaw18_WatchRooms.l0 k1 l0 (wrap64 (x4_1 + 1)) t301 t304 t305) else (none))))) = some r := H
       have A14 := Aside0.mk A140
       clear A140
       by_cases c15 : t304 < x299001_1
       ·rw [if_pos c15] at H
        exact absurd H (by simp)
       ·rw [if_neg c15] at H
        have c15b0 : decide (t304 < x299001_1) = false := decide_eq_false c15
        clear c15
        by_cases c16 : t304 > (wrap64 (x299001_1 + 1))
        ·rw [if_pos c16] at H
         exact absurd H (by simp)
        ·rw [if_neg c16] at H
         have c16b0 : decide ((wrap64 (x299001_1 + 1)) < t304) = false := decide_eq_false c16
         clear c16
         by_cases c17 : t305 = true
         ·subst c17
          have H1 : (none) = some r := by rw [if_pos rfl] at H; exact H
          clear H
          have H := H1
          clear H1
          exact absurd H (by simp)
         ·replace c17 := Bool.eq_false_iff.mpr c17
          subst c17
          have H1 : (if t309 = t304 then (limelightlaw18_WatchRooms.l0 k1 l0 (wrap64 (x4_1 + 1)) t301 t304 false) else (none)) = some r := by rw [if_neg (show ¬ (false = true) by decide)] at H; exact H
          clear H
          have H := H1
          clear H1
          by_cases c18 : t309 = t304
          ·rw [if_pos c18] at H
           have c18b0 : (t309 == t304) = true := beq_iff_eq.mpr c18
           have c18b1 : (t309 != t304) = false := bne_eq_false_iff_eq.mpr c18
           clear c18
           have H' := Aside0.mk H
           clear H
           have hcz19_0 : wr.cell? ⟨gb298, 0, none⟩ = some (u299000) := (blk_cell BK298.out 0).trans rfl
           have hcz19_1 : wr.cell? ⟨gb298, 1, none⟩ = some (.int .i64 x299001_1) := (blk_cell BK298.out 1).trans rfl
           have hcz19_2 : wr.cell? ⟨gb298, 2, none⟩ = some (.bool x299002_1) := (blk_cell BK298.out 2).trans rfl
           have hfz19_0 := blk_frozen BK298.out 0
           have hfz19_1 := blk_frozen BK298.out 1
           have hfz19_2 := blk_frozen BK298.out 2
           obtain ⟨Ao20, co20, eo20⟩ := Kd.S_slice HO_299000.out
           subst eo20
           have p300 : 0 ≤ (x4_1 : Int) := of_decide_eq_true asm_
           have q300 : x4_1 < (l0.length : Int) := of_decide_eq_true asm_
           obtain ⟨ad300, e300, hx300_0⟩ := Kd.at_int HR0.out x4_1 p300 q300
           cases e300
           replace hx300_0 := (HB.out.cell (World.block_lt_of_cell? w _ hx300_0)).trans hx300_0
           replace p300 := eq_true p300
           replace q300 := eq_true q300
           go_wp2_with (first | ((with_reducible refine gate_callee (f := 10) rfl ?_); refine goesL_ (some 68) rfl rfl Try.func10 (by kernel_rfl) rfl #[.agg #[.slice Ao20 x299000_1.length co20, .int .i64 x299001_1, .bool x299002_1]] rfl margs_ ?_; (with_reducible refine (watch_Act.calls _ _ x299000_1 x299001_1 x299002_1 t301 t304 false _ ?side1 ?side2 A13.out).mono ?_); (case side1 => exact kcb_ ((Kd.S_reads' HO_299000.out).2.2)); (case side2 => exact (Kd.S_reads' HO_299000.out).2.1); rintro e w21 ⟨v302, rfl, ho0, hb⟩; refine ⟨_, rfl, ?_⟩; have n0_ := Aside0.mk (Kd.S_elder' (by (with_reducible repeat (first | apply Kd.S_alloc | apply Kd.S_drewN | apply Kd.S_drew)); exact HO_299000.out) (Kd.S_base ho0) hb); have n1_ := Aside0.mk (Kd.S_lower (Kd.S_new' ho0 (Kd.S_lt (by (with_reducible repeat (first | apply Kd.S_alloc | apply Kd.S_drewN | apply Kd.S_drew)); exact HO_299000.out))) (below_size (belg_ GE298.out))); have n2_ := Aside0.mk (blk_below (g := gb298) (o := .cells #[.slice Ao20 x299000_1.length co20, .int .i64 x299001_1, .bool x299002_1] 26 (0, 0)) (blkx_ BK298.out) hb); have n3_ := Aside0.mk (below_step (belg_ GE298.out) hb); clear HO_299000; clear BK298; clear HB; have HO_299000 := n0_; have HO303 := n1_; have BK298 := n2_; have HB := n3_; clear n0_ n1_ n2_ n3_; (try clear hb); (try clear hb2); (try clear hk); (try clear hi); (try clear ho0); obtain ⟨Ao22, co22, eo22⟩ := Kd.S_slice HO303.out; subst eo22; have hcz23_0 : w21.cell? ⟨gb298, 0, none⟩ = some (.slice Ao20 x299000_1.length co20) := (blk_cell BK298.out 0).trans rfl; have hcz23_1 : w21.cell? ⟨gb298, 1, none⟩ = some (.int .i64 x299001_1) := (blk_cell BK298.out 1).trans rfl; have hcz23_2 : w21.cell? ⟨gb298, 2, none⟩ = some (.bool x299002_1) := (blk_cell BK298.out 2).trans rfl; have hfz23_0 := blk_frozen BK298.out 0; have hfz23_1 := blk_frozen BK298.out 1; have hfz23_2 := blk_frozen BK298.out 2) | ((with_reducible refine gate_callee (f := 10) rfl ?_); refine goesL_ (some 70) rfl rfl Try.func10 (by kernel_rfl) rfl #[.agg #[.slice Ao22 t301.length co22, .int .i64 t304, .bool false]] rfl margs_ ?_; (with_reducible refine (watch_Act.calls _ _ t301 t304 false t306 t309 t310 _ ?side1 ?side2 A14.out).mono ?_); (case side1 => refine (Kd.S_reads' (e := 22) (base := w.heap.size) (ok := fun k_ => (True ∧ some k_ ≠ (.slice Ao20 x299000_1.length co20 : Value).ownBlock)) (n := t301.length) (c := co22) ?_).2.2; exact (by (with_reducible repeat (first | apply Kd.S_alloc | apply Kd.S_drewN | apply Kd.S_drew)); exact (Kd.S_mono (Kd.S_far (p := ⟨gb298, 2, none⟩) (Kd.S_far (p := ⟨gb298, 1, none⟩) (Kd.S_far (p := ⟨gb298, 0, none⟩) (Kd.S_types HO303.out BK298.out (by decide)) (fun _ hk => hk.2) (.slice Ao22 t301.length co22)) (fun _ hk => hk.2) (.int .i64 t304)) (fun _ hk => hk.2) (.bool false)) (fun _ h_ => h_.1)))); (case side2 => exact (Kd.S_reads' HO303.out).2.1); rintro e w24 ⟨v307, rfl, ho0, hb⟩; refine ⟨_, rfl, ?_⟩; have n0_ := Aside0.mk (Kd.S_elder' (by (with_reducible repeat (first | apply Kd.S_alloc | apply Kd.S_drewN | apply Kd.S_drew)); exact (Kd.S_mono (Kd.S_far (p := ⟨gb298, 2, none⟩) (Kd.S_far (p := ⟨gb298, 1, none⟩) (Kd.S_far (p := ⟨gb298, 0, none⟩) (Kd.S_types HO_299000.out BK298.out (by decide)) (fun _ hk => hk.2) (.slice Ao22 t301.length co22)) (fun _ hk => hk.2) (.int .i64 t304)) (fun _ hk => hk.2) (.bool false)) (fun _ h_ => h_.1))) (Kd.S_base ho0) hb); have n1_ := Aside0.mk (Kd.S_elder' (by (with_reducible repeat (first | apply Kd.S_alloc | apply Kd.S_drewN | apply Kd.S_drew)); exact (Kd.S_mono (Kd.S_far (p := ⟨gb298, 2, none⟩) (Kd.S_far (p := ⟨gb298, 1, none⟩) (Kd.S_far (p := ⟨gb298, 0, none⟩) (Kd.S_types HO303.out BK298.out (by decide)) (fun _ hk => hk.2) (.slice Ao22 t301.length co22)) (fun _ hk => hk.2) (.int .i64 t304)) (fun _ hk => hk.2) (.bool false)) (fun _ h_ => h_.1))) (Kd.S_base ho0) hb); have n2_ := Aside0.mk (Kd.S_lower (Kd.S_new' (Kd.S_new' ho0 (Kd.S_lt (by (with_reducible repeat (first | apply Kd.S_alloc | apply Kd.S_drewN | apply Kd.S_drew)); exact (Kd.S_mono (Kd.S_far (p := ⟨gb298, 2, none⟩) (Kd.S_far (p := ⟨gb298, 1, none⟩) (Kd.S_far (p := ⟨gb298, 0, none⟩) (Kd.S_types HO_299000.out BK298.out (by decide)) (fun _ hk => hk.2) (.slice Ao22 t301.length co22)) (fun _ hk => hk.2) (.int .i64 t304)) (fun _ hk => hk.2) (.bool false)) (fun _ h_ => h_.1))))) (Kd.S_lt (by (with_reducible repeat (first | apply Kd.S_alloc | apply Kd.S_drewN | apply Kd.S_drew)); exact (Kd.S_mono (Kd.S_far (p := ⟨gb298, 2, none⟩) (Kd.S_far (p := ⟨gb298, 1, none⟩) (Kd.S_far (p := ⟨gb298, 0, none⟩) (Kd.S_types HO303.out BK298.out (by decide)) (fun _ hk => hk.2) (.slice Ao22 t301.length co22)) (fun _ hk => hk.2) (.int .i64 t304)) (fun _ hk => hk.2) (.bool false)) (fun _ h_ => h_.1))))) (below_size (belg_ GE298.out))); have n3_ := Aside0.mk (blk_below (g := gb298) (o := .cells #[.slice Ao22 t301.length co22, .int .i64 t304, .bool false] 26 (0, 0)) (by (with_reducible repeat (first | refine blk_drewN ?_ _ | refine blk_drew ?_ | refine blk_alloc ?_ _)); refine blk_put (cs := #[.slice Ao22 t301.length co22, .int .i64 t304, .bool x299002_1]) ?_ 2 _ rfl; (with_reducible repeat (first | refine blk_drewN ?_ _ | refine blk_drew ?_ | refine blk_alloc ?_ _)); refine blk_put (cs := #[.slice Ao22 t301.length co22, .int .i64 x299001_1, .bool x299002_1]) ?_ 1 _ rfl; (with_reducible repeat (first | refine blk_drewN ?_ _ | refine blk_drew ?_ | refine blk_alloc ?_ _)); refine blk_put (cs := #[.slice Ao20 x299000_1.length co20, .int .i64 x299001_1, .bool x299002_1]) ?_ 0 _ rfl; (with_reducible repeat (first | refine blk_drewN ?_ _ | refine blk_drew ?_ | refine blk_alloc ?_ _)); exact BK298.out) hb); have n4_ := Aside0.mk (below_step (belg_ GE298.out) hb); clear HO_299000; clear HO303; clear BK298; clear HB; have HO_299000 := n0_; have HO303 := n1_; have HO308 := n2_; have BK298 := n3_; have HB := n4_; clear n0_ n1_ n2_ n3_ n4_; (try clear hb); (try clear hb2); (try clear hk); (try clear hi); (try clear ho0)) | ((with_reducible refine gate_dst (N := 7) rfl ?_); (try (refine gate_guard (by rfl) ?_; dsimp only)); refine box_event ?hg (N := 7) ?hd (cs := #[.slice none 0 0, .int .i64 0, .bool false]) (t := 26) ?hr ?_; (case hd => rfl); (case hg => rfl); (case hr => first | (go_simp; done) | (go_simp; rfl)); intro gb311 hg w25 hbox hb; have n0_ := Aside0.mk (Kd.S_below (by (with_reducible repeat (first | apply Kd.S_alloc | apply Kd.S_drewN | apply Kd.S_drew)); exact HO_299000.out) hb); have n1_ := Aside0.mk (Kd.S_below (by (with_reducible repeat (first | apply Kd.S_alloc | apply Kd.S_drewN | apply Kd.S_drew)); exact HO303.out) hb); have n2_ := Aside0.mk (Kd.S_below (by (with_reducible repeat (first | apply Kd.S_alloc | apply Kd.S_drewN | apply Kd.S_drew)); exact HO308.out) hb); have n3_ := Aside0.mk (blk_below (g := gb298) (o := .cells #[.slice Ao22 t301.length co22, .int .i64 t304, .bool false] 26 (0, 0)) (blkx_ BK298.out) hb); have n4_ := Aside0.mk (below_step (belg_ GE298.out) hb); have n5_ := Aside0.mk (hbox); have n6_ := Aside0.mk ((by rw [hg]; exact (below_size (belg_ GE298.out)) : w.heap.size ≤ gb311)); have n7_ := Aside0.mk ((by rw [hg]; exact (below_size (belg_ GE298.out)) : w.heap.size ≤ gb311)); have n8_ := Aside0.mk ((by rw [hg]; exact Nat.ne_of_lt (blk_lt (g := gb298) (o := .cells #[.slice Ao22 t301.length co22, .int .i64 t304, .bool false] 26 (0, 0)) (blkx_ BK298.out)) : gb298 ≠ gb311)); have n9_ := Aside0.mk ((by rw [hg]; exact Nat.ne_of_gt (blk_lt (g := gb298) (o := .cells #[.slice Ao22 t301.length co22, .int .i64 t304, .bool false] 26 (0, 0)) (blkx_ BK298.out)) : gb311 ≠ gb298)); clear HO_299000; clear HO303; clear HO308; clear BK298; clear HB; have HO_299000 := n0_; have HO303 := n1_; have HO308 := n2_; have BK298 := n3_; have HB := n4_; have BK311 := n5_; have GW311 := n6_; have GE311 := n7_; have NB298_311 := n8_; have NB311_298 := n9_; clear n0_ n1_ n2_ n3_ n4_ n5_ n6_ n7_ n8_ n9_; clear hb hbox hg; obtain ⟨Ao26, co26, eo26⟩ := Kd.S_slice HO308.out; subst eo26; have hnb27 := NB311_298.out; have hnc27 := NB298_311.out; have hcz28_0 : w25.cell? ⟨gb311, 0, none⟩ = some (.slice none 0 0) := (blk_cell BK311.out 0).trans rfl; have hcz28_1 : w25.cell? ⟨gb311, 1, none⟩ = some (.int .i64 0) := (blk_cell BK311.out 1).trans rfl; have hcz28_2 : w25.cell? ⟨gb311, 2, none⟩ = some (.bool false) := (blk_cell BK311.out 2).trans rfl; have hfz28_0 := blk_frozen BK311.out 0; have hfz28_1 := blk_frozen BK311.out 1; have hfz28_2 := blk_frozen BK311.out 2; have hcz29_0 : w25.cell? ⟨gb298, 0, none⟩ = some (.slice Ao22 t301.length co22) := (blk_cell BK298.out 0).trans rfl; have hcz29_1 : w25.cell? ⟨gb298, 1, none⟩ = some (.int .i64 t304) := (blk_cell BK298.out 1).trans rfl; have hcz29_2 : w25.cell? ⟨gb298, 2, none⟩ = some (.bool false) := (blk_cell BK298.out 2).trans rfl; have hfz29_0 := blk_frozen BK298.out 0; have hfz29_1 := blk_frozen BK298.out 1; have hfz29_2 := blk_frozen BK298.out 2))
           go_roundg k1
           case measure => have := HK1.out; omega
           case rel => exact ⟨(wrap64 (x4_1 + 1)), (t301), (t304), (false), (.slice Ao22 t301.length co22), (by first | rfl | (simp; done) | (simp [*]; done)), H', ⟨by have := HK1.out; omega⟩, ⟨by (with_reducible repeat (first | apply Kd.S_alloc | apply Kd.S_drewN | apply Kd.S_drew)); exact Kd.S_mono (Kd.S_far (p := ⟨gb311, 2, none⟩) (Kd.S_far (p := ⟨gb311, 1, none⟩) (Kd.S_far (p := ⟨gb311, 0, none⟩) (Kd.S_types HO303.out BK311.out (by decide)) (fun _ hk => hk.2) (.slice Ao26 t306.length co26)) (fun _ hk => hk.2) (.int .i64 t309)) (fun _ hk => hk.2) (.bool t310)) (fun _ hk => trivial)⟩, ⟨by (with_reducible repeat (first | refine blk_drewN ?_ _ | refine blk_drew ?_ | refine blk_alloc ?_ _)); refine blk_far ?_ NB298_311.out _; (with_reducible repeat (first | refine blk_drewN ?_ _ | refine blk_drew ?_ | refine blk_alloc ?_ _)); refine blk_far ?_ NB298_311.out _; (with_reducible repeat (first | refine blk_drewN ?_ _ | refine blk_drew ?_ | refine blk_alloc ?_ _)); refine blk_far ?_ NB298_311.out _; (with_reducible repeat (first | refine blk_drewN ?_ _ | refine blk_drew ?_ | refine blk_alloc ?_ _)); exact BK298.out⟩, ⟨by repeat (first | (with_reducible first | exact HB.out | apply below_alloc | apply pw_below_drewN | apply below_drew1 | refine below_set ?_ GE298.out | refine below_set ?_ GE311.out) | exact HB.out)⟩⟩
          ·rw [if_neg c18] at H
           exact absurd H (by simp)
      ·rw [if_neg c12] at H
       have c12b0 : ((Go.bits .and .i64 (rd l0 x4_1) 3) == 0) = false := beq_eq_false_iff_ne.mpr c12
       have c12b1 : ((Go.bits .and .i64 (rd l0 x4_1) 3) != 0) = true := bne_iff_ne.mpr c12
       by_cases c30 : (Go.bits .and .i64 (rd l0 x4_1) 3) = 1
       ·rw [if_pos c30] at H
        have c30b0 : ((Go.bits .and .i64 (rd l0 x4_1) 3) == 1) = true := beq_iff_eq.mpr c30
        have c30b1 : ((Go.bits .and .i64 (rd l0 x4_1) 3) != 1) = false := bne_eq_false_iff_eq.mpr c30
        clear c30
        replace H := Option.bind_eq_some_iff.mp H
        obtain ⟨⟨t312, t315, t316, t317⟩, A310, H⟩ := H
        replace H : (if t315 = (mx (wrap64 (x299001_1 - 1)) 1) then (if (t312.length : Int) = (x299000_1.length : Int) then (limelightlaw18_WatchRooms.l0 k1 l0 (wrap64 (x4_1 + 1)) t312 t315 t316) else (none)) else (none)) = some r := H
        have A31 := Aside0.mk A310
        clear A310
        obtain ⟨ji32, hji32⟩ : ∃ j_ : Int, (mx (wrap64 (x299001_1 - 1)) 1) = j_ := ⟨_, rfl⟩
        replace H : (if t315 = (ji32) then (if (t312.length : Int) = (x299000_1.length : Int) then (limelightlaw18_WatchRooms.l0 k1 l0 (wrap64 (x4_1 + 1)) t312 t315 t316) else (none)) else (none)) = some r := by first | (rw [hji32] at H; exact H) | (simp only [hji32] at H ⊢; exact H)
        (try rw [hji32] at A31)
        have hji32_ : (if (wrap64 (x299001_1 - 1)) < 1 then 1 else (wrap64 (x299001_1 - 1))) = ji32 := hji32
        by_cases c33 : t315 = (ji32)
        ·rw [if_pos c33] at H
         have c33b0 : (t315 == (ji32)) = true := beq_iff_eq.mpr c33
         have c33b1 : (t315 != (ji32)) = false := bne_eq_false_iff_eq.mpr c33
         clear c33
         by_cases c34 : (t312.length : Int) = (x299000_1.length : Int)
         ·rw [if_pos c34] at H
          have c34b0 : ((t312.length : Int) == (x299000_1.length : Int)) = true := beq_iff_eq.mpr c34
          have c34b1 : ((t312.length : Int) != (x299000_1.length : Int)) = false := bne_eq_false_iff_eq.mpr c34
          have c34b2 : (t312.length == x299000_1.length) = true := by first | simpa using c34 | (simp at c34 ⊢; omega)
          clear c34
          have H' := Aside0.mk H
          clear H
          have hcz35_0 : wr.cell? ⟨gb298, 0, none⟩ = some (u299000) := (blk_cell BK298.out 0).trans rfl
          have hcz35_1 : wr.cell? ⟨gb298, 1, none⟩ = some (.int .i64 x299001_1) := (blk_cell BK298.out 1).trans rfl
          have hcz35_2 : wr.cell? ⟨gb298, 2, none⟩ = some (.bool x299002_1) := (blk_cell BK298.out 2).trans rfl
          have hfz35_0 := blk_frozen BK298.out 0
          have hfz35_1 := blk_frozen BK298.out 1
          have hfz35_2 := blk_frozen BK298.out 2
          obtain ⟨Ao36, co36, eo36⟩ := Kd.S_slice HO_299000.out
          subst eo36
          have p300 : 0 ≤ (x4_1 : Int) := of_decide_eq_true asm_
          have q300 : x4_1 < (l0.length : Int) := of_decide_eq_true asm_
          obtain ⟨ad300, e300, hx300_0⟩ := Kd.at_int HR0.out x4_1 p300 q300
          cases e300
          replace hx300_0 := (HB.out.cell (World.block_lt_of_cell? w _ hx300_0)).trans hx300_0
          replace p300 := eq_true p300
          replace q300 := eq_true q300
          go_wp2_with (first | ((with_reducible refine gate_callee (f := 12) rfl ?_); refine goesL_ (some 97) rfl rfl Try.func12 (by kernel_rfl) rfl #[.agg #[.slice Ao36 x299000_1.length co36, .int .i64 x299001_1, .bool x299002_1]] rfl margs_ ?_; (with_reducible refine (watch_Close.calls _ _ x299000_1 x299001_1 x299002_1 t312 t315 t316 t317 _ ?side1 ?side2 A31.out).mono ?_); (case side1 => exact kcb_ ((Kd.S_reads' HO_299000.out).2.2)); (case side2 => exact (Kd.S_reads' HO_299000.out).2.1); rintro e w37 ⟨v313, v318, rfl, ho0, ho1, hb⟩; refine ⟨_, rfl, ?_⟩; have n0_ := Aside0.mk (Kd.S_mono (Kd.S_told (Kd.S_told (Kd.S_old (by (with_reducible repeat (first | apply Kd.S_alloc | apply Kd.S_drewN | apply Kd.S_drew)); exact HO_299000.out) hb) (Kd.S_base ho0)) (Kd.R_base ho1)) (fun _ h_ => h_.1)); have n1_ := Aside0.mk (Kd.S_lower (Kd.S_new' ho0 (Kd.S_lt (by (with_reducible repeat (first | apply Kd.S_alloc | apply Kd.S_drewN | apply Kd.S_drew)); exact HO_299000.out))) (below_size (belg_ GE298.out))); have n2_ := Aside0.mk (Kd.R_lower ho1 (below_size (belg_ GE298.out))); have n3_ := Aside0.mk (blk_below (g := gb298) (o := .cells #[.slice Ao36 x299000_1.length co36, .int .i64 x299001_1, .bool x299002_1] 26 (0, 0)) (blkx_ BK298.out) hb); have n4_ := Aside0.mk (below_step (belg_ GE298.out) hb); clear HO_299000; clear BK298; clear HB; have HO_299000 := n0_; have HO314 := n1_; have HO319 := n2_; have BK298 := n3_; have HB := n4_; clear n0_ n1_ n2_ n3_ n4_; (try clear hb); (try clear hb2); (try clear hk); (try clear hi); (try clear ho0); (try clear ho1)) | ((with_reducible refine gate_dst (N := 8) rfl ?_); (try (refine gate_guard (by rfl) ?_; dsimp only)); refine box_event ?hg (N := 8) ?hd (cs := #[.slice none 0 0, .int .i64 0, .bool false]) (t := 26) ?hr ?_; (case hd => rfl); (case hg => rfl); (case hr => first | (go_simp; done) | (go_simp; rfl)); intro gb320 hg w38 hbox hb; have n0_ := Aside0.mk (Kd.S_below (by (with_reducible repeat (first | apply Kd.S_alloc | apply Kd.S_drewN | apply Kd.S_drew)); exact HO_299000.out) hb); have n1_ := Aside0.mk (Kd.S_below (by (with_reducible repeat (first | apply Kd.S_alloc | apply Kd.S_drewN | apply Kd.S_drew)); exact HO314.out) hb); have n2_ := Aside0.mk (Kd.R_below (kra_ HO319.out) hb); have n3_ := Aside0.mk (blk_below (g := gb298) (o := .cells #[.slice Ao36 x299000_1.length co36, .int .i64 x299001_1, .bool x299002_1] 26 (0, 0)) (blkx_ BK298.out) hb); have n4_ := Aside0.mk (below_step (belg_ GE298.out) hb); have n5_ := Aside0.mk (hbox); have n6_ := Aside0.mk ((by rw [hg]; exact (below_size (belg_ GE298.out)) : w.heap.size ≤ gb320)); have n7_ := Aside0.mk ((by rw [hg]; exact (below_size (belg_ GE298.out)) : w.heap.size ≤ gb320)); have n8_ := Aside0.mk ((by rw [hg]; exact Nat.ne_of_lt (blk_lt (g := gb298) (o := .cells #[.slice Ao36 x299000_1.length co36, .int .i64 x299001_1, .bool x299002_1] 26 (0, 0)) (blkx_ BK298.out)) : gb298 ≠ gb320)); have n9_ := Aside0.mk ((by rw [hg]; exact Nat.ne_of_gt (blk_lt (g := gb298) (o := .cells #[.slice Ao36 x299000_1.length co36, .int .i64 x299001_1, .bool x299002_1] 26 (0, 0)) (blkx_ BK298.out)) : gb320 ≠ gb298)); clear HO_299000; clear HO314; clear HO319; clear BK298; clear HB; have HO_299000 := n0_; have HO314 := n1_; have HO319 := n2_; have BK298 := n3_; have HB := n4_; have BK320 := n5_; have GW320 := n6_; have GE320 := n7_; have NB298_320 := n8_; have NB320_298 := n9_; clear n0_ n1_ n2_ n3_ n4_ n5_ n6_ n7_ n8_ n9_; clear hb hbox hg; obtain ⟨Ao39, co39, eo39⟩ := Kd.S_slice HO314.out; subst eo39; have hnb40 := NB320_298.out; have hnc40 := NB298_320.out; have hcz41_0 : w38.cell? ⟨gb320, 0, none⟩ = some (.slice none 0 0) := (blk_cell BK320.out 0).trans rfl; have hcz41_1 : w38.cell? ⟨gb320, 1, none⟩ = some (.int .i64 0) := (blk_cell BK320.out 1).trans rfl; have hcz41_2 : w38.cell? ⟨gb320, 2, none⟩ = some (.bool false) := (blk_cell BK320.out 2).trans rfl; have hfz41_0 := blk_frozen BK320.out 0; have hfz41_1 := blk_frozen BK320.out 1; have hfz41_2 := blk_frozen BK320.out 2; have hcz42_0 : w38.cell? ⟨gb298, 0, none⟩ = some (.slice Ao36 x299000_1.length co36) := (blk_cell BK298.out 0).trans rfl; have hcz42_1 : w38.cell? ⟨gb298, 1, none⟩ = some (.int .i64 x299001_1) := (blk_cell BK298.out 1).trans rfl; have hcz42_2 : w38.cell? ⟨gb298, 2, none⟩ = some (.bool x299002_1) := (blk_cell BK298.out 2).trans rfl; have hfz42_0 := blk_frozen BK298.out 0; have hfz42_1 := blk_frozen BK298.out 1; have hfz42_2 := blk_frozen BK298.out 2))
          go_roundg k1
          case measure => have := HK1.out; omega
          case rel => exact ⟨(wrap64 (x4_1 + 1)), (t312), (t315), (t316), (.slice Ao39 t312.length co39), (by first | rfl | (simp; done) | (simp [*]; done)), H', ⟨by have := HK1.out; omega⟩, ⟨by (with_reducible repeat (first | apply Kd.S_alloc | apply Kd.S_drewN | apply Kd.S_drew)); exact Kd.S_mono (Kd.S_far (p := ⟨gb298, 2, none⟩) (Kd.S_far (p := ⟨gb298, 1, none⟩) (Kd.S_far (p := ⟨gb298, 0, none⟩) (Kd.S_far (p := ⟨gb320, 2, none⟩) (Kd.S_far (p := ⟨gb320, 1, none⟩) (Kd.S_far (p := ⟨gb320, 0, none⟩) (Kd.S_types (Kd.S_types HO314.out BK320.out (by decide)) BK298.out (by decide)) (fun _ hk => hk.1.2) (.slice Ao39 t312.length co39)) (fun _ hk => hk.1.2) (.int .i64 t315)) (fun _ hk => hk.1.2) (.bool t316)) (fun _ hk => hk.2) (.slice Ao39 t312.length co39)) (fun _ hk => hk.2) (.int .i64 t315)) (fun _ hk => hk.2) (.bool t316)) (fun _ hk => trivial)⟩, ⟨by (with_reducible repeat (first | refine blk_drewN ?_ _ | refine blk_drew ?_ | refine blk_alloc ?_ _)); refine blk_put (cs := #[.slice Ao39 t312.length co39, .int .i64 t315, .bool x299002_1]) ?_ 2 _ rfl; (with_reducible repeat (first | refine blk_drewN ?_ _ | refine blk_drew ?_ | refine blk_alloc ?_ _)); refine blk_put (cs := #[.slice Ao39 t312.length co39, .int .i64 x299001_1, .bool x299002_1]) ?_ 1 _ rfl; (with_reducible repeat (first | refine blk_drewN ?_ _ | refine blk_drew ?_ | refine blk_alloc ?_ _)); refine blk_put (cs := #[.slice Ao36 x299000_1.length co36, .int .i64 x299001_1, .bool x299002_1]) ?_ 0 _ rfl; (with_reducible repeat (first | refine blk_drewN ?_ _ | refine blk_drew ?_ | refine blk_alloc ?_ _)); refine blk_far ?_ NB298_320.out _; (with_reducible repeat (first | refine blk_drewN ?_ _ | refine blk_drew ?_ | refine blk_alloc ?_ _)); refine blk_far ?_ NB298_320.out _; (with_reducible repeat (first | refine blk_drewN ?_ _ | refine blk_drew ?_ | refine blk_alloc ?_ _)); refine blk_far ?_ NB298_320.out _; (with_reducible repeat (first | refine blk_drewN ?_ _ | refine blk_drew ?_ | refine blk_alloc ?_ _)); exact BK298.out⟩, ⟨by repeat (first | (with_reducible first | exact HB.out | apply below_alloc | apply pw_below_drewN | apply below_drew1 | refine below_set ?_ GE298.out | refine below_set ?_ GE320.out) | exact HB.out)⟩⟩
         ·rw [if_neg c34] at H
          exact absurd H (by simp)
        ·rw [if_neg c33] at H
         exact absurd H (by simp)
       ·rw [if_neg c30] at H
        have c30b0 : ((Go.bits .and .i64 (rd l0 x4_1) 3) == 1) = false := beq_eq_false_iff_ne.mpr c30
        have c30b1 : ((Go.bits .and .i64 (rd l0 x4_1) 3) != 1) = true := bne_iff_ne.mpr c30
        replace H := Option.bind_eq_some_iff.mp H
        obtain ⟨⟨t321, t324, t325⟩, A430, H⟩ := H
        replace H : (if (t321.length : Int) < (x299000_1.length : Int) then (none) else (if (t321.length : Int) > (wrap64 ((x299000_1.length : Int) + 1)) then (none) else (if (t321.length : Int) > (x299000_1.length : Int) then (if (x299000_1.length : Int) ≥ (mx x299001_1 1) then (none) else (if t325 = true then (limelightlaw18_WatchRooms.l0 k1 l0 (wrap64 (x4_1 + 1)) t321 t324 t325) else (none))) else (if t325 = true then (limelightlaw18_WatchRooms.l0 k1 l0 (wrap64 (x4_1 + 1)) t321 t324 t325) else (none))))) = some r := H
        have A43 := Aside0.mk A430
        clear A430
        by_cases c44 : (t321.length : Int) < (x299000_1.length : Int)
        ·rw [if_pos c44] at H
         exact absurd H (by simp)
        ·rw [if_neg c44] at H
         have c44b0 : decide ((t321.length : Int) < (x299000_1.length : Int)) = false := decide_eq_false c44
         have c44b1 : decide (t321.length < x299000_1.length) = false := decide_eq_false (fun h => c44 (Int.ofNat_lt.mpr h))
         clear c44
         by_cases c45 : (t321.length : Int) > (wrap64 ((x299000_1.length : Int) + 1))
         ·rw [if_pos c45] at H
          exact absurd H (by simp)
         ·rw [if_neg c45] at H
          have c45b0 : decide ((wrap64 ((x299000_1.length : Int) + 1)) < (t321.length : Int)) = false := decide_eq_false c45
          clear c45
          by_cases c46 : (t321.length : Int) > (x299000_1.length : Int)
          ·rw [if_pos c46] at H
           have c46b0 : decide ((x299000_1.length : Int) < (t321.length : Int)) = true := decide_eq_true c46
           have c46b1 : decide (x299000_1.length < t321.length) = true := decide_eq_true (Int.ofNat_lt.mp c46)
           clear c46
           obtain ⟨ji47, hji47⟩ : ∃ j_ : Int, (mx x299001_1 1) = j_ := ⟨_, rfl⟩
           replace H : (if (x299000_1.length : Int) ≥ (ji47) then (none) else (if t325 = true then (limelightlaw18_WatchRooms.l0 k1 l0 (wrap64 (x4_1 + 1)) t321 t324 t325) else (none))) = some r := by first | (rw [hji47] at H; exact H) | (simp only [hji47] at H ⊢; exact H)
           (try rw [hji47] at A43)
           have hji47_ : (if x299001_1 < 1 then 1 else x299001_1) = ji47 := hji47
           by_cases c48 : (x299000_1.length : Int) ≥ (ji47)
           ·rw [if_pos c48] at H
            exact absurd H (by simp)
           ·rw [if_neg c48] at H
            have c48b0 : decide ((ji47) ≤ (x299000_1.length : Int)) = false := decide_eq_false c48
            clear c48
            by_cases c49 : t325 = true
            ·subst c49
             have H1 : (limelightlaw18_WatchRooms.l0 k1 l0 (wrap64 (x4_1 + 1)) t321 t324 true) = some r := by rw [if_pos rfl] at H; exact H
             clear H
             have H := H1
             clear H1
             have H' := Aside0.mk H
             clear H
             have hcz50_0 : wr.cell? ⟨gb298, 0, none⟩ = some (u299000) := (blk_cell BK298.out 0).trans rfl
             have hcz50_1 : wr.cell? ⟨gb298, 1, none⟩ = some (.int .i64 x299001_1) := (blk_cell BK298.out 1).trans rfl
             have hcz50_2 : wr.cell? ⟨gb298, 2, none⟩ = some (.bool x299002_1) := (blk_cell BK298.out 2).trans rfl
             have hfz50_0 := blk_frozen BK298.out 0
             have hfz50_1 := blk_frozen BK298.out 1
             have hfz50_2 := blk_frozen BK298.out 2
             obtain ⟨Ao51, co51, eo51⟩ := Kd.S_slice HO_299000.out
             subst eo51
             have p300 : 0 ≤ (x4_1 : Int) := of_decide_eq_true asm_
             have q300 : x4_1 < (l0.length : Int) := of_decide_eq_true asm_
             obtain ⟨ad300, e300, hx300_0⟩ := Kd.at_int HR0.out x4_1 p300 q300
             cases e300
             replace hx300_0 := (HB.out.cell (World.block_lt_of_cell? w _ hx300_0)).trans hx300_0
             replace p300 := eq_true p300
             replace q300 := eq_true q300
             go_wp2_with (first | ((with_reducible refine gate_callee (f := 11) rfl ?_); refine goesL_ (some 33) rfl rfl Try.func11 (by kernel_rfl) rfl #[.agg #[.slice Ao51 x299000_1.length co51, .int .i64 x299001_1, .bool x299002_1], .int .i64 x4_1] rfl margs_ ?_; (with_reducible refine (watch_Open.calls _ _ x299000_1 x299001_1 x299002_1 x4_1 t321 t324 true _ ?side1 ?side2 A43.out).mono ?_); (case side1 => exact kcb_ ((Kd.S_reads' HO_299000.out).2.2)); (case side2 => exact (Kd.S_reads' HO_299000.out).2.1); rintro e w52 ⟨v322, rfl, ho0, hb⟩; refine ⟨_, rfl, ?_⟩; have n0_ := Aside0.mk (Kd.S_elder' (by (with_reducible repeat (first | apply Kd.S_alloc | apply Kd.S_drewN | apply Kd.S_drew)); exact HO_299000.out) (Kd.S_base ho0) hb); have n1_ := Aside0.mk (Kd.S_lower (Kd.S_new' ho0 (Kd.S_lt (by (with_reducible repeat (first | apply Kd.S_alloc | apply Kd.S_drewN | apply Kd.S_drew)); exact HO_299000.out))) (below_size (belg_ GE298.out))); have n2_ := Aside0.mk (blk_below (g := gb298) (o := .cells #[.slice Ao51 x299000_1.length co51, .int .i64 x299001_1, .bool x299002_1] 26 (0, 0)) (blkx_ BK298.out) hb); have n3_ := Aside0.mk (below_step (belg_ GE298.out) hb); clear HO_299000; clear BK298; clear HB; have HO_299000 := n0_; have HO323 := n1_; have BK298 := n2_; have HB := n3_; clear n0_ n1_ n2_ n3_; (try clear hb); (try clear hb2); (try clear hk); (try clear hi); (try clear ho0); obtain ⟨Ao53, co53, eo53⟩ := Kd.S_slice HO323.out; subst eo53; have hcz54_0 : w52.cell? ⟨gb298, 0, none⟩ = some (.slice Ao51 x299000_1.length co51) := (blk_cell BK298.out 0).trans rfl; have hcz54_1 : w52.cell? ⟨gb298, 1, none⟩ = some (.int .i64 x299001_1) := (blk_cell BK298.out 1).trans rfl; have hcz54_2 : w52.cell? ⟨gb298, 2, none⟩ = some (.bool x299002_1) := (blk_cell BK298.out 2).trans rfl; have hfz54_0 := blk_frozen BK298.out 0; have hfz54_1 := blk_frozen BK298.out 1; have hfz54_2 := blk_frozen BK298.out 2))
             go_roundg k1
             case measure => have := HK1.out; omega
             case rel => exact ⟨(wrap64 (x4_1 + 1)), (t321), (t324), (true), (.slice Ao53 t321.length co53), (by first | rfl | (simp; done) | (simp [*]; done)), H', ⟨by have := HK1.out; omega⟩, ⟨by (with_reducible repeat (first | apply Kd.S_alloc | apply Kd.S_drewN | apply Kd.S_drew)); exact Kd.S_mono (Kd.S_far (p := ⟨gb298, 2, none⟩) (Kd.S_far (p := ⟨gb298, 1, none⟩) (Kd.S_far (p := ⟨gb298, 0, none⟩) (Kd.S_types HO323.out BK298.out (by decide)) (fun _ hk => hk.2) (.slice Ao53 t321.length co53)) (fun _ hk => hk.2) (.int .i64 t324)) (fun _ hk => hk.2) (.bool true)) (fun _ hk => trivial)⟩, ⟨by (with_reducible repeat (first | refine blk_drewN ?_ _ | refine blk_drew ?_ | refine blk_alloc ?_ _)); refine blk_put (cs := #[.slice Ao53 t321.length co53, .int .i64 t324, .bool x299002_1]) ?_ 2 _ rfl; (with_reducible repeat (first | refine blk_drewN ?_ _ | refine blk_drew ?_ | refine blk_alloc ?_ _)); refine blk_put (cs := #[.slice Ao53 t321.length co53, .int .i64 x299001_1, .bool x299002_1]) ?_ 1 _ rfl; (with_reducible repeat (first | refine blk_drewN ?_ _ | refine blk_drew ?_ | refine blk_alloc ?_ _)); refine blk_put (cs := #[.slice Ao51 x299000_1.length co51, .int .i64 x299001_1, .bool x299002_1]) ?_ 0 _ rfl; (with_reducible repeat (first | refine blk_drewN ?_ _ | refine blk_drew ?_ | refine blk_alloc ?_ _)); exact BK298.out⟩, ⟨belg_ GE298.out⟩⟩
            ·replace c49 := Bool.eq_false_iff.mpr c49
             subst c49
             have H1 : (none) = some r := by rw [if_neg (show ¬ (false = true) by decide)] at H; exact H
             clear H
             have H := H1
             clear H1
             exact absurd H (by simp)
          ·rw [if_neg c46] at H
           have c46b0 : decide ((x299000_1.length : Int) < (t321.length : Int)) = false := decide_eq_false c46
           have c46b1 : decide (x299000_1.length < t321.length) = false := decide_eq_false (fun h => c46 (Int.ofNat_lt.mpr h))
           clear c46
           by_cases c55 : t325 = true
           ·subst c55
            have H1 : (limelightlaw18_WatchRooms.l0 k1 l0 (wrap64 (x4_1 + 1)) t321 t324 true) = some r := by rw [if_pos rfl] at H; exact H
            clear H
            have H := H1
            clear H1
            have H' := Aside0.mk H
            clear H
            have hcz56_0 : wr.cell? ⟨gb298, 0, none⟩ = some (u299000) := (blk_cell BK298.out 0).trans rfl
            have hcz56_1 : wr.cell? ⟨gb298, 1, none⟩ = some (.int .i64 x299001_1) := (blk_cell BK298.out 1).trans rfl
            have hcz56_2 : wr.cell? ⟨gb298, 2, none⟩ = some (.bool x299002_1) := (blk_cell BK298.out 2).trans rfl
            have hfz56_0 := blk_frozen BK298.out 0
            have hfz56_1 := blk_frozen BK298.out 1
            have hfz56_2 := blk_frozen BK298.out 2
            obtain ⟨Ao57, co57, eo57⟩ := Kd.S_slice HO_299000.out
            subst eo57
            have p300 : 0 ≤ (x4_1 : Int) := of_decide_eq_true asm_
            have q300 : x4_1 < (l0.length : Int) := of_decide_eq_true asm_
            obtain ⟨ad300, e300, hx300_0⟩ := Kd.at_int HR0.out x4_1 p300 q300
            cases e300
            replace hx300_0 := (HB.out.cell (World.block_lt_of_cell? w _ hx300_0)).trans hx300_0
            replace p300 := eq_true p300
            replace q300 := eq_true q300
            go_wp2_with (first | ((with_reducible refine gate_callee (f := 11) rfl ?_); refine goesL_ (some 33) rfl rfl Try.func11 (by kernel_rfl) rfl #[.agg #[.slice Ao57 x299000_1.length co57, .int .i64 x299001_1, .bool x299002_1], .int .i64 x4_1] rfl margs_ ?_; (with_reducible refine (watch_Open.calls _ _ x299000_1 x299001_1 x299002_1 x4_1 t321 t324 true _ ?side1 ?side2 A43.out).mono ?_); (case side1 => exact kcb_ ((Kd.S_reads' HO_299000.out).2.2)); (case side2 => exact (Kd.S_reads' HO_299000.out).2.1); rintro e w58 ⟨v322, rfl, ho0, hb⟩; refine ⟨_, rfl, ?_⟩; have n0_ := Aside0.mk (Kd.S_elder' (by (with_reducible repeat (first | apply Kd.S_alloc | apply Kd.S_drewN | apply Kd.S_drew)); exact HO_299000.out) (Kd.S_base ho0) hb); have n1_ := Aside0.mk (Kd.S_lower (Kd.S_new' ho0 (Kd.S_lt (by (with_reducible repeat (first | apply Kd.S_alloc | apply Kd.S_drewN | apply Kd.S_drew)); exact HO_299000.out))) (below_size (belg_ GE298.out))); have n2_ := Aside0.mk (blk_below (g := gb298) (o := .cells #[.slice Ao57 x299000_1.length co57, .int .i64 x299001_1, .bool x299002_1] 26 (0, 0)) (blkx_ BK298.out) hb); have n3_ := Aside0.mk (below_step (belg_ GE298.out) hb); clear HO_299000; clear BK298; clear HB; have HO_299000 := n0_; have HO323 := n1_; have BK298 := n2_; have HB := n3_; clear n0_ n1_ n2_ n3_; (try clear hb); (try clear hb2); (try clear hk); (try clear hi); (try clear ho0); obtain ⟨Ao59, co59, eo59⟩ := Kd.S_slice HO323.out; subst eo59; have hcz60_0 : w58.cell? ⟨gb298, 0, none⟩ = some (.slice Ao57 x299000_1.length co57) := (blk_cell BK298.out 0).trans rfl; have hcz60_1 : w58.cell? ⟨gb298, 1, none⟩ = some (.int .i64 x299001_1) := (blk_cell BK298.out 1).trans rfl; have hcz60_2 : w58.cell? ⟨gb298, 2, none⟩ = some (.bool x299002_1) := (blk_cell BK298.out 2).trans rfl; have hfz60_0 := blk_frozen BK298.out 0; have hfz60_1 := blk_frozen BK298.out 1; have hfz60_2 := blk_frozen BK298.out 2))
            go_roundg k1
            case measure => have := HK1.out; omega
            case rel => exact ⟨(wrap64 (x4_1 + 1)), (t321), (t324), (true), (.slice Ao59 t321.length co59), (by first | rfl | (simp; done) | (simp [*]; done)), H', ⟨by have := HK1.out; omega⟩, ⟨by (with_reducible repeat (first | apply Kd.S_alloc | apply Kd.S_drewN | apply Kd.S_drew)); exact Kd.S_mono (Kd.S_far (p := ⟨gb298, 2, none⟩) (Kd.S_far (p := ⟨gb298, 1, none⟩) (Kd.S_far (p := ⟨gb298, 0, none⟩) (Kd.S_types HO323.out BK298.out (by decide)) (fun _ hk => hk.2) (.slice Ao59 t321.length co59)) (fun _ hk => hk.2) (.int .i64 t324)) (fun _ hk => hk.2) (.bool true)) (fun _ hk => trivial)⟩, ⟨by (with_reducible repeat (first | refine blk_drewN ?_ _ | refine blk_drew ?_ | refine blk_alloc ?_ _)); refine blk_put (cs := #[.slice Ao59 t321.length co59, .int .i64 t324, .bool x299002_1]) ?_ 2 _ rfl; (with_reducible repeat (first | refine blk_drewN ?_ _ | refine blk_drew ?_ | refine blk_alloc ?_ _)); refine blk_put (cs := #[.slice Ao59 t321.length co59, .int .i64 x299001_1, .bool x299002_1]) ?_ 1 _ rfl; (with_reducible repeat (first | refine blk_drewN ?_ _ | refine blk_drew ?_ | refine blk_alloc ?_ _)); refine blk_put (cs := #[.slice Ao57 x299000_1.length co57, .int .i64 x299001_1, .bool x299002_1]) ?_ 0 _ rfl; (with_reducible repeat (first | refine blk_drewN ?_ _ | refine blk_drew ?_ | refine blk_alloc ?_ _)); exact BK298.out⟩, ⟨belg_ GE298.out⟩⟩
           ·replace c55 := Bool.eq_false_iff.mpr c55
            subst c55
            have H1 : (none) = some r := by rw [if_neg (show ¬ (false = true) by decide)] at H; exact H
            clear H
            have H := H1
            clear H1
            exact absurd H (by simp)
     ·rw [if_neg c11] at H
      exact absurd H (by simp)
    ·rw [if_neg c10] at H
     have c10b0 : decide (x4_1 < (l0.length : Int)) = false := decide_eq_false c10
     clear c10
     replace H := Option.bind_eq_some_iff.mp H
     obtain ⟨t299, A610, H⟩ := H
     replace H : (some t299) = some r := H
     have A61 := Aside0.mk A610
     clear A610
     obtain rfl := Option.some.inj H
     go_wp2_with (first | ((with_reducible refine gate_callee (f := 8) rfl ?_); refine goesL_ (some 114) rfl rfl Try.func8 (by kernel_rfl) rfl #[] rfl margs_ ?_; (with_reducible refine (limelightlaw18_live.calls  t299 _ A61.out).mono ?_); rintro e w62 ⟨rfl, hb⟩; refine ⟨_, rfl, ?_⟩; have n0_ := Aside0.mk (Kd.S_below (by (with_reducible repeat (first | apply Kd.S_alloc | apply Kd.S_drewN | apply Kd.S_drew)); exact HO_299000.out) hb); have n1_ := Aside0.mk (blk_below (g := gb298) (o := .cells #[u299000, .int .i64 x299001_1, .bool x299002_1] 26 (0, 0)) (blkx_ BK298.out) hb); have n2_ := Aside0.mk (below_step (belg_ GE298.out) hb); clear HO_299000; clear BK298; clear HB; have HO_299000 := n0_; have BK298 := n1_; have HB := n2_; clear n0_ n1_ n2_; (try clear hb); (try clear hb2); (try clear hk); (try clear hi)))
     go_ret
     exact ⟨by first | rfl | (simp [errW_none, errW_some] <;> rfl) | (simp [*, errW_none, errW_some] <;> rfl), belg_ GE298.out⟩

/-- THE ONE PURE STATEMENT of limelightlaw18_WatchRooms: yours. -/
def limelightlaw18_WatchRooms.Pure : Prop := ∀ (l0 : List Int), l0.length ≤ maxLen → l0.length * 8 ≤ 140737488351232 → (∀ x ∈ l0, (Lit.int .i64 x).wf = true) → ∃ k, limelightlaw18_WatchRooms.f k l0 = some true
theorem limelightlaw18_WatchRooms.walk (P : limelightlaw18_WatchRooms.Pure) (a0 : Option Addr) (len0 cap0 : Nat) (z0 : List Int) (w : World) (w0 : (a0 = none ∧ len0 = 0 ∧ cap0 = 0 ∧ z0 = []) ∨ ∃ x, a0 = some x ∧ len0 ≤ cap0 ∧ cap0 ≤ maxLen ∧ z0.length = cap0 ∧ (∀ i, i < z0.length → w.cell? (x.add i) = some (.int .i64 (z0.getD i 0))) ∧ ∀ n ∈ z0, (Lit.int .i64 n).wf = true) (y0 : len0 * 8 ≤ 140737488351232) :
  Calls Try.prog 5 #[.slice a0 len0 cap0] w fun e w' => e = .returned (.bool true) ∧ Below w.heap.size w w' := by
 obtain ⟨l0, rfl, hr0, hm0, hw0, hc0⟩ := ReadsInt.ofRowC w0
 obtain ⟨k, h⟩ := P l0 hm0 y0 hw0
 refine (limelightlaw18_WatchRooms.calls k _ _ l0 true w (Kd.C_of_reads (d := (0 : Int)) (h1 := fun _ => rfl) hr0) hc0 h).mono ?_
 rintro e w' ⟨rfl, hd⟩
 exact ⟨rfl, hd⟩

end Go.Proofs.Ytpklhnggbhkmiaa.P
