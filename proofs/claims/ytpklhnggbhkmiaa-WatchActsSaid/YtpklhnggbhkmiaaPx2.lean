-- printed by wip/tools/pp.sh (a patched copy of the print's program), for this claim.
import Derived.Test.YtpklhnggbhkmiaaPx0
import Derived.Test.YtpklhnggbhkmiaaPx1
import Derived.Test.YtpklhnggbhkmiaaWT
namespace Go.Proofs.Ytpklhnggbhkmiaa.P
open Go.RowKit Go.Proofs.YtpklhnggbhkmiaaW.PrintWords Go.Proofs.YtpklhnggbhkmiaaW.PrintLast Go.Proofs.YtpklhnggbhkmiaaW.PrintMore
attribute [local go_sem] max2_int min2_int max_two min_two max_three min_three max_four min_four   -- for this text's walks alone
set_option linter.unusedVariables false
set_option linter.unusedSimpArgs false

/-! ### limelightlaw18_WatchActs: function 3 -/
mutual
def limelightlaw18_WatchActs.l0 : Nat → List Int → Int → Bool → Int → List (List Int) → Int → Bool → Option (Bool)
 | 0, _, _, _, _, _, _, _ => none
 | k + 1, x0, x4, x5, x6, x169000, x169001, x169002 => if x6 < (x0.length : Int) then (if 0 ≤ x6 then (if (rd x0 x6) < 0 then (if x5 = true then ((watch_Act.f x169000 x169001 x169002).bind fun bt171 => (limelightlaw18_WatchActs.l0 k x0 (wrap64 (x4 + 1)) false (wrap64 (x6 + 1)) bt171.1 bt171.2.1 bt171.2.2)) else (if x4 = 0 then ((watch_Act.f x169000 x169001 x169002).bind fun bt176 => (limelightlaw18_WatchActs.l0 k x0 (wrap64 (x4 + 1)) false (wrap64 (x6 + 1)) bt176.1 bt176.2.1 bt176.2.2)) else ((watch_Act.f x169000 x169001 x169002).bind fun bt181 => (limelightlaw18_WatchActs.l0 k x0 x4 false (wrap64 (x6 + 1)) bt181.1 bt181.2.1 bt181.2.2)))) else ((watch_Open.f x169000 x169001 x169002 (rd x0 x6)).bind fun bt187 => (if (bt187.1.length : Int) > (wrap64 (x4 + 1)) then (limelightlaw18_WatchActs.j1 k x0 x4 true x6 true bt187.1 bt187.2.1 bt187.2.2) else (limelightlaw18_WatchActs.j1 k x0 x4 true x6 (decide ((bt187.1.length : Int) < 1)) bt187.1 bt187.2.1 bt187.2.2)))) else (none)) else ((limelightlaw18_live.f).bind fun t169 => (some t169))
def limelightlaw18_WatchActs.j1 : Nat → List Int → Int → Bool → Int → Bool → List (List Int) → Int → Bool → Option (Bool)
 | 0, _, _, _, _, _, _, _, _ => none
 | k + 1, x0, x4, x5, x6, x51, x169000, x169001, x169002 => if x51 = true then (none) else ((watch_Close.f x169000 x169001 x169002).bind fun bt192 => (if (bt192.2.2.2.length : Int) < 1 then (none) else (if 0 < (bt192.2.2.2.length : Int) then (if 0 ≤ x6 then (if x6 < (x0.length : Int) then (if (rd bt192.2.2.2 0) = (rd x0 x6) then (if 0 ≤ (wrap64 ((x169000.length : Int) - 1)) then (if (wrap64 ((x169000.length : Int) - 1)) < (x169000.length : Int) then (if (bt192.2.2.2.length : Int) = ((rd_L1 x169000 (wrap64 ((x169000.length : Int) - 1))).length : Int) then (limelightlaw18_WatchActs.l0 k x0 x4 x5 (wrap64 (x6 + 1)) x169000 x169001 x169002) else (none)) else (none)) else (none)) else (none)) else (none)) else (none)) else (none))))
end
def limelightlaw18_WatchActs.f (k : Nat) (l0 : List Int) : Option (Bool) := if (l0.length : Int) > 60 then ((limelightlaw18_live.f).bind fun t162 => (some t162)) else ((watch_New.f).bind fun bt163 => (limelightlaw18_WatchActs.l0 k l0 0 false 0 bt163.1 bt163.2.1 bt163.2.2))
theorem limelightlaw18_WatchActs.mono_l : ∀ k, (∀ y0 y1 y2 y3 y4 y5 y6, LeO (limelightlaw18_WatchActs.l0 k y0 y1 y2 y3 y4 y5 y6) (limelightlaw18_WatchActs.l0 (k + 1) y0 y1 y2 y3 y4 y5 y6)) ∧ (∀ y0 y1 y2 y3 y4 y5 y6 y7, LeO (limelightlaw18_WatchActs.j1 k y0 y1 y2 y3 y4 y5 y6 y7) (limelightlaw18_WatchActs.j1 (k + 1) y0 y1 y2 y3 y4 y5 y6 y7))
 | 0 => ⟨fun _ _ _ _ _ _ _ r h => by simp [limelightlaw18_WatchActs.l0] at h, fun _ _ _ _ _ _ _ _ r h => by simp [limelightlaw18_WatchActs.j1] at h⟩
 | k + 1 => by
  obtain ⟨ih0, ih1⟩ := limelightlaw18_WatchActs.mono_l k
  refine ⟨?_, ?_⟩
  ·intro y0 y1 y2 y3 y4 y5 y6
   unfold limelightlaw18_WatchActs.l0
   repeat' first
   | (with_reducible exact ih0 _ _ _ _ _ _ _)
   | (with_reducible exact ih1 _ _ _ _ _ _ _ _)
   | (with_reducible exact LeO.refl _)
   | (with_reducible exact LeO.none _)
   | (with_reducible refine LeO.ite ?_ ?_)
   | (with_reducible refine LeO.bind ?_ (fun _ => ?_))
   | exact ih0 _ _ _ _ _ _ _
   | exact ih1 _ _ _ _ _ _ _ _
   | exact LeO.none _
   | refine LeO.ite ?_ ?_
   | refine LeO.bind ?_ (fun _ => ?_)
  ·intro y0 y1 y2 y3 y4 y5 y6 y7
   unfold limelightlaw18_WatchActs.j1
   repeat' first
   | (with_reducible exact ih0 _ _ _ _ _ _ _)
   | (with_reducible exact ih1 _ _ _ _ _ _ _ _)
   | (with_reducible exact LeO.refl _)
   | (with_reducible exact LeO.none _)
   | (with_reducible refine LeO.ite ?_ ?_)
   | (with_reducible refine LeO.bind ?_ (fun _ => ?_))
   | exact ih0 _ _ _ _ _ _ _
   | exact ih1 _ _ _ _ _ _ _ _
   | exact LeO.none _
   | refine LeO.ite ?_ ?_
   | refine LeO.bind ?_ (fun _ => ?_)
theorem limelightlaw18_WatchActs.mono : ∀ a0 k, LeO (limelightlaw18_WatchActs.f k a0) (limelightlaw18_WatchActs.f (k + 1) a0) := by
 intro a0 k
 obtain ⟨ih0, ih1⟩ := limelightlaw18_WatchActs.mono_l k
 unfold limelightlaw18_WatchActs.f
 repeat' first
   | (with_reducible exact ih0 _ _ _ _ _ _ _)
   | (with_reducible exact ih1 _ _ _ _ _ _ _ _)
   | (with_reducible exact LeO.refl _)
   | (with_reducible exact LeO.none _)
   | (with_reducible refine LeO.ite ?_ ?_)
   | (with_reducible refine LeO.bind ?_ (fun _ => ?_))
   | exact ih0 _ _ _ _ _ _ _
   | exact ih1 _ _ _ _ _ _ _ _
   | exact LeO.none _
   | refine LeO.ite ?_ ?_
   | refine LeO.bind ?_ (fun _ => ?_)
def limelightlaw18_WatchActs.T19 : Bool × List (List Nat × List Nat) := (true, [([], []), ([0], [0]), ([1], [1]), ([2], [2]), ([3], [3]), ([4, 3], [3, 4]), ([5, 3], [3, 5]), ([3], [3]), ([3], [3]), ([7, 8, 3], [3, 7, 8]), ([9, 3], [3, 9]), ([6, 10, 3], [3, 6, 10]), ([3, 11], [3, 11]), ([12, 3], [12]), ([13], [13]), ([14, 13], [13, 14]), ([13], [13]), ([16, 13], [13, 16]), ([13], [13]), ([18, 13], [13, 18]), ([19, 13], [13, 19]), ([20, 13], [13, 20]), ([17, 21, 13], [13, 17, 21]), ([22, 13], [13, 22]), ([23, 13], [13, 23]), ([15, 24, 13], [13, 15, 24]), ([13, 25], [13, 25])])
def limelightlaw18_WatchActs.B19 : List Nat := [0, 1, 3, 7, 15, 31, 63, 15, 15, 399, 911, 2047, 4095, 8191, 16383, 32767, 16383, 81919, 16383, 278527, 802815, 1851391, 4145151, 8339455, 16728063, 33554431, 67108863]
theorem limelightlaw18_WatchActs.tab19 : rtab .any (opsOf Try.f3 19) = limelightlaw18_WatchActs.T19 := by kernel_rfl
theorem limelightlaw18_WatchActs.bits19 : waitsOk limelightlaw18_WatchActs.T19.2 limelightlaw18_WatchActs.B19 = true := by kernel_rfl
set_option maxHeartbeats 8000000 in
set_option maxRecDepth 100000 in
theorem limelightlaw18_WatchActs.calls (k : Nat) (A0 : Option Addr) (c0 : Nat) (l0 : List Int) (r : Bool) (w : World) (hr0 : Kd.C (Kd.int .i64) w A0 l0.length l0) (hc0 : l0.length ≤ c0) (h : limelightlaw18_WatchActs.f k l0 = some r) :
  Calls Try.prog 3 #[.slice A0 l0.length c0] w fun e w' => e = .returned (.bool r) ∧ Below w.heap.size w w' := by
 have hu26 := Try.underlying26
 have HR0 := Aside0.mk hr0
 have HC0 := Aside0.mk hc0
 clear hr0 hc0
 have HB := Aside0.mk (Below.refl w.heap.size w)
 have H : (if (l0.length : Int) > 60 then ((limelightlaw18_live.f).bind fun t162 => (some t162)) else ((watch_New.f).bind fun bt163 => (limelightlaw18_WatchActs.l0 k l0 0 false 0 bt163.1 bt163.2.1 bt163.2.2))) = some r := h
 clear h
 by_cases c2 : (l0.length : Int) > 60
 ·rw [if_pos c2] at H
  have c2b0 : decide (60 < (l0.length : Int)) = true := decide_eq_true c2
  have c2b1 : decide (60 < l0.length) = true := decide_eq_true (by omega)
  clear c2
  replace H := Option.bind_eq_some_iff.mp H
  obtain ⟨t162, A30, H⟩ := H
  replace H : (some t162) = some r := H
  have A3 := Aside0.mk A30
  clear A30
  obtain rfl := Option.some.inj H
  go_enter Try.func3, Try.ntmps3
  go_wp2_with (first | ((with_reducible refine gate_callee (f := 8) rfl ?_); refine goesL_ (some 12) rfl rfl Try.func8 (by kernel_rfl) rfl #[] rfl margs_ ?_; (with_reducible refine (limelightlaw18_live.calls  t162 _ A3.out).mono ?_); rintro e w4 ⟨rfl, hb⟩; refine ⟨_, rfl, ?_⟩; have n0_ := Aside0.mk (below_step bel_ hb); clear HB; have HB := n0_; clear n0_; (try clear hb); (try clear hb2); (try clear hk); (try clear hi)))
  go_ret
  exact ⟨by first | rfl | (simp [errW_none, errW_some] <;> rfl) | (simp [*, errW_none, errW_some] <;> rfl), bel_⟩
 ·rw [if_neg c2] at H
  have c2b0 : decide (60 < (l0.length : Int)) = false := decide_eq_false c2
  have c2b1 : decide (60 < l0.length) = false := decide_eq_false (by omega)
  clear c2
  replace H := Option.bind_eq_some_iff.mp H
  obtain ⟨⟨t163, t166, t167⟩, A50, H⟩ := H
  replace H : (limelightlaw18_WatchActs.l0 k l0 0 false 0 t163 t166 t167) = some r := H
  have A5 := Aside0.mk A50
  clear A50
  have H' := Aside0.mk H
  clear H
  go_enter Try.func3, Try.ntmps3
  go_wp2_with (first | ((with_reducible refine gate_callee (f := 9) rfl ?_); refine goesL_ (some 13) rfl rfl Try.func9 (by kernel_rfl) rfl #[] rfl margs_ ?_; (with_reducible refine (watch_New.calls  t163 t166 t167 _ A5.out).mono ?_); rintro e w6 ⟨v164, rfl, ho0, hb⟩; refine ⟨_, rfl, ?_⟩; have n0_ := Aside0.mk (Kd.S_lower ho0 (below_size bel_)); have n1_ := Aside0.mk (below_step bel_ hb); clear HB; have HO165 := n0_; have HB := n1_; clear n0_ n1_; (try clear hb); (try clear hb2); (try clear hk); (try clear hi); (try clear ho0)) | ((with_reducible refine gate_dst (N := 3) rfl ?_); (try (refine gate_guard (by rfl) ?_; dsimp only)); refine box_event ?hg (N := 3) ?hd (cs := #[.slice none 0 0, .int .i64 0, .bool false]) (t := 26) ?hr ?_; (case hd => rfl); (case hg => rfl); (case hr => first | (go_simp; done) | (go_simp; rfl)); intro gb168 hg w7 hbox hb; have n0_ := Aside0.mk (Kd.S_below (by (with_reducible repeat (first | apply Kd.S_alloc | apply Kd.S_drewN | apply Kd.S_drew)); exact HO165.out) hb); have n1_ := Aside0.mk (below_step bel_ hb); have n2_ := Aside0.mk (hbox); have n3_ := Aside0.mk ((by rw [hg]; exact (below_size bel_) : w.heap.size ≤ gb168)); have n4_ := Aside0.mk ((by rw [hg]; exact (below_size bel_) : w.heap.size ≤ gb168)); clear HO165; clear HB; have HO165 := n0_; have HB := n1_; have BK168 := n2_; have GW168 := n3_; have GE168 := n4_; clear n0_ n1_ n2_ n3_ n4_; clear hb hbox hg; obtain ⟨Ao8, co8, eo8⟩ := Kd.S_slice HO165.out; subst eo8; have hcz9_0 : w7.cell? ⟨gb168, 0, none⟩ = some (.slice none 0 0) := (blk_cell BK168.out 0).trans rfl; have hcz9_1 : w7.cell? ⟨gb168, 1, none⟩ = some (.int .i64 0) := (blk_cell BK168.out 1).trans rfl; have hcz9_2 : w7.cell? ⟨gb168, 2, none⟩ = some (.bool false) := (blk_cell BK168.out 2).trans rfl; have hfz9_0 := blk_frozen BK168.out 0; have hfz9_1 := blk_frozen BK168.out 1; have hfz9_2 := blk_frozen BK168.out 2))
  go_loopg [4, 5, 6] k (fun kq v4 v5 v6 w' => ∃ (x4_1 : Int) (x5_1 : Bool) (x6_1 : Int) (x169000_1 : List (List Int)) (x169001_1 : Int) (x169002_1 : Bool) (u169000 : Value), v4 = .int .i64 x4_1 ∧ v5 = .bool x5_1 ∧ v6 = .int .i64 x6_1 ∧ Aside0 (limelightlaw18_WatchActs.l0 kq l0 x4_1 x5_1 x6_1 x169000_1 x169001_1 x169002_1 = some r) ∧ Aside0 (kq ≤ k) ∧ Aside0 (Kd.S (Kd.slice 3 (Kd.int .i64)) 22 w' w.heap.size (fun _ => True) u169000 x169000_1) ∧ Aside0 (w'.heap[gb168]? = some (.cells #[u169000, .int .i64 x169001_1, .bool x169002_1] 26 (0, 0))) ∧ Aside0 (Below w.heap.size w w'))
  case atStart => exact ⟨(0), (false), (0), (t163), (t166), (t167), (.slice Ao8 t163.length co8), (by first | rfl | (simp; done) | (simp [*]; done)), (by first | rfl | (simp; done) | (simp [*]; done)), (by first | rfl | (simp; done) | (simp [*]; done)), H', ⟨Nat.le_refl _⟩, ⟨by (with_reducible repeat (first | apply Kd.S_alloc | apply Kd.S_drewN | apply Kd.S_drew)); exact Kd.S_mono (Kd.S_far (p := ⟨gb168, 2, none⟩) (Kd.S_far (p := ⟨gb168, 1, none⟩) (Kd.S_far (p := ⟨gb168, 0, none⟩) (Kd.S_types HO165.out BK168.out (by decide)) (fun _ hk => hk.2) (.slice Ao8 t163.length co8)) (fun _ hk => hk.2) (.int .i64 t166)) (fun _ hk => hk.2) (.bool t167)) (fun _ hk => trivial)⟩, ⟨by (with_reducible repeat (first | refine blk_drewN ?_ _ | refine blk_drew ?_ | refine blk_alloc ?_ _)); refine blk_put (cs := #[.slice Ao8 t163.length co8, .int .i64 t166, .bool false]) ?_ 2 _ rfl; (with_reducible repeat (first | refine blk_drewN ?_ _ | refine blk_drew ?_ | refine blk_alloc ?_ _)); refine blk_put (cs := #[.slice Ao8 t163.length co8, .int .i64 0, .bool false]) ?_ 1 _ rfl; (with_reducible repeat (first | refine blk_drewN ?_ _ | refine blk_drew ?_ | refine blk_alloc ?_ _)); refine blk_put (cs := #[.slice none 0 0, .int .i64 0, .bool false]) ?_ 0 _ rfl; (with_reducible repeat (first | refine blk_drewN ?_ _ | refine blk_drew ?_ | refine blk_alloc ?_ _)); exact BK168.out⟩, ⟨belg_ GE168.out⟩⟩
  case round =>
   clear H'
   try clear c2
   try clear c2b0
   try clear c2b1
   try clear p2
   try clear c3
   try clear c8
   try clear c9
   try clear hcz9_0
   try clear hcz9_1
   try clear hcz9_2
   try clear hfz9_0
   try clear hfz9_1
   try clear hfz9_2
   obtain ⟨x4_1, x5_1, x6_1, x169000_1, x169001_1, x169002_1, u169000, rfl, rfl, rfl, HA, HK1, HO_169000, BK168, HB⟩ := hrel
   cases gk with
   | zero => exact absurd HA.out (by simp [limelightlaw18_WatchActs.l0])
   | succ k1 =>
    have H := HA.out
    clear HA
    simp only [limelightlaw18_WatchActs.l0] at H
    by_cases c10 : x6_1 < (l0.length : Int)
    ·rw [if_pos c10] at H
     have c10b0 : decide (x6_1 < (l0.length : Int)) = true := decide_eq_true c10
     clear c10
     by_cases c11 : 0 ≤ x6_1
     ·rw [if_pos c11] at H
      have c11b0 : decide (0 ≤ x6_1) = true := decide_eq_true c11
      clear c11
      by_cases c12 : (rd l0 x6_1) < 0
      ·rw [if_pos c12] at H
       have c12b0 : decide ((rd l0 x6_1) < 0) = true := decide_eq_true c12
       clear c12
       by_cases c13 : x5_1 = true
       ·subst c13
        have H1 : ((watch_Act.f x169000_1 x169001_1 x169002_1).bind fun bt171 => (limelightlaw18_WatchActs.l0 k1 l0 (wrap64 (x4_1 + 1)) false (wrap64 (x6_1 + 1)) bt171.1 bt171.2.1 bt171.2.2)) = some r := by rw [if_pos rfl] at H; exact H
        clear H
        have H := H1
        clear H1
        replace H := Option.bind_eq_some_iff.mp H
        obtain ⟨⟨t171, t174, t175⟩, A140, H⟩ := H
        replace H : (limelightlaw18_WatchActs.l0 k1 l0 (wrap64 (x4_1 + 1)) false (wrap64 (x6_1 + 1)) t171 t174 t175) = some r := H
        have A14 := Aside0.mk A140
        clear A140
        have H' := Aside0.mk H
        clear H
        have p170 : 0 ≤ (x6_1 : Int) := of_decide_eq_true asm_
        have q170 : x6_1 < (l0.length : Int) := of_decide_eq_true asm_
        obtain ⟨ad170, e170, hx170_0⟩ := Kd.at_int HR0.out x6_1 p170 q170
        cases e170
        replace hx170_0 := (HB.out.cell (World.block_lt_of_cell? w _ hx170_0)).trans hx170_0
        replace p170 := eq_true p170
        replace q170 := eq_true q170
        have hcz15_0 : wr.cell? ⟨gb168, 0, none⟩ = some (u169000) := (blk_cell BK168.out 0).trans rfl
        have hcz15_1 : wr.cell? ⟨gb168, 1, none⟩ = some (.int .i64 x169001_1) := (blk_cell BK168.out 1).trans rfl
        have hcz15_2 : wr.cell? ⟨gb168, 2, none⟩ = some (.bool x169002_1) := (blk_cell BK168.out 2).trans rfl
        have hfz15_0 := blk_frozen BK168.out 0
        have hfz15_1 := blk_frozen BK168.out 1
        have hfz15_2 := blk_frozen BK168.out 2
        obtain ⟨Ao16, co16, eo16⟩ := Kd.S_slice HO_169000.out
        subst eo16
        go_wp2_with (first | ((with_reducible refine gate_callee (f := 10) rfl ?_); refine goesL_ (some 33) rfl rfl Try.func10 (by kernel_rfl) rfl #[.agg #[.slice Ao16 x169000_1.length co16, .int .i64 x169001_1, .bool x169002_1]] rfl margs_ ?_; (with_reducible refine (watch_Act.calls _ _ x169000_1 x169001_1 x169002_1 t171 t174 t175 _ ?side1 ?side2 A14.out).mono ?_); (case side1 => exact kcb_ ((Kd.S_reads' HO_169000.out).2.2)); (case side2 => exact (Kd.S_reads' HO_169000.out).2.1); rintro e w17 ⟨v172, rfl, ho0, hb⟩; refine ⟨_, rfl, ?_⟩; have n0_ := Aside0.mk (Kd.S_elder' (by (with_reducible repeat (first | apply Kd.S_alloc | apply Kd.S_drewN | apply Kd.S_drew)); exact HO_169000.out) (Kd.S_base ho0) hb); have n1_ := Aside0.mk (Kd.S_lower (Kd.S_new' ho0 (Kd.S_lt (by (with_reducible repeat (first | apply Kd.S_alloc | apply Kd.S_drewN | apply Kd.S_drew)); exact HO_169000.out))) (below_size (belg_ GE168.out))); have n2_ := Aside0.mk (blk_below (g := gb168) (o := .cells #[.slice Ao16 x169000_1.length co16, .int .i64 x169001_1, .bool x169002_1] 26 (0, 0)) (blkx_ BK168.out) hb); have n3_ := Aside0.mk (below_step (belg_ GE168.out) hb); clear HO_169000; clear BK168; clear HB; have HO_169000 := n0_; have HO173 := n1_; have BK168 := n2_; have HB := n3_; clear n0_ n1_ n2_ n3_; (try clear hb); (try clear hb2); (try clear hk); (try clear hi); (try clear ho0); obtain ⟨Ao18, co18, eo18⟩ := Kd.S_slice HO173.out; subst eo18; have hcz19_0 : w17.cell? ⟨gb168, 0, none⟩ = some (.slice Ao16 x169000_1.length co16) := (blk_cell BK168.out 0).trans rfl; have hcz19_1 : w17.cell? ⟨gb168, 1, none⟩ = some (.int .i64 x169001_1) := (blk_cell BK168.out 1).trans rfl; have hcz19_2 : w17.cell? ⟨gb168, 2, none⟩ = some (.bool x169002_1) := (blk_cell BK168.out 2).trans rfl; have hfz19_0 := blk_frozen BK168.out 0; have hfz19_1 := blk_frozen BK168.out 1; have hfz19_2 := blk_frozen BK168.out 2))
        go_roundg k1
        case measure => have := HK1.out; omega
        case rel => exact ⟨(wrap64 (x4_1 + 1)), (false), (wrap64 (x6_1 + 1)), (t171), (t174), (t175), (.slice Ao18 t171.length co18), (by first | rfl | (simp; done) | (simp [*]; done)), (by first | rfl | (simp; done) | (simp [*]; done)), (by first | rfl | (simp; done) | (simp [*]; done)), H', ⟨by have := HK1.out; omega⟩, ⟨by (with_reducible repeat (first | apply Kd.S_alloc | apply Kd.S_drewN | apply Kd.S_drew)); exact Kd.S_mono (Kd.S_far (p := ⟨gb168, 2, none⟩) (Kd.S_far (p := ⟨gb168, 1, none⟩) (Kd.S_far (p := ⟨gb168, 0, none⟩) (Kd.S_types HO173.out BK168.out (by decide)) (fun _ hk => hk.2) (.slice Ao18 t171.length co18)) (fun _ hk => hk.2) (.int .i64 t174)) (fun _ hk => hk.2) (.bool t175)) (fun _ hk => trivial)⟩, ⟨by (with_reducible repeat (first | refine blk_drewN ?_ _ | refine blk_drew ?_ | refine blk_alloc ?_ _)); refine blk_put (cs := #[.slice Ao18 t171.length co18, .int .i64 t174, .bool x169002_1]) ?_ 2 _ rfl; (with_reducible repeat (first | refine blk_drewN ?_ _ | refine blk_drew ?_ | refine blk_alloc ?_ _)); refine blk_put (cs := #[.slice Ao18 t171.length co18, .int .i64 x169001_1, .bool x169002_1]) ?_ 1 _ rfl; (with_reducible repeat (first | refine blk_drewN ?_ _ | refine blk_drew ?_ | refine blk_alloc ?_ _)); refine blk_put (cs := #[.slice Ao16 x169000_1.length co16, .int .i64 x169001_1, .bool x169002_1]) ?_ 0 _ rfl; (with_reducible repeat (first | refine blk_drewN ?_ _ | refine blk_drew ?_ | refine blk_alloc ?_ _)); exact BK168.out⟩, ⟨belg_ GE168.out⟩⟩
       ·replace c13 := Bool.eq_false_iff.mpr c13
        subst c13
        have H1 : (if x4_1 = 0 then ((watch_Act.f x169000_1 x169001_1 x169002_1).bind fun bt176 => (limelightlaw18_WatchActs.l0 k1 l0 (wrap64 (x4_1 + 1)) false (wrap64 (x6_1 + 1)) bt176.1 bt176.2.1 bt176.2.2)) else ((watch_Act.f x169000_1 x169001_1 x169002_1).bind fun bt181 => (limelightlaw18_WatchActs.l0 k1 l0 x4_1 false (wrap64 (x6_1 + 1)) bt181.1 bt181.2.1 bt181.2.2))) = some r := by rw [if_neg (show ¬ (false = true) by decide)] at H; exact H
        clear H
        have H := H1
        clear H1
        by_cases c20 : x4_1 = 0
        ·rw [if_pos c20] at H
         have c20b0 : (x4_1 == 0) = true := beq_iff_eq.mpr c20
         have c20b1 : (x4_1 != 0) = false := bne_eq_false_iff_eq.mpr c20
         clear c20
         replace H := Option.bind_eq_some_iff.mp H
         obtain ⟨⟨t176, t179, t180⟩, A210, H⟩ := H
         replace H : (limelightlaw18_WatchActs.l0 k1 l0 (wrap64 (x4_1 + 1)) false (wrap64 (x6_1 + 1)) t176 t179 t180) = some r := H
         have A21 := Aside0.mk A210
         clear A210
         have H' := Aside0.mk H
         clear H
         have p170 : 0 ≤ (x6_1 : Int) := of_decide_eq_true asm_
         have q170 : x6_1 < (l0.length : Int) := of_decide_eq_true asm_
         obtain ⟨ad170, e170, hx170_0⟩ := Kd.at_int HR0.out x6_1 p170 q170
         cases e170
         replace hx170_0 := (HB.out.cell (World.block_lt_of_cell? w _ hx170_0)).trans hx170_0
         replace p170 := eq_true p170
         replace q170 := eq_true q170
         have hcz22_0 : wr.cell? ⟨gb168, 0, none⟩ = some (u169000) := (blk_cell BK168.out 0).trans rfl
         have hcz22_1 : wr.cell? ⟨gb168, 1, none⟩ = some (.int .i64 x169001_1) := (blk_cell BK168.out 1).trans rfl
         have hcz22_2 : wr.cell? ⟨gb168, 2, none⟩ = some (.bool x169002_1) := (blk_cell BK168.out 2).trans rfl
         have hfz22_0 := blk_frozen BK168.out 0
         have hfz22_1 := blk_frozen BK168.out 1
         have hfz22_2 := blk_frozen BK168.out 2
         obtain ⟨Ao23, co23, eo23⟩ := Kd.S_slice HO_169000.out
         subst eo23
         go_wp2_with (first | ((with_reducible refine gate_callee (f := 10) rfl ?_); refine goesL_ (some 33) rfl rfl Try.func10 (by kernel_rfl) rfl #[.agg #[.slice Ao23 x169000_1.length co23, .int .i64 x169001_1, .bool x169002_1]] rfl margs_ ?_; (with_reducible refine (watch_Act.calls _ _ x169000_1 x169001_1 x169002_1 t176 t179 t180 _ ?side1 ?side2 A21.out).mono ?_); (case side1 => exact kcb_ ((Kd.S_reads' HO_169000.out).2.2)); (case side2 => exact (Kd.S_reads' HO_169000.out).2.1); rintro e w24 ⟨v177, rfl, ho0, hb⟩; refine ⟨_, rfl, ?_⟩; have n0_ := Aside0.mk (Kd.S_elder' (by (with_reducible repeat (first | apply Kd.S_alloc | apply Kd.S_drewN | apply Kd.S_drew)); exact HO_169000.out) (Kd.S_base ho0) hb); have n1_ := Aside0.mk (Kd.S_lower (Kd.S_new' ho0 (Kd.S_lt (by (with_reducible repeat (first | apply Kd.S_alloc | apply Kd.S_drewN | apply Kd.S_drew)); exact HO_169000.out))) (below_size (belg_ GE168.out))); have n2_ := Aside0.mk (blk_below (g := gb168) (o := .cells #[.slice Ao23 x169000_1.length co23, .int .i64 x169001_1, .bool x169002_1] 26 (0, 0)) (blkx_ BK168.out) hb); have n3_ := Aside0.mk (below_step (belg_ GE168.out) hb); clear HO_169000; clear BK168; clear HB; have HO_169000 := n0_; have HO178 := n1_; have BK168 := n2_; have HB := n3_; clear n0_ n1_ n2_ n3_; (try clear hb); (try clear hb2); (try clear hk); (try clear hi); (try clear ho0); obtain ⟨Ao25, co25, eo25⟩ := Kd.S_slice HO178.out; subst eo25; have hcz26_0 : w24.cell? ⟨gb168, 0, none⟩ = some (.slice Ao23 x169000_1.length co23) := (blk_cell BK168.out 0).trans rfl; have hcz26_1 : w24.cell? ⟨gb168, 1, none⟩ = some (.int .i64 x169001_1) := (blk_cell BK168.out 1).trans rfl; have hcz26_2 : w24.cell? ⟨gb168, 2, none⟩ = some (.bool x169002_1) := (blk_cell BK168.out 2).trans rfl; have hfz26_0 := blk_frozen BK168.out 0; have hfz26_1 := blk_frozen BK168.out 1; have hfz26_2 := blk_frozen BK168.out 2))
         go_roundg k1
         case measure => have := HK1.out; omega
         case rel => exact ⟨(wrap64 (x4_1 + 1)), (false), (wrap64 (x6_1 + 1)), (t176), (t179), (t180), (.slice Ao25 t176.length co25), (by first | rfl | (simp; done) | (simp [*]; done)), (by first | rfl | (simp; done) | (simp [*]; done)), (by first | rfl | (simp; done) | (simp [*]; done)), H', ⟨by have := HK1.out; omega⟩, ⟨by (with_reducible repeat (first | apply Kd.S_alloc | apply Kd.S_drewN | apply Kd.S_drew)); exact Kd.S_mono (Kd.S_far (p := ⟨gb168, 2, none⟩) (Kd.S_far (p := ⟨gb168, 1, none⟩) (Kd.S_far (p := ⟨gb168, 0, none⟩) (Kd.S_types HO178.out BK168.out (by decide)) (fun _ hk => hk.2) (.slice Ao25 t176.length co25)) (fun _ hk => hk.2) (.int .i64 t179)) (fun _ hk => hk.2) (.bool t180)) (fun _ hk => trivial)⟩, ⟨by (with_reducible repeat (first | refine blk_drewN ?_ _ | refine blk_drew ?_ | refine blk_alloc ?_ _)); refine blk_put (cs := #[.slice Ao25 t176.length co25, .int .i64 t179, .bool x169002_1]) ?_ 2 _ rfl; (with_reducible repeat (first | refine blk_drewN ?_ _ | refine blk_drew ?_ | refine blk_alloc ?_ _)); refine blk_put (cs := #[.slice Ao25 t176.length co25, .int .i64 x169001_1, .bool x169002_1]) ?_ 1 _ rfl; (with_reducible repeat (first | refine blk_drewN ?_ _ | refine blk_drew ?_ | refine blk_alloc ?_ _)); refine blk_put (cs := #[.slice Ao23 x169000_1.length co23, .int .i64 x169001_1, .bool x169002_1]) ?_ 0 _ rfl; (with_reducible repeat (first | refine blk_drewN ?_ _ | refine blk_drew ?_ | refine blk_alloc ?_ _)); exact BK168.out⟩, ⟨belg_ GE168.out⟩⟩
        ·rw [if_neg c20] at H
         have c20b0 : (x4_1 == 0) = false := beq_eq_false_iff_ne.mpr c20
         have c20b1 : (x4_1 != 0) = true := bne_iff_ne.mpr c20
         replace H := Option.bind_eq_some_iff.mp H
         obtain ⟨⟨t181, t184, t185⟩, A270, H⟩ := H
         replace H : (limelightlaw18_WatchActs.l0 k1 l0 x4_1 false (wrap64 (x6_1 + 1)) t181 t184 t185) = some r := H
         have A27 := Aside0.mk A270
         clear A270
         have H' := Aside0.mk H
         clear H
         have p170 : 0 ≤ (x6_1 : Int) := of_decide_eq_true asm_
         have q170 : x6_1 < (l0.length : Int) := of_decide_eq_true asm_
         obtain ⟨ad170, e170, hx170_0⟩ := Kd.at_int HR0.out x6_1 p170 q170
         cases e170
         replace hx170_0 := (HB.out.cell (World.block_lt_of_cell? w _ hx170_0)).trans hx170_0
         replace p170 := eq_true p170
         replace q170 := eq_true q170
         have hcz28_0 : wr.cell? ⟨gb168, 0, none⟩ = some (u169000) := (blk_cell BK168.out 0).trans rfl
         have hcz28_1 : wr.cell? ⟨gb168, 1, none⟩ = some (.int .i64 x169001_1) := (blk_cell BK168.out 1).trans rfl
         have hcz28_2 : wr.cell? ⟨gb168, 2, none⟩ = some (.bool x169002_1) := (blk_cell BK168.out 2).trans rfl
         have hfz28_0 := blk_frozen BK168.out 0
         have hfz28_1 := blk_frozen BK168.out 1
         have hfz28_2 := blk_frozen BK168.out 2
         obtain ⟨Ao29, co29, eo29⟩ := Kd.S_slice HO_169000.out
         subst eo29
         go_wp2_with (first | ((with_reducible refine gate_callee (f := 10) rfl ?_); refine goesL_ (some 33) rfl rfl Try.func10 (by kernel_rfl) rfl #[.agg #[.slice Ao29 x169000_1.length co29, .int .i64 x169001_1, .bool x169002_1]] rfl margs_ ?_; (with_reducible refine (watch_Act.calls _ _ x169000_1 x169001_1 x169002_1 t181 t184 t185 _ ?side1 ?side2 A27.out).mono ?_); (case side1 => exact kcb_ ((Kd.S_reads' HO_169000.out).2.2)); (case side2 => exact (Kd.S_reads' HO_169000.out).2.1); rintro e w30 ⟨v182, rfl, ho0, hb⟩; refine ⟨_, rfl, ?_⟩; have n0_ := Aside0.mk (Kd.S_elder' (by (with_reducible repeat (first | apply Kd.S_alloc | apply Kd.S_drewN | apply Kd.S_drew)); exact HO_169000.out) (Kd.S_base ho0) hb); have n1_ := Aside0.mk (Kd.S_lower (Kd.S_new' ho0 (Kd.S_lt (by (with_reducible repeat (first | apply Kd.S_alloc | apply Kd.S_drewN | apply Kd.S_drew)); exact HO_169000.out))) (below_size (belg_ GE168.out))); have n2_ := Aside0.mk (blk_below (g := gb168) (o := .cells #[.slice Ao29 x169000_1.length co29, .int .i64 x169001_1, .bool x169002_1] 26 (0, 0)) (blkx_ BK168.out) hb); have n3_ := Aside0.mk (below_step (belg_ GE168.out) hb); clear HO_169000; clear BK168; clear HB; have HO_169000 := n0_; have HO183 := n1_; have BK168 := n2_; have HB := n3_; clear n0_ n1_ n2_ n3_; (try clear hb); (try clear hb2); (try clear hk); (try clear hi); (try clear ho0); obtain ⟨Ao31, co31, eo31⟩ := Kd.S_slice HO183.out; subst eo31; have hcz32_0 : w30.cell? ⟨gb168, 0, none⟩ = some (.slice Ao29 x169000_1.length co29) := (blk_cell BK168.out 0).trans rfl; have hcz32_1 : w30.cell? ⟨gb168, 1, none⟩ = some (.int .i64 x169001_1) := (blk_cell BK168.out 1).trans rfl; have hcz32_2 : w30.cell? ⟨gb168, 2, none⟩ = some (.bool x169002_1) := (blk_cell BK168.out 2).trans rfl; have hfz32_0 := blk_frozen BK168.out 0; have hfz32_1 := blk_frozen BK168.out 1; have hfz32_2 := blk_frozen BK168.out 2))
         go_roundg k1
         case measure => have := HK1.out; omega
         case rel => exact ⟨(x4_1), (false), (wrap64 (x6_1 + 1)), (t181), (t184), (t185), (.slice Ao31 t181.length co31), (by first | rfl | (simp; done) | (simp [*]; done)), (by first | rfl | (simp; done) | (simp [*]; done)), (by first | rfl | (simp; done) | (simp [*]; done)), H', ⟨by have := HK1.out; omega⟩, ⟨by (with_reducible repeat (first | apply Kd.S_alloc | apply Kd.S_drewN | apply Kd.S_drew)); exact Kd.S_mono (Kd.S_far (p := ⟨gb168, 2, none⟩) (Kd.S_far (p := ⟨gb168, 1, none⟩) (Kd.S_far (p := ⟨gb168, 0, none⟩) (Kd.S_types HO183.out BK168.out (by decide)) (fun _ hk => hk.2) (.slice Ao31 t181.length co31)) (fun _ hk => hk.2) (.int .i64 t184)) (fun _ hk => hk.2) (.bool t185)) (fun _ hk => trivial)⟩, ⟨by (with_reducible repeat (first | refine blk_drewN ?_ _ | refine blk_drew ?_ | refine blk_alloc ?_ _)); refine blk_put (cs := #[.slice Ao31 t181.length co31, .int .i64 t184, .bool x169002_1]) ?_ 2 _ rfl; (with_reducible repeat (first | refine blk_drewN ?_ _ | refine blk_drew ?_ | refine blk_alloc ?_ _)); refine blk_put (cs := #[.slice Ao31 t181.length co31, .int .i64 x169001_1, .bool x169002_1]) ?_ 1 _ rfl; (with_reducible repeat (first | refine blk_drewN ?_ _ | refine blk_drew ?_ | refine blk_alloc ?_ _)); refine blk_put (cs := #[.slice Ao29 x169000_1.length co29, .int .i64 x169001_1, .bool x169002_1]) ?_ 0 _ rfl; (with_reducible repeat (first | refine blk_drewN ?_ _ | refine blk_drew ?_ | refine blk_alloc ?_ _)); exact BK168.out⟩, ⟨belg_ GE168.out⟩⟩
      ·rw [if_neg c12] at H
       have c12b0 : decide ((rd l0 x6_1) < 0) = false := decide_eq_false c12
       clear c12
       replace H := Option.bind_eq_some_iff.mp H
       obtain ⟨⟨t187, t190, t191⟩, A330, H⟩ := H
       replace H : (if (t187.length : Int) > (wrap64 (x4_1 + 1)) then (limelightlaw18_WatchActs.j1 k1 l0 x4_1 true x6_1 true t187 t190 t191) else (limelightlaw18_WatchActs.j1 k1 l0 x4_1 true x6_1 (decide ((t187.length : Int) < 1)) t187 t190 t191)) = some r := H
       have A33 := Aside0.mk A330
       clear A330
       have HC34 := Aside0.mk H
       clear H
       have p170 : 0 ≤ (x6_1 : Int) := of_decide_eq_true asm_
       have q170 : x6_1 < (l0.length : Int) := of_decide_eq_true asm_
       obtain ⟨ad170, e170, hx170_0⟩ := Kd.at_int HR0.out x6_1 p170 q170
       cases e170
       replace hx170_0 := (HB.out.cell (World.block_lt_of_cell? w _ hx170_0)).trans hx170_0
       replace p170 := eq_true p170
       replace q170 := eq_true q170
       try go_wp2
       have n0_ := Aside0.mk (Kd.S_drew HO_169000.out)
       have n1_ := Aside0.mk (blk_drew BK168.out)
       have n2_ := Aside0.mk (below_drew1 HB.out)
       clear HO_169000
       clear BK168
       clear HB
       have HO_169000 := n0_
       have BK168 := n1_
       have HB := n2_
       clear n0_ n1_ n2_
       have p186 : 0 ≤ (x6_1 : Int) := of_decide_eq_true asm_
       have q186 : x6_1 < (l0.length : Int) := of_decide_eq_true asm_
       obtain ⟨ad186, e186, hx186_0⟩ := Kd.at_int HR0.out x6_1 p186 q186
       have hw186_0 := hx186_0
       obtain rfl : ad170 = ad186 := (by injection e186)
       replace hx186_0 := (HB.out.cell (World.block_lt_of_cell? w _ hx186_0)).trans hx186_0
       replace p186 := eq_true p186
       replace q186 := eq_true q186
       obtain ⟨Ao36, co36, eo36⟩ := Kd.S_slice HO_169000.out
       (first | subst eo36 | (injection eo36 with f1_ f2_ f3_; have f4_ := f1_.symm; have f5_ := f3_.symm; clear f1_ f2_ f3_; subst f4_; subst f5_))
       refine start_ (n := 7) (S := fun w' => w'.cell? ⟨gb168, 0, none⟩ = some (.slice Ao36 x169000_1.length co36) ∧ w'.cell? ⟨gb168, 1, none⟩ = some (.int .i64 x169001_1) ∧ w'.cell? ⟨gb168, 2, none⟩ = some (.bool x169002_1) ∧ w'.cell? (ad170.add (x6_1).toNat) = some (.int .i64 (rd l0 x6_1))) (ds := [6]) #[false, false, false, false, false, false, false] (by kernel_rfl) rfl rfl ⟨(blk_cell BK168.out 0).trans rfl, (blk_cell BK168.out 1).trans rfl, (blk_cell BK168.out 2).trans rfl, ((HB.out.cell (World.block_lt_of_cell? w _ hw186_0)).trans hw186_0)⟩ (fun hHeld => ?_)
       generalize wr.drew = w35 at HO_169000 BK168 HB hx186_0 hHeld ⊢
       refine pure_ (i := 1) (N := some 35) (v := ?_) (a' := ?_) #[false, true, false, false, false, false, false] rfl rfl (by kernel_rfl) (fun _ _ _ h => h) (Or.inl ⟨by rfl, ?_⟩) ?_ ?_
       rotate_left
       ·intro w'
        go_simp
        with_reducible rfl
       rotate_left
       ·simp only [Act.put, List.setIfInBounds_toArray, List.set_cons_zero, List.set_cons_succ, i64_w, i32_w]
        rfl
       refine pure_ (i := 2) (N := some 36) (v := ?_) (a' := ?_) #[false, true, true, false, false, false, false] rfl rfl (by kernel_rfl) (fun _ _ _ h => h) (Or.inl ⟨by rfl, ?_⟩) ?_ ?_
       rotate_left
       ·intro w'
        go_simp
        with_reducible rfl
       rotate_left
       ·simp only [Act.put, List.setIfInBounds_toArray, List.set_cons_zero, List.set_cons_succ, i64_w, i32_w]
        rfl
       refine pure_ (i := 3) (N := some 37) (v := ?_) (a' := ?_) #[false, true, true, true, false, false, false] rfl rfl (by kernel_rfl) (fun _ _ _ h => h) (Or.inl ⟨by rfl, ?_⟩) ?_ ?_
       rotate_left
       ·intro w'
        go_simp
        with_reducible rfl
       rotate_left
       ·simp only [Act.put, List.setIfInBounds_toArray, List.set_cons_zero, List.set_cons_succ, i64_w, i32_w]
        rfl
       refine take_ (i := 0) (N := some 34) (v := ?_) (a' := ?_) #[true, true, true, true, false, false, false] rfl rfl (by kernel_rfl) (fun _ _ _ h => h) (Or.inl ⟨by rfl, ?_⟩) hHeld ?_ ?_
       rotate_left
       ·rintro w' ⟨s0, s1, s2, s3⟩
        go_simp
        with_reducible rfl
       rotate_left
       ·simp only [Act.put, List.setIfInBounds_toArray, List.set_cons_zero, List.set_cons_succ, i64_w, i32_w]
        rfl
       refine take_ (i := 4) (N := some 38) (v := ?_) (a' := ?_) #[true, true, true, true, true, false, false] rfl rfl (by kernel_rfl) (fun _ _ _ h => h) (Or.inl ⟨by rfl, ?_⟩) hHeld ?_ ?_
       rotate_left
       ·rintro w' ⟨s0, s1, s2, s3⟩
        go_simp
        with_reducible rfl
       rotate_left
       ·simp only [Act.put, List.setIfInBounds_toArray, List.set_cons_zero, List.set_cons_succ, i64_w, i32_w]
        rfl
       refine one_ (i := 5) (N := some 39) #[true, true, true, true, true, true, false] rfl rfl (by kernel_rfl) (by decide) (fun K hK => ?_)
       refine goes_ Try.func11 (by kernel_rfl) rfl #[.agg #[.slice Ao36 x169000_1.length co36, .int .i64 x169001_1, .bool x169002_1], .int .i64 (rd l0 x6_1)] (by rfl) rfl rfl margs_ ?_
       with_reducible refine (watch_Open.calls _ _ x169000_1 x169001_1 x169002_1 (rd l0 x6_1) t187 t190 t191 _ ?side1 ?side2 A33.out).mono ?_
       (case side1 => exact kcb_ ((Kd.S_reads' HO_169000.out).2.2))
       (case side2 => exact (Kd.S_reads' HO_169000.out).2.1)
       rintro e w37 ⟨v188, rfl, ho0, hb⟩
       refine ⟨_, rfl, ?_⟩
       have n0_ := Aside0.mk (Kd.S_elder' (by (with_reducible repeat (first | apply Kd.S_alloc | apply Kd.S_drewN | apply Kd.S_drew)); exact HO_169000.out) (Kd.S_base ho0) hb)
       have n1_ := Aside0.mk (Kd.S_lower (Kd.S_new' ho0 (Kd.S_lt (by (with_reducible repeat (first | apply Kd.S_alloc | apply Kd.S_drewN | apply Kd.S_drew)); exact HO_169000.out))) (below_size (belg_ GE168.out)))
       have n2_ := Aside0.mk (blk_below (g := gb168) (o := .cells #[.slice Ao36 x169000_1.length co36, .int .i64 x169001_1, .bool x169002_1] 26 (0, 0)) (blkx_ BK168.out) hb)
       have n3_ := Aside0.mk (below_step (belg_ GE168.out) hb)
       clear HO_169000
       clear BK168
       clear HB
       have HO_169000 := n0_
       have HO189 := n1_
       have BK168 := n2_
       have HB := n3_
       clear n0_ n1_ n2_ n3_
       (try clear hb)
       (try clear hb2)
       (try clear hk)
       (try clear hi)
       (try clear ho0)
       obtain ⟨Ao38, co38, eo38⟩ := Kd.S_slice HO189.out
       (first | subst eo38 | (injection eo38 with f1_ f2_ f3_; have f4_ := f1_.symm; have f5_ := f3_.symm; clear f1_ f2_ f3_; subst f4_; subst f5_))
       refine hK.out _ _ ⟨(blk_cell BK168.out 0).trans rfl, (blk_cell BK168.out 1).trans rfl, (blk_cell BK168.out 2).trans rfl, ((HB.out.cell (World.block_lt_of_cell? w _ hw186_0)).trans hw186_0)⟩ (fun hHeld => ?_)
       clear hK K
       refine norm_ (a' := ?_) ?_ ?_
       rotate_left
       ·show Act.put _ (some 39) _ = _
        simp only [Act.put, List.setIfInBounds_toArray, List.set_cons_zero, List.set_cons_succ, i64_w, i32_w]
        rfl
       refine last_ (i := 6) (N := none) #[true, true, true, true, true, true, true] rfl rfl (by kernel_rfl) (by decide) (fun K hK => ?_)
       have hs39 : w37.cell? ⟨gb168, 0, none⟩ = some (.slice Ao36 x169000_1.length co36) := (blk_cell BK168.out 0).trans rfl
       have hfs39 := blk_frozen BK168.out 0
       have hs40 : w37.cell? ⟨gb168, 1, none⟩ = some (.int .i64 x169001_1) := (blk_cell BK168.out 1).trans rfl
       have hfs40 := blk_frozen BK168.out 1
       have hs41 : w37.cell? ⟨gb168, 2, none⟩ = some (.bool x169002_1) := (blk_cell BK168.out 2).trans rfl
       have hfs41 := blk_frozen BK168.out 2
       refine skip_ (w1 := ?_) (by rfl) rfl ?_ ?_
       rotate_left
       ·go_simp
        rfl
       refine hK.out _ _ ?_
       clear hK K
       refine done_ (by kernel_rfl) ?_
       go_upto_region 16 with (fail)
       go_cut [51] (fun v51 wc => ∃ (kq : Nat) (x51_33 : Bool), v51 = .bool x51_33 ∧ Aside0 (limelightlaw18_WatchActs.j1 kq l0 x4_1 true x6_1 x51_33 t187 t190 t191 = some r) ∧ Aside0 (kq ≤ k1) ∧ Aside0 (Kd.S (Kd.slice 3 (Kd.int .i64)) 22 wc w.heap.size (fun _ => True) (.slice Ao38 t187.length co38) t187) ∧ Aside0 (wc.heap[gb168]? = some (.cells #[(.slice Ao38 t187.length co38), .int .i64 t190, .bool t191] 26 (0, 0))) ∧ Aside0 (Below w.heap.size w wc))
       case first =>
        have H := HC34.out
        clear HC34
        by_cases c42 : (t187.length : Int) > (wrap64 (x4_1 + 1))
        ·rw [if_pos c42] at H
         have c42b0 : decide ((wrap64 (x4_1 + 1)) < (t187.length : Int)) = true := decide_eq_true c42
         clear c42
         (first | rw [c42b0] | (simp only [i64_w, i32_w]; rw [c42b0]) | skip)
         have H' := Aside0.mk H
         clear H
         have hcz43_0 : w37.cell? ⟨gb168, 0, none⟩ = some (.slice Ao36 x169000_1.length co36) := (blk_cell BK168.out 0).trans rfl
         have hcz43_1 : w37.cell? ⟨gb168, 1, none⟩ = some (.int .i64 x169001_1) := (blk_cell BK168.out 1).trans rfl
         have hcz43_2 : w37.cell? ⟨gb168, 2, none⟩ = some (.bool x169002_1) := (blk_cell BK168.out 2).trans rfl
         have hfz43_0 := blk_frozen BK168.out 0
         have hfz43_1 := blk_frozen BK168.out 1
         have hfz43_2 := blk_frozen BK168.out 2
         go_wp2
         go_meet
         case rel => exact ⟨_, (true), (by first | rfl | (simp; done) | (simp [*]; done)), H', ⟨by have := HK1.out; first | omega | exact Nat.le_refl _⟩, ⟨by (with_reducible repeat (first | apply Kd.S_alloc | apply Kd.S_drewN | apply Kd.S_drew)); exact Kd.S_mono (Kd.S_far (p := ⟨gb168, 2, none⟩) (Kd.S_far (p := ⟨gb168, 1, none⟩) (Kd.S_far (p := ⟨gb168, 0, none⟩) (Kd.S_types HO189.out BK168.out (by decide)) (fun _ hk => hk.2) (.slice Ao38 t187.length co38)) (fun _ hk => hk.2) (.int .i64 t190)) (fun _ hk => hk.2) (.bool t191)) (fun _ hk => trivial)⟩, ⟨by (with_reducible repeat (first | refine blk_drewN ?_ _ | refine blk_drew ?_ | refine blk_alloc ?_ _)); refine blk_put (cs := #[.slice Ao38 t187.length co38, .int .i64 t190, .bool x169002_1]) ?_ 2 _ rfl; (with_reducible repeat (first | refine blk_drewN ?_ _ | refine blk_drew ?_ | refine blk_alloc ?_ _)); refine blk_put (cs := #[.slice Ao38 t187.length co38, .int .i64 x169001_1, .bool x169002_1]) ?_ 1 _ rfl; (with_reducible repeat (first | refine blk_drewN ?_ _ | refine blk_drew ?_ | refine blk_alloc ?_ _)); refine blk_put (cs := #[.slice Ao36 x169000_1.length co36, .int .i64 x169001_1, .bool x169002_1]) ?_ 0 _ rfl; (with_reducible repeat (first | refine blk_drewN ?_ _ | refine blk_drew ?_ | refine blk_alloc ?_ _)); exact BK168.out⟩, ⟨belg_ GE168.out⟩⟩
        ·rw [if_neg c42] at H
         have c42b0 : decide ((wrap64 (x4_1 + 1)) < (t187.length : Int)) = false := decide_eq_false c42
         clear c42
         (first | rw [c42b0] | (simp only [i64_w, i32_w]; rw [c42b0]) | skip)
         have H' := Aside0.mk H
         clear H
         have hcz44_0 : w37.cell? ⟨gb168, 0, none⟩ = some (.slice Ao36 x169000_1.length co36) := (blk_cell BK168.out 0).trans rfl
         have hcz44_1 : w37.cell? ⟨gb168, 1, none⟩ = some (.int .i64 x169001_1) := (blk_cell BK168.out 1).trans rfl
         have hcz44_2 : w37.cell? ⟨gb168, 2, none⟩ = some (.bool x169002_1) := (blk_cell BK168.out 2).trans rfl
         have hfz44_0 := blk_frozen BK168.out 0
         have hfz44_1 := blk_frozen BK168.out 1
         have hfz44_2 := blk_frozen BK168.out 2
         go_wp2
         go_meet
         case rel => exact ⟨_, (decide ((t187.length : Int) < 1)), (by first | rfl | (simp; done) | (simp [*]; done)), H', ⟨by have := HK1.out; first | omega | exact Nat.le_refl _⟩, ⟨by (with_reducible repeat (first | apply Kd.S_alloc | apply Kd.S_drewN | apply Kd.S_drew)); exact Kd.S_mono (Kd.S_far (p := ⟨gb168, 2, none⟩) (Kd.S_far (p := ⟨gb168, 1, none⟩) (Kd.S_far (p := ⟨gb168, 0, none⟩) (Kd.S_types HO189.out BK168.out (by decide)) (fun _ hk => hk.2) (.slice Ao38 t187.length co38)) (fun _ hk => hk.2) (.int .i64 t190)) (fun _ hk => hk.2) (.bool t191)) (fun _ hk => trivial)⟩, ⟨by (with_reducible repeat (first | refine blk_drewN ?_ _ | refine blk_drew ?_ | refine blk_alloc ?_ _)); refine blk_put (cs := #[.slice Ao38 t187.length co38, .int .i64 t190, .bool x169002_1]) ?_ 2 _ rfl; (with_reducible repeat (first | refine blk_drewN ?_ _ | refine blk_drew ?_ | refine blk_alloc ?_ _)); refine blk_put (cs := #[.slice Ao38 t187.length co38, .int .i64 x169001_1, .bool x169002_1]) ?_ 1 _ rfl; (with_reducible repeat (first | refine blk_drewN ?_ _ | refine blk_drew ?_ | refine blk_alloc ?_ _)); refine blk_put (cs := #[.slice Ao36 x169000_1.length co36, .int .i64 x169001_1, .bool x169002_1]) ?_ 0 _ rfl; (with_reducible repeat (first | refine blk_drewN ?_ _ | refine blk_drew ?_ | refine blk_alloc ?_ _)); exact BK168.out⟩, ⟨belg_ GE168.out⟩⟩
       case rest =>
        clear HC34
        try clear c1
        try clear p1
        try clear q1
        try clear hx1
        try clear c2
        try clear c2b0
        try clear c2b1
        try clear p2
        try clear c3
        try clear c4
        try clear p6
        try clear c8
        try clear c9
        try clear c10
        try clear c10b0
        try clear c11
        try clear c11b0
        try clear c12
        try clear c12b0
        try clear c13
        try clear p17
        try clear q17
        try clear hx17
        try clear p18
        try clear q18
        try clear hx18
        try clear c20
        try clear c20b0
        try clear c20b1
        try clear c42
        try clear c42b0
        try clear hcz15_0
        try clear hcz15_1
        try clear hcz15_2
        try clear hcz19_0
        try clear hcz19_1
        try clear hcz19_2
        try clear hcz22_0
        try clear hcz22_1
        try clear hcz22_2
        try clear hcz26_0
        try clear hcz26_1
        try clear hcz26_2
        try clear hcz28_0
        try clear hcz28_1
        try clear hcz28_2
        try clear hcz32_0
        try clear hcz32_1
        try clear hcz32_2
        try clear hcz43_0
        try clear hcz43_1
        try clear hcz43_2
        try clear hcz44_0
        try clear hcz44_1
        try clear hcz44_2
        try clear hcz9_0
        try clear hcz9_1
        try clear hcz9_2
        try clear hfz15_0
        try clear hfz15_1
        try clear hfz15_2
        try clear hfz19_0
        try clear hfz19_1
        try clear hfz19_2
        try clear hfz22_0
        try clear hfz22_1
        try clear hfz22_2
        try clear hfz26_0
        try clear hfz26_1
        try clear hfz26_2
        try clear hfz28_0
        try clear hfz28_1
        try clear hfz28_2
        try clear hfz32_0
        try clear hfz32_1
        try clear hfz32_2
        try clear hfz43_0
        try clear hfz43_1
        try clear hfz43_2
        try clear hfz44_0
        try clear hfz44_1
        try clear hfz44_2
        try clear hfz9_0
        try clear hfz9_1
        try clear hfz9_2
        try clear hx170_0
        try clear hx186_0
        try clear p170
        try clear p186
        try clear p2
        try clear q170
        try clear q186
        obtain ⟨kq, x51_33, rfl, HA, HJ33, HO_169000, BK168, HB⟩ := hcut
        cases kq with
        | zero => exact absurd HA.out (by simp [limelightlaw18_WatchActs.j1])
        | succ kj33 =>
         have H := HA.out
         clear HA
         simp only [limelightlaw18_WatchActs.j1] at H
         by_cases c45 : x51_33 = true
         ·subst c45
          have H1 : (none) = some r := by rw [if_pos rfl] at H; exact H
          clear H
          have H := H1
          clear H1
          exact absurd H (by simp)
         ·replace c45 := Bool.eq_false_iff.mpr c45
          subst c45
          have H1 : ((watch_Close.f t187 t190 t191).bind fun bt192 => (if (bt192.2.2.2.length : Int) < 1 then (none) else (if 0 < (bt192.2.2.2.length : Int) then (if 0 ≤ x6_1 then (if x6_1 < (l0.length : Int) then (if (rd bt192.2.2.2 0) = (rd l0 x6_1) then (if 0 ≤ (wrap64 ((t187.length : Int) - 1)) then (if (wrap64 ((t187.length : Int) - 1)) < (t187.length : Int) then (if (bt192.2.2.2.length : Int) = ((rd_L1 t187 (wrap64 ((t187.length : Int) - 1))).length : Int) then (limelightlaw18_WatchActs.l0 kj33 l0 x4_1 true (wrap64 (x6_1 + 1)) t187 t190 t191) else (none)) else (none)) else (none)) else (none)) else (none)) else (none)) else (none)))) = some r := by rw [if_neg (show ¬ (false = true) by decide)] at H; exact H
          clear H
          have H := H1
          clear H1
          replace H := Option.bind_eq_some_iff.mp H
          obtain ⟨⟨t192, t195, t196, t197⟩, A460, H⟩ := H
          replace H : (if (t197.length : Int) < 1 then (none) else (if 0 < (t197.length : Int) then (if 0 ≤ x6_1 then (if x6_1 < (l0.length : Int) then (if (rd t197 0) = (rd l0 x6_1) then (if 0 ≤ (wrap64 ((t187.length : Int) - 1)) then (if (wrap64 ((t187.length : Int) - 1)) < (t187.length : Int) then (if (t197.length : Int) = ((rd_L1 t187 (wrap64 ((t187.length : Int) - 1))).length : Int) then (limelightlaw18_WatchActs.l0 kj33 l0 x4_1 true (wrap64 (x6_1 + 1)) t187 t190 t191) else (none)) else (none)) else (none)) else (none)) else (none)) else (none)) else (none))) = some r := H
          have A46 := Aside0.mk A460
          clear A460
          by_cases c47 : (t197.length : Int) < 1
          ·rw [if_pos c47] at H
           have c47b0 : decide ((t197.length : Int) < 1) = true := decide_eq_true c47
           have c47b1 : decide (t197.length < 1) = true := decide_eq_true (by omega)
           clear c47
           exact absurd H (by simp)
          ·rw [if_neg c47] at H
           have c47b0 : decide ((t197.length : Int) < 1) = false := decide_eq_false c47
           have c47b1 : decide (t197.length < 1) = false := decide_eq_false (by omega)
           clear c47
           by_cases c48 : 0 < (t197.length : Int)
           ·rw [if_pos c48] at H
            have c48b0 : decide (0 < (t197.length : Int)) = true := decide_eq_true c48
            have c48b1 : decide (0 < t197.length) = true := decide_eq_true (by omega)
            clear c48
            by_cases c49 : 0 ≤ x6_1
            ·rw [if_pos c49] at H
             have c49b0 : decide (0 ≤ x6_1) = true := decide_eq_true c49
             clear c49
             by_cases c50 : x6_1 < (l0.length : Int)
             ·rw [if_pos c50] at H
              have c50b0 : decide (x6_1 < (l0.length : Int)) = true := decide_eq_true c50
              clear c50
              by_cases c51 : (rd t197 0) = (rd l0 x6_1)
              ·rw [if_pos c51] at H
               have c51b0 : ((rd t197 0) == (rd l0 x6_1)) = true := beq_iff_eq.mpr c51
               have c51b1 : ((rd t197 0) != (rd l0 x6_1)) = false := bne_eq_false_iff_eq.mpr c51
               clear c51
               obtain ⟨ji52, hji52⟩ : ∃ j_ : Int, (wrap64 ((t187.length : Int) - 1)) = j_ := ⟨_, rfl⟩
               replace H : (if 0 ≤ (ji52) then (if (ji52) < (t187.length : Int) then (if (t197.length : Int) = ((rd_L1 t187 (ji52)).length : Int) then (limelightlaw18_WatchActs.l0 kj33 l0 x4_1 true (wrap64 (x6_1 + 1)) t187 t190 t191) else (none)) else (none)) else (none)) = some r := by first | (rw [hji52] at H; exact H) | (simp only [hji52] at H ⊢; exact H)
               (try rw [hji52] at A46)
               have hji52w : (IntKind.i64.wrap ((t187.length : Int) - 1)) = ji52 := (i64_w _).trans hji52
               by_cases c53 : 0 ≤ (ji52)
               ·rw [if_pos c53] at H
                have c53b0 : decide (0 ≤ (ji52)) = true := decide_eq_true c53
                clear c53
                by_cases c54 : (ji52) < (t187.length : Int)
                ·rw [if_pos c54] at H
                 have c54b0 : decide ((ji52) < (t187.length : Int)) = true := decide_eq_true c54
                 clear c54
                 by_cases c55 : (t197.length : Int) = ((rd_L1 t187 (ji52)).length : Int)
                 ·rw [if_pos c55] at H
                  have c55b0 : ((t197.length : Int) == ((rd_L1 t187 (ji52)).length : Int)) = true := beq_iff_eq.mpr c55
                  have c55b1 : ((t197.length : Int) != ((rd_L1 t187 (ji52)).length : Int)) = false := bne_eq_false_iff_eq.mpr c55
                  have c55b2 : (t197.length == (rd_L1 t187 (ji52)).length) = true := by first | simpa using c55 | (simp at c55 ⊢; omega)
                  clear c55
                  have H' := Aside0.mk H
                  clear H
                  have hcz56_0 : wc.cell? ⟨gb168, 0, none⟩ = some (.slice Ao38 t187.length co38) := (blk_cell BK168.out 0).trans rfl
                  have hcz56_1 : wc.cell? ⟨gb168, 1, none⟩ = some (.int .i64 t190) := (blk_cell BK168.out 1).trans rfl
                  have hcz56_2 : wc.cell? ⟨gb168, 2, none⟩ = some (.bool t191) := (blk_cell BK168.out 2).trans rfl
                  have hfz56_0 := blk_frozen BK168.out 0
                  have hfz56_1 := blk_frozen BK168.out 1
                  have hfz56_2 := blk_frozen BK168.out 2
                  try go_wp2_with (first | ((with_reducible refine gate_callee (f := 12) rfl ?_); refine goesL_ (some 54) rfl rfl Try.func12 (by kernel_rfl) rfl #[.agg #[.slice Ao38 t187.length co38, .int .i64 t190, .bool t191]] rfl margs_ ?_; (with_reducible refine (watch_Close.calls _ _ t187 t190 t191 t192 t195 t196 t197 _ ?side1 ?side2 A46.out).mono ?_); (case side1 => exact kcb_ ((Kd.S_reads' HO_169000.out).2.2)); (case side2 => exact (Kd.S_reads' HO_169000.out).2.1); rintro e w57 ⟨v193, v198, rfl, ho0, ho1, hb⟩; refine ⟨_, rfl, ?_⟩; have n0_ := Aside0.mk (Kd.S_mono (Kd.S_told (Kd.S_told (Kd.S_old (by (with_reducible repeat (first | apply Kd.S_alloc | apply Kd.S_drewN | apply Kd.S_drew)); exact HO_169000.out) hb) (Kd.S_base ho0)) (Kd.R_base ho1)) (fun _ h_ => h_.1)); have n1_ := Aside0.mk (Kd.S_lower (Kd.S_new' ho0 (Kd.S_lt (by (with_reducible repeat (first | apply Kd.S_alloc | apply Kd.S_drewN | apply Kd.S_drew)); exact HO_169000.out))) (below_size (belg_ GE168.out))); have n2_ := Aside0.mk (Kd.R_lower ho1 (below_size (belg_ GE168.out))); have n3_ := Aside0.mk (blk_below (g := gb168) (o := .cells #[.slice Ao38 t187.length co38, .int .i64 t190, .bool t191] 26 (0, 0)) (blkx_ BK168.out) hb); have n4_ := Aside0.mk (below_step (belg_ GE168.out) hb); clear HO_169000; clear BK168; clear HB; have HO_169000 := n0_; have HO194 := n1_; have HO199 := n2_; have BK168 := n3_; have HB := n4_; clear n0_ n1_ n2_ n3_ n4_; (try clear hb); (try clear hb2); (try clear hk); (try clear hi); (try clear ho0); (try clear ho1)) | ((with_reducible refine gate_dst (N := 7) rfl ?_); (try (refine gate_guard (by rfl) ?_; dsimp only)); refine box_event ?hg (N := 7) ?hd (cs := #[.slice none 0 0, .int .i64 0, .bool false]) (t := 26) ?hr ?_; (case hd => rfl); (case hg => rfl); (case hr => first | (go_simp; done) | (go_simp; rfl)); intro gb200 hg w58 hbox hb; have n0_ := Aside0.mk (Kd.S_below (by (with_reducible repeat (first | apply Kd.S_alloc | apply Kd.S_drewN | apply Kd.S_drew)); exact HO_169000.out) hb); have n1_ := Aside0.mk (Kd.S_below (by (with_reducible repeat (first | apply Kd.S_alloc | apply Kd.S_drewN | apply Kd.S_drew)); exact HO194.out) hb); have n2_ := Aside0.mk (Kd.R_below (kra_ HO199.out) hb); have n3_ := Aside0.mk (blk_below (g := gb168) (o := .cells #[.slice Ao38 t187.length co38, .int .i64 t190, .bool t191] 26 (0, 0)) (blkx_ BK168.out) hb); have n4_ := Aside0.mk (below_step (belg_ GE168.out) hb); have n5_ := Aside0.mk (hbox); have n6_ := Aside0.mk ((by rw [hg]; exact (below_size (belg_ GE168.out)) : w.heap.size ≤ gb200)); have n7_ := Aside0.mk ((by rw [hg]; exact (below_size (belg_ GE168.out)) : w.heap.size ≤ gb200)); have n8_ := Aside0.mk ((by rw [hg]; exact Nat.ne_of_lt (blk_lt (g := gb168) (o := .cells #[.slice Ao38 t187.length co38, .int .i64 t190, .bool t191] 26 (0, 0)) (blkx_ BK168.out)) : gb168 ≠ gb200)); have n9_ := Aside0.mk ((by rw [hg]; exact Nat.ne_of_gt (blk_lt (g := gb168) (o := .cells #[.slice Ao38 t187.length co38, .int .i64 t190, .bool t191] 26 (0, 0)) (blkx_ BK168.out)) : gb200 ≠ gb168)); clear HO_169000; clear HO194; clear HO199; clear BK168; clear HB; have HO_169000 := n0_; have HO194 := n1_; have HO199 := n2_; have BK168 := n3_; have HB := n4_; have BK200 := n5_; have GW200 := n6_; have GE200 := n7_; have NB168_200 := n8_; have NB200_168 := n9_; clear n0_ n1_ n2_ n3_ n4_ n5_ n6_ n7_ n8_ n9_; clear hb hbox hg; obtain ⟨Ao59, co59, eo59⟩ := Kd.S_slice HO194.out; subst eo59; have hnb60 := NB200_168.out; have hnc60 := NB168_200.out; have hcz61_0 : w58.cell? ⟨gb200, 0, none⟩ = some (.slice none 0 0) := (blk_cell BK200.out 0).trans rfl; have hcz61_1 : w58.cell? ⟨gb200, 1, none⟩ = some (.int .i64 0) := (blk_cell BK200.out 1).trans rfl; have hcz61_2 : w58.cell? ⟨gb200, 2, none⟩ = some (.bool false) := (blk_cell BK200.out 2).trans rfl; have hfz61_0 := blk_frozen BK200.out 0; have hfz61_1 := blk_frozen BK200.out 1; have hfz61_2 := blk_frozen BK200.out 2))
                  have n0_ : Aside0 (Kd.S (Kd.slice 3 (Kd.int .i64)) 22 (((w58.setCell ⟨gb200, 0, none⟩ (.slice Ao59 t192.length co59)).setCell ⟨gb200, 1, none⟩ (.int .i64 t195)).setCell ⟨gb200, 2, none⟩ (.bool t196)) w.heap.size (fun k_ => some k_ ≠ (.slice Ao59 t192.length co59 : Value).ownBlock ∧ some k_ ≠ (v198 : Value).ownBlock) (.slice Ao38 t187.length co38) t187) := ⟨by (with_reducible repeat (first | apply Kd.S_alloc | apply Kd.S_drewN | apply Kd.S_drew)); exact Kd.S_mono (Kd.S_far (p := ⟨gb200, 2, none⟩) (Kd.S_far (p := ⟨gb200, 1, none⟩) (Kd.S_far (p := ⟨gb200, 0, none⟩) (Kd.S_types HO_169000.out BK200.out (by decide)) (fun _ hk => hk.2) (.slice Ao59 t192.length co59)) (fun _ hk => hk.2) (.int .i64 t195)) (fun _ hk => hk.2) (.bool t196)) (fun _ hk => ⟨hk.1.1.2, hk.1.2⟩)⟩
                  have n1_ : Aside0 (Kd.S (Kd.slice 3 (Kd.int .i64)) 22 (((w58.setCell ⟨gb200, 0, none⟩ (.slice Ao59 t192.length co59)).setCell ⟨gb200, 1, none⟩ (.int .i64 t195)).setCell ⟨gb200, 2, none⟩ (.bool t196)) w.heap.size (fun k_ => some k_ ≠ (.slice Ao38 t187.length co38 : Value).ownBlock ∧ some k_ ≠ (v198 : Value).ownBlock) (.slice Ao59 t192.length co59) t192) := ⟨by (with_reducible repeat (first | apply Kd.S_alloc | apply Kd.S_drewN | apply Kd.S_drew)); exact Kd.S_mono (Kd.S_far (p := ⟨gb200, 2, none⟩) (Kd.S_far (p := ⟨gb200, 1, none⟩) (Kd.S_far (p := ⟨gb200, 0, none⟩) (Kd.S_types HO194.out BK200.out (by decide)) (fun _ hk => hk.2) (.slice Ao59 t192.length co59)) (fun _ hk => hk.2) (.int .i64 t195)) (fun _ hk => hk.2) (.bool t196)) (fun _ hk => ⟨hk.1.2, hk.1.1⟩)⟩
                  have n2_ : Aside0 (Kd.R (Kd.int .i64) 3 (((w58.setCell ⟨gb200, 0, none⟩ (.slice Ao59 t192.length co59)).setCell ⟨gb200, 1, none⟩ (.int .i64 t195)).setCell ⟨gb200, 2, none⟩ (.bool t196)) w.heap.size (fun _ => True) v198 t197) := ⟨by (with_reducible repeat (first | apply Kd.R_alloc | apply Kd.R_drewN | apply Kd.R_drew)); exact Kd.R_mono (Kd.R_far (p := ⟨gb200, 2, none⟩) (Kd.R_far (p := ⟨gb200, 1, none⟩) (Kd.R_far (p := ⟨gb200, 0, none⟩) (Kd.R_types HO199.out BK200.out (by decide)) (fun _ hk => hk.2) (.slice Ao59 t192.length co59)) (fun _ hk => hk.2) (.int .i64 t195)) (fun _ hk => hk.2) (.bool t196)) (fun _ hk => trivial)⟩
                  have n3_ : Aside0 ((((w58.setCell ⟨gb200, 0, none⟩ (.slice Ao59 t192.length co59)).setCell ⟨gb200, 1, none⟩ (.int .i64 t195)).setCell ⟨gb200, 2, none⟩ (.bool t196)).heap[gb168]? = some (.cells #[.slice Ao38 t187.length co38, .int .i64 t190, .bool t191] 26 (0, 0))) := ⟨by (with_reducible repeat (first | refine blk_drewN ?_ _ | refine blk_drew ?_ | refine blk_alloc ?_ _)); refine blk_far ?_ NB168_200.out _; (with_reducible repeat (first | refine blk_drewN ?_ _ | refine blk_drew ?_ | refine blk_alloc ?_ _)); refine blk_far ?_ NB168_200.out _; (with_reducible repeat (first | refine blk_drewN ?_ _ | refine blk_drew ?_ | refine blk_alloc ?_ _)); refine blk_far ?_ NB168_200.out _; (with_reducible repeat (first | refine blk_drewN ?_ _ | refine blk_drew ?_ | refine blk_alloc ?_ _)); exact BK168.out⟩
                  have n4_ : Aside0 ((((w58.setCell ⟨gb200, 0, none⟩ (.slice Ao59 t192.length co59)).setCell ⟨gb200, 1, none⟩ (.int .i64 t195)).setCell ⟨gb200, 2, none⟩ (.bool t196)).heap[gb200]? = some (.cells #[.slice Ao59 t192.length co59, .int .i64 t195, .bool t196] 26 (0, 0))) := ⟨by (with_reducible repeat (first | refine blk_drewN ?_ _ | refine blk_drew ?_ | refine blk_alloc ?_ _)); refine blk_put (cs := #[.slice Ao59 t192.length co59, .int .i64 t195, .bool false]) ?_ 2 _ rfl; (with_reducible repeat (first | refine blk_drewN ?_ _ | refine blk_drew ?_ | refine blk_alloc ?_ _)); refine blk_put (cs := #[.slice Ao59 t192.length co59, .int .i64 0, .bool false]) ?_ 1 _ rfl; (with_reducible repeat (first | refine blk_drewN ?_ _ | refine blk_drew ?_ | refine blk_alloc ?_ _)); refine blk_put (cs := #[.slice none 0 0, .int .i64 0, .bool false]) ?_ 0 _ rfl; (with_reducible repeat (first | refine blk_drewN ?_ _ | refine blk_drew ?_ | refine blk_alloc ?_ _)); exact BK200.out⟩
                  have n5_ : Aside0 (Below w.heap.size w (((w58.setCell ⟨gb200, 0, none⟩ (.slice Ao59 t192.length co59)).setCell ⟨gb200, 1, none⟩ (.int .i64 t195)).setCell ⟨gb200, 2, none⟩ (.bool t196))) := ⟨by repeat (first | (with_reducible first | exact HB.out | apply below_alloc | apply pw_below_drewN | apply below_drew1 | refine below_set ?_ GE168.out | refine below_set ?_ GE200.out) | exact HB.out)⟩
                  (try clear HO_169000)
                  (try clear HO194)
                  (try clear HO199)
                  (try clear BK168)
                  (try clear BK200)
                  (try clear HB)
                  generalize (((w58.setCell ⟨gb200, 0, none⟩ (.slice Ao59 t192.length co59)).setCell ⟨gb200, 1, none⟩ (.int .i64 t195)).setCell ⟨gb200, 2, none⟩ (.bool t196)) = w62 at n0_ n1_ n2_ n3_ n4_ n5_ ⊢
                  have HO_169000 := n0_
                  have HO194 := n1_
                  have HO199 := n2_
                  have BK168 := n3_
                  have BK200 := n4_
                  have HB := n5_
                  clear n0_ n1_ n2_ n3_ n4_ n5_
                  have n0_ := Aside0.mk (Kd.S_drew HO_169000.out)
                  have n1_ := Aside0.mk (Kd.S_drew HO194.out)
                  have n2_ := Aside0.mk (Kd.R_drew HO199.out)
                  have n3_ := Aside0.mk (blk_drew BK168.out)
                  have n4_ := Aside0.mk (blk_drew BK200.out)
                  have n5_ := Aside0.mk (below_drew1 HB.out)
                  clear HO_169000
                  clear HO194
                  clear HO199
                  clear BK168
                  clear BK200
                  clear HB
                  have HO_169000 := n0_
                  have HO194 := n1_
                  have HO199 := n2_
                  have BK168 := n3_
                  have BK200 := n4_
                  have HB := n5_
                  clear n0_ n1_ n2_ n3_ n4_ n5_
                  obtain ⟨Ao64, co64, eo64⟩ := Kd.R_slice HO199.out
                  (first | subst eo64 | (injection eo64 with f1_ f2_ f3_; have f4_ := f1_.symm; have f5_ := f3_.symm; clear f1_ f2_ f3_; subst f4_; subst f5_))
                  have p201 : 0 ≤ (0 : Int) := (by omega)
                  have q201 : 0 < (t197.length : Int) := of_decide_eq_true asm_
                  obtain ⟨ad201, e201, hx201_0⟩ := Kd.at_int (Kd.R_reads' HO199.out).2.2 0 p201 q201
                  cases e201
                  have qi201 : (0 < t197.length) = True := eq_true (by omega)
                  (try rw [show ((0 : Int)).toNat = 0 from rfl] at hx201_0)
                  (try rw [Addr.add_zero'] at hx201_0)
                  replace p201 := eq_true p201
                  replace q201 := eq_true q201
                  have p202 : 0 ≤ (x6_1 : Int) := of_decide_eq_true asm_
                  have q202 : x6_1 < (l0.length : Int) := of_decide_eq_true asm_
                  obtain ⟨ad202, e202, hx202_0⟩ := Kd.at_int HR0.out x6_1 p202 q202
                  have hw202_0 := hx202_0
                  obtain rfl : ad170 = ad202 := (by injection e202)
                  replace hx202_0 := (HB.out.cell (World.block_lt_of_cell? w _ hx202_0)).trans hx202_0
                  replace p202 := eq_true p202
                  replace q202 := eq_true q202
                  have p203 : 0 ≤ ((ji52) : Int) := of_decide_eq_true asm_
                  have q203 : (ji52) < (t187.length : Int) := of_decide_eq_true asm_
                  obtain ⟨ad203, A203_0, c203_0, e203, hx203_0, hl203_0, hi203_0⟩ := at_L1 (Kd.S_reads' HO_169000.out).2.2 (ji52) p203 q203
                  cases e203
                  obtain ⟨ce203, hce203, hMe203, hcc203⟩ := Kd.S_get HO_169000.out [] (ji52) p203 (by first | exact q203 | exact of_decide_eq_true asm_ | (have e_ := (Kd.S_reads' HO_169000.out).1; omega))
                  obtain ⟨ve203_0, rfl, ge203_0⟩ := hMe203
                  have hv203_0 := hcc203 0 _ rfl
                  rw [Nat.add_zero, show ((Kd.slice 3 (Kd.int .i64))).sz = 1 from rfl, Nat.mul_one] at hv203_0
                  replace hv203_0 := Option.some.inj (hv203_0.symm.trans hx203_0)
                  rw [hv203_0] at ge203_0
                  have HL203_0 := Aside0.mk (show Kd.R (Kd.int .i64) 3 _ _ _ _ (rd_L1 t187 (ji52)) from ge203_0)
                  clear hv203_0 ge203_0
                  clear hcc203 hce203
                  have HR203_0 := Aside0.mk hi203_0
                  have HC203_0 := Aside0.mk hl203_0
                  clear hi203_0 hl203_0
                  replace p203 := eq_true p203
                  replace q203 := eq_true q203
                  refine start_ (n := 27) (S := fun w' => w'.cell? ⟨gb168, 0, none⟩ = some (.slice (some ad203) t187.length co38) ∧ w'.cell? ⟨gb168, 1, none⟩ = some (.int .i64 t190) ∧ w'.cell? ⟨gb168, 2, none⟩ = some (.bool t191) ∧ w'.cell? ad201 = some (.int .i64 (rd t197 0)) ∧ w'.cell? (ad170.add (x6_1).toNat) = some (.int .i64 (rd l0 x6_1)) ∧ w'.cell? (ad203.add ((ji52)).toNat) = some (.slice A203_0 (rd_L1 t187 (ji52)).length c203_0)) (ds := []) #[false, false, false, false, false, false, false, false, false, false, false, false, false, false, false, false, false, false, false, false, false, false, false, false, false, false, false] (by kernel_rfl) rfl rfl ⟨(blk_cell BK168.out 0).trans rfl, (blk_cell BK168.out 1).trans rfl, (blk_cell BK168.out 2).trans rfl, hx201_0, ((HB.out.cell (World.block_lt_of_cell? w _ hw202_0)).trans hw202_0), hx203_0⟩ (fun hHeld => ?_); refine with_tabW limelightlaw18_WatchActs.tab19 limelightlaw18_WatchActs.bits19 (fun HT_ HW_ => ?_)
                  generalize w62.drew = w63 at HO_169000 HO194 HO199 BK168 BK200 HB HL203_0 HR203_0 hx201_0 hx202_0 hx203_0 hHeld ⊢
                  refine pure_ (i := 0) (N := some 57) (v := ?_) (a' := ?_) #[true, false, false, false, false, false, false, false, false, false, false, false, false, false, false, false, false, false, false, false, false, false, false, false, false, false, false] rfl rfl (any_of HT_.out (by kernel_rfl)) (fun _ _ _ h => h) (Or.inl ⟨by rfl, ?_⟩) ?_ ?_
                  rotate_left
                  ·intro w'
                   go_simp
                   with_reducible rfl
                  rotate_left
                  ·simp only [Act.put, List.setIfInBounds_toArray, List.set_cons_zero, List.set_cons_succ, i64_w, i32_w]
                   rfl
                  refine pure_ (i := 1) (N := some 58) (v := ?_) (a' := ?_) #[true, true, false, false, false, false, false, false, false, false, false, false, false, false, false, false, false, false, false, false, false, false, false, false, false, false, false] rfl rfl (any_of HT_.out (by kernel_rfl)) (fun _ _ _ h => h) (Or.inl ⟨by rfl, ?_⟩) ?_ ?_
                  rotate_left
                  ·intro w'
                   go_simp
                   with_reducible rfl
                  rotate_left
                  ·simp only [Act.put, List.setIfInBounds_toArray, List.set_cons_zero, List.set_cons_succ, i64_w, i32_w]
                   rfl
                  refine pure_ (i := 2) (N := some 59) (v := ?_) (a' := ?_) #[true, true, true, false, false, false, false, false, false, false, false, false, false, false, false, false, false, false, false, false, false, false, false, false, false, false, false] rfl rfl (any_of HT_.out (by kernel_rfl)) (fun _ _ _ h => h) (Or.inl ⟨by rfl, ?_⟩) ?_ ?_
                  rotate_left
                  ·intro w'
                   go_simp
                   with_reducible rfl
                  rotate_left
                  ·simp only [Act.put, List.setIfInBounds_toArray, List.set_cons_zero, List.set_cons_succ, i64_w, i32_w]
                   rfl
                  refine pure_ (i := 3) (N := some 60) (v := ?_) (a' := ?_) #[true, true, true, true, false, false, false, false, false, false, false, false, false, false, false, false, false, false, false, false, false, false, false, false, false, false, false] rfl rfl (any_of HT_.out (by kernel_rfl)) (fun _ _ _ h => h) (Or.inl ⟨by rfl, ?_⟩) ?_ ?_
                  rotate_left
                  ·intro w'
                   go_simp
                   with_reducible rfl
                  rotate_left
                  ·simp only [Act.put, List.setIfInBounds_toArray, List.set_cons_zero, List.set_cons_succ, i64_w, i32_w]
                   rfl
                  refine pure_ (i := 4) (N := some 61) (v := ?_) (a' := ?_) #[true, true, true, true, true, false, false, false, false, false, false, false, false, false, false, false, false, false, false, false, false, false, false, false, false, false, false] rfl rfl (any_of HT_.out (by kernel_rfl)) (fun _ _ _ h => h) (Or.inl ⟨by rfl, ?_⟩) ?_ ?_
                  rotate_left
                  ·intro w'
                   go_simp
                   with_reducible rfl
                  rotate_left
                  ·simp only [Act.put, List.setIfInBounds_toArray, List.set_cons_zero, List.set_cons_succ, i64_w, i32_w]
                   rfl
                  refine pure_ (i := 5) (N := some 62) (v := ?_) (a' := ?_) #[true, true, true, true, true, true, false, false, false, false, false, false, false, false, false, false, false, false, false, false, false, false, false, false, false, false, false] rfl rfl (any_of HT_.out (by kernel_rfl)) (fun _ _ _ h => h) (Or.inl ⟨by rfl, ?_⟩) ?_ ?_
                  rotate_left
                  ·intro w'
                   go_simp
                   with_reducible rfl
                  rotate_left
                  ·simp only [Act.put, List.setIfInBounds_toArray, List.set_cons_zero, List.set_cons_succ, i64_w, i32_w]
                   rfl
                  refine pure_ (i := 7) (N := some 64) (v := ?_) (a' := ?_) #[true, true, true, true, true, true, false, true, false, false, false, false, false, false, false, false, false, false, false, false, false, false, false, false, false, false, false] rfl rfl (any_of HT_.out (by kernel_rfl)) (fun _ _ _ h => h) (Or.inl ⟨by rfl, ?_⟩) ?_ ?_
                  rotate_left
                  ·intro w'
                   go_simp
                   with_reducible rfl
                  rotate_left
                  ·simp only [Act.put, List.setIfInBounds_toArray, List.set_cons_zero, List.set_cons_succ, i64_w, i32_w]
                   rfl
                  refine pure_ (i := 8) (N := some 65) (v := ?_) (a' := ?_) #[true, true, true, true, true, true, false, true, true, false, false, false, false, false, false, false, false, false, false, false, false, false, false, false, false, false, false] rfl rfl (any_of HT_.out (by kernel_rfl)) (fun _ _ _ h => h) (Or.inl ⟨by rfl, ?_⟩) ?_ ?_
                  rotate_left
                  ·intro w'
                   go_simp
                   with_reducible rfl
                  rotate_left
                  ·simp only [Act.put, List.setIfInBounds_toArray, List.set_cons_zero, List.set_cons_succ, i64_w, i32_w]
                   rfl
                  refine pure_ (i := 9) (N := some 66) (v := ?_) (a' := ?_) #[true, true, true, true, true, true, false, true, true, true, false, false, false, false, false, false, false, false, false, false, false, false, false, false, false, false, false] rfl rfl (any_of HT_.out (by kernel_rfl)) (fun _ _ _ h => h) (Or.inl ⟨by rfl, ?_⟩) ?_ ?_
                  rotate_left
                  ·intro w'
                   go_simp
                   with_reducible rfl
                  rotate_left
                  ·simp only [Act.put, List.setIfInBounds_toArray, List.set_cons_zero, List.set_cons_succ, i64_w, i32_w]
                   rfl
                  refine take_ (i := 6) (N := some 63) (v := ?_) (a' := ?_) #[true, true, true, true, true, true, true, true, true, true, false, false, false, false, false, false, false, false, false, false, false, false, false, false, false, false, false] rfl rfl (take_ofW HT_.out HW_.out (by kernel_rfl)) (fun _ _ _ h => h) (Or.inl ⟨by rfl, ?_⟩) hHeld ?_ ?_
                  rotate_left
                  ·rintro w' ⟨s0, s1, s2, s3, s4, s5⟩
                   go_simp
                   with_reducible rfl
                  rotate_left
                  ·simp only [Act.put, List.setIfInBounds_toArray, List.set_cons_zero, List.set_cons_succ, i64_w, i32_w]
                   rfl
                  refine take_ (i := 10) (N := some 67) (v := ?_) (a' := ?_) #[true, true, true, true, true, true, true, true, true, true, true, false, false, false, false, false, false, false, false, false, false, false, false, false, false, false, false] rfl rfl (take_ofW HT_.out HW_.out (by kernel_rfl)) (fun _ _ _ h => h) (Or.inl ⟨by rfl, ?_⟩) hHeld ?_ ?_
                  rotate_left
                  ·rintro w' ⟨s0, s1, s2, s3, s4, s5⟩
                   go_simp
                   with_reducible rfl
                  rotate_left
                  ·simp only [Act.put, List.setIfInBounds_toArray, List.set_cons_zero, List.set_cons_succ, i64_w, i32_w]
                   rfl
                  refine pure_ (i := 11) (N := some 68) (v := ?_) (a' := ?_) #[true, true, true, true, true, true, true, true, true, true, true, true, false, false, false, false, false, false, false, false, false, false, false, false, false, false, false] rfl rfl (any_of HT_.out (by kernel_rfl)) (fun _ _ _ h => h) (Or.inl ⟨by rfl, ?_⟩) ?_ ?_
                  rotate_left
                  ·intro w'
                   go_simp
                   with_reducible rfl
                  rotate_left
                  ·simp only [Act.put, List.setIfInBounds_toArray, List.set_cons_zero, List.set_cons_succ, i64_w, i32_w]
                   rfl
                  refine pure_ (i := 12) (N := some 69) (v := ?_) (a' := ?_) #[true, true, true, true, true, true, true, true, true, true, true, true, true, false, false, false, false, false, false, false, false, false, false, false, false, false, false] rfl rfl (any_of HT_.out (by kernel_rfl)) (fun _ _ _ h => h) (Or.inl ⟨by rfl, ?_⟩) ?_ ?_
                  rotate_left
                  ·intro w'
                   go_simp
                   with_reducible rfl
                  rotate_left
                  ·simp only [Act.put, List.setIfInBounds_toArray, List.set_cons_zero, List.set_cons_succ, i64_w, i32_w]
                   rfl
                  refine pure_ (i := 13) (N := some 70) (v := ?_) (a' := ?_) #[true, true, true, true, true, true, true, true, true, true, true, true, true, true, false, false, false, false, false, false, false, false, false, false, false, false, false] rfl rfl (any_of HT_.out (by kernel_rfl)) (fun _ _ _ h => h) (Or.inl ⟨by rfl, ?_⟩) ?_ ?_
                  rotate_left
                  ·intro w'
                   go_simp
                   with_reducible rfl
                  rotate_left
                  ·simp only [Act.put, List.setIfInBounds_toArray, List.set_cons_zero, List.set_cons_succ, i64_w, i32_w]
                   rfl
                  refine pure_ (i := 14) (N := some 71) (v := ?_) (a' := ?_) #[true, true, true, true, true, true, true, true, true, true, true, true, true, true, true, false, false, false, false, false, false, false, false, false, false, false, false] rfl rfl (any_of HT_.out (by kernel_rfl)) (fun _ _ _ h => h) (Or.inl ⟨by rfl, ?_⟩) ?_ ?_
                  rotate_left
                  ·intro w'
                   go_simp
                   with_reducible rfl
                  rotate_left
                  ·simp only [Act.put, List.setIfInBounds_toArray, List.set_cons_zero, List.set_cons_succ, i64_w, i32_w]
                   rfl
                  refine pure_ (i := 15) (N := some 72) (v := ?_) (a' := ?_) #[true, true, true, true, true, true, true, true, true, true, true, true, true, true, true, true, false, false, false, false, false, false, false, false, false, false, false] rfl rfl (any_of HT_.out (by kernel_rfl)) (fun _ _ _ h => h) (Or.inl ⟨by rfl, ?_⟩) ?_ ?_
                  rotate_left
                  ·intro w'
                   go_simp
                   with_reducible rfl
                  rotate_left
                  ·simp only [Act.put, List.setIfInBounds_toArray, List.set_cons_zero, List.set_cons_succ, i64_w, i32_w]
                   rfl
                  refine pure_ (i := 16) (N := some 73) (v := ?_) (a' := ?_) #[true, true, true, true, true, true, true, true, true, true, true, true, true, true, true, true, true, false, false, false, false, false, false, false, false, false, false] rfl rfl (any_of HT_.out (by kernel_rfl)) (fun _ _ _ h => h) (Or.inl ⟨by rfl, ?_⟩) ?_ ?_
                  rotate_left
                  ·intro w'
                   go_simp
                   with_reducible rfl
                  rotate_left
                  ·simp only [Act.put, List.setIfInBounds_toArray, List.set_cons_zero, List.set_cons_succ, i64_w, i32_w]
                   rfl
                  refine pure_ (i := 18) (N := some 75) (v := ?_) (a' := ?_) #[true, true, true, true, true, true, true, true, true, true, true, true, true, true, true, true, true, false, true, false, false, false, false, false, false, false, false] rfl rfl (any_of HT_.out (by kernel_rfl)) (fun _ _ _ h => h) (Or.inl ⟨by rfl, ?_⟩) ?_ ?_
                  rotate_left
                  ·intro w'
                   go_simp
                   with_reducible rfl
                  rotate_left
                  ·simp only [Act.put, List.setIfInBounds_toArray, List.set_cons_zero, List.set_cons_succ, i64_w, i32_w]
                   rfl
                  refine take_ (i := 17) (N := some 74) (v := ?_) (a' := ?_) #[true, true, true, true, true, true, true, true, true, true, true, true, true, true, true, true, true, true, true, false, false, false, false, false, false, false, false] rfl rfl (take_ofW HT_.out HW_.out (by kernel_rfl)) (fun _ _ _ h => h) (Or.inl ⟨by rfl, ?_⟩) hHeld ?_ ?_
                  rotate_left
                  ·rintro w' ⟨s0, s1, s2, s3, s4, s5⟩
                   go_simp
                   with_reducible rfl
                  rotate_left
                  ·simp only [Act.put, List.setIfInBounds_toArray, List.set_cons_zero, List.set_cons_succ, i64_w, i32_w]
                   rfl
                  refine take_ (i := 19) (N := some 76) (v := ?_) (a' := ?_) #[true, true, true, true, true, true, true, true, true, true, true, true, true, true, true, true, true, true, true, true, false, false, false, false, false, false, false] rfl rfl (take_ofW HT_.out HW_.out (by kernel_rfl)) (fun _ _ _ h => h) (Or.inl ⟨by rfl, ?_⟩) hHeld ?_ ?_
                  rotate_left
                  ·rintro w' ⟨s0, s1, s2, s3, s4, s5⟩
                   go_simp
                   with_reducible rfl
                  rotate_left
                  ·simp only [Act.put, List.setIfInBounds_toArray, List.set_cons_zero, List.set_cons_succ, i64_w, i32_w]
                   rfl
                  refine pure_ (i := 20) (N := some 77) (v := ?_) (a' := ?_) #[true, true, true, true, true, true, true, true, true, true, true, true, true, true, true, true, true, true, true, true, true, false, false, false, false, false, false] rfl rfl (any_of HT_.out (by kernel_rfl)) (fun _ _ _ h => h) (Or.inl ⟨by rfl, ?_⟩) ?_ ?_
                  rotate_left
                  ·intro w'
                   go_simp
                   with_reducible rfl
                  rotate_left
                  ·simp only [Act.put, List.setIfInBounds_toArray, List.set_cons_zero, List.set_cons_succ, i64_w, i32_w]
                   rfl
                  refine pure_ (i := 21) (N := some 78) (v := ?_) (a' := ?_) #[true, true, true, true, true, true, true, true, true, true, true, true, true, true, true, true, true, true, true, true, true, true, false, false, false, false, false] rfl rfl (any_of HT_.out (by kernel_rfl)) (fun _ _ _ h => h) (Or.inl ⟨by rfl, ?_⟩) ?_ ?_
                  rotate_left
                  ·intro w'
                   go_simp
                   with_reducible rfl
                  rotate_left
                  ·simp only [Act.put, List.setIfInBounds_toArray, List.set_cons_zero, List.set_cons_succ, i64_w, i32_w]
                   rfl
                  refine pure_ (i := 22) (N := some 79) (v := ?_) (a' := ?_) #[true, true, true, true, true, true, true, true, true, true, true, true, true, true, true, true, true, true, true, true, true, true, true, false, false, false, false] rfl rfl (any_of HT_.out (by kernel_rfl)) (fun _ _ _ h => h) (Or.inl ⟨by rfl, ?_⟩) ?_ ?_
                  rotate_left
                  ·intro w'
                   go_simp
                   with_reducible rfl
                  rotate_left
                  ·simp only [Act.put, List.setIfInBounds_toArray, List.set_cons_zero, List.set_cons_succ, i64_w, i32_w]
                   rfl
                  refine take_ (i := 23) (N := some 80) (v := ?_) (a' := ?_) #[true, true, true, true, true, true, true, true, true, true, true, true, true, true, true, true, true, true, true, true, true, true, true, true, false, false, false] rfl rfl (take_ofW HT_.out HW_.out (by kernel_rfl)) (fun _ _ _ h => h) (Or.inl ⟨by rfl, ?_⟩) hHeld ?_ ?_
                  rotate_left
                  ·rintro w' ⟨s0, s1, s2, s3, s4, s5⟩
                   go_simp
                   with_reducible rfl
                  rotate_left
                  ·simp only [Act.put, List.setIfInBounds_toArray, List.set_cons_zero, List.set_cons_succ, i64_w, i32_w]
                   rfl
                  refine pure_ (i := 24) (N := some 81) (v := ?_) (a' := ?_) #[true, true, true, true, true, true, true, true, true, true, true, true, true, true, true, true, true, true, true, true, true, true, true, true, true, false, false] rfl rfl (any_of HT_.out (by kernel_rfl)) (fun _ _ _ h => h) (Or.inl ⟨by rfl, ?_⟩) ?_ ?_
                  rotate_left
                  ·intro w'
                   go_simp
                   with_reducible rfl
                  rotate_left
                  ·simp only [Act.put, List.setIfInBounds_toArray, List.set_cons_zero, List.set_cons_succ, i64_w, i32_w]
                   rfl
                  refine pure_ (i := 25) (N := some 82) (v := ?_) (a' := ?_) #[true, true, true, true, true, true, true, true, true, true, true, true, true, true, true, true, true, true, true, true, true, true, true, true, true, true, false] rfl rfl (any_of HT_.out (by kernel_rfl)) (fun _ _ _ h => h) (Or.inl ⟨by rfl, ?_⟩) ?_ ?_
                  rotate_left
                  ·intro w'
                   go_simp
                   with_reducible rfl
                  rotate_left
                  ·simp only [Act.put, List.setIfInBounds_toArray, List.set_cons_zero, List.set_cons_succ, i64_w, i32_w]
                   rfl
                  refine pure_ (i := 26) (N := some 83) (v := ?_) (a' := ?_) #[true, true, true, true, true, true, true, true, true, true, true, true, true, true, true, true, true, true, true, true, true, true, true, true, true, true, true] rfl rfl (any_of HT_.out (by kernel_rfl)) (fun _ _ _ h => h) (Or.inl ⟨by rfl, ?_⟩) ?_ ?_
                  rotate_left
                  ·intro w'
                   go_simp
                   with_reducible rfl
                  rotate_left
                  ·simp only [Act.put, List.setIfInBounds_toArray, List.set_cons_zero, List.set_cons_succ, i64_w, i32_w]
                   rfl
                  refine done_ (done_of HT_.out (by kernel_rfl)) ?_
                  try go_wp2
                  go_roundg kj33
                  case measure => have := HK1.out; have := HJ33.out; omega
                  case rel => exact ⟨(x4_1), (true), (wrap64 (x6_1 + 1)), (t187), (t190), (t191), (.slice (some ad203) t187.length co38), (by first | rfl | (simp; done) | (simp [*]; done)), (by first | rfl | (simp; done) | (simp [*]; done)), (by first | rfl | (simp; done) | (simp [*]; done)), H', ⟨by have := HK1.out; have := HJ33.out; omega⟩, ⟨by (with_reducible repeat (first | apply Kd.S_alloc | apply Kd.S_drewN | apply Kd.S_drew)); exact Kd.S_mono HO_169000.out (fun _ hk => trivial)⟩, ⟨blkx_ BK168.out⟩, ⟨by repeat (first | (with_reducible first | exact HB.out | apply below_alloc | apply pw_below_drewN | apply below_drew1 | refine below_set ?_ GE168.out | refine below_set ?_ GE200.out) | exact HB.out)⟩⟩
                 ·rw [if_neg c55] at H
                  exact absurd H (by simp)
                ·rw [if_neg c54] at H
                 exact absurd H (by simp)
               ·rw [if_neg c53] at H
                exact absurd H (by simp)
              ·rw [if_neg c51] at H
               have c51b0 : ((rd t197 0) == (rd l0 x6_1)) = false := beq_eq_false_iff_ne.mpr c51
               have c51b1 : ((rd t197 0) != (rd l0 x6_1)) = true := bne_iff_ne.mpr c51
               exact absurd H (by simp)
             ·rw [if_neg c50] at H
              exact absurd H (by simp)
            ·rw [if_neg c49] at H
             exact absurd H (by simp)
           ·rw [if_neg c48] at H
            exact absurd H (by simp)
     ·rw [if_neg c11] at H
      exact absurd H (by simp)
    ·rw [if_neg c10] at H
     have c10b0 : decide (x6_1 < (l0.length : Int)) = false := decide_eq_false c10
     clear c10
     replace H := Option.bind_eq_some_iff.mp H
     obtain ⟨t169, A650, H⟩ := H
     replace H : (some t169) = some r := H
     have A65 := Aside0.mk A650
     clear A650
     obtain rfl := Option.some.inj H
     go_wp2_with (first | ((with_reducible refine gate_callee (f := 8) rfl ?_); refine goesL_ (some 84) rfl rfl Try.func8 (by kernel_rfl) rfl #[] rfl margs_ ?_; (with_reducible refine (limelightlaw18_live.calls  t169 _ A65.out).mono ?_); rintro e w66 ⟨rfl, hb⟩; refine ⟨_, rfl, ?_⟩; have n0_ := Aside0.mk (Kd.S_below (by (with_reducible repeat (first | apply Kd.S_alloc | apply Kd.S_drewN | apply Kd.S_drew)); exact HO_169000.out) hb); have n1_ := Aside0.mk (blk_below (g := gb168) (o := .cells #[u169000, .int .i64 x169001_1, .bool x169002_1] 26 (0, 0)) (blkx_ BK168.out) hb); have n2_ := Aside0.mk (below_step (belg_ GE168.out) hb); clear HO_169000; clear BK168; clear HB; have HO_169000 := n0_; have BK168 := n1_; have HB := n2_; clear n0_ n1_ n2_; (try clear hb); (try clear hb2); (try clear hk); (try clear hi)))
     go_ret
     exact ⟨by first | rfl | (simp [errW_none, errW_some] <;> rfl) | (simp [*, errW_none, errW_some] <;> rfl), belg_ GE168.out⟩

/-- THE ONE PURE STATEMENT of limelightlaw18_WatchActs: yours. -/
def limelightlaw18_WatchActs.Pure : Prop := ∀ (l0 : List Int), l0.length ≤ maxLen → l0.length * 8 ≤ 140737488351232 → (∀ x ∈ l0, (Lit.int .i64 x).wf = true) → ∃ k, limelightlaw18_WatchActs.f k l0 = some true
theorem limelightlaw18_WatchActs.walk (P : limelightlaw18_WatchActs.Pure) (a0 : Option Addr) (len0 cap0 : Nat) (z0 : List Int) (w : World) (w0 : (a0 = none ∧ len0 = 0 ∧ cap0 = 0 ∧ z0 = []) ∨ ∃ x, a0 = some x ∧ len0 ≤ cap0 ∧ cap0 ≤ maxLen ∧ z0.length = cap0 ∧ (∀ i, i < z0.length → w.cell? (x.add i) = some (.int .i64 (z0.getD i 0))) ∧ ∀ n ∈ z0, (Lit.int .i64 n).wf = true) (y0 : len0 * 8 ≤ 140737488351232) :
  Calls Try.prog 3 #[.slice a0 len0 cap0] w fun e w' => e = .returned (.bool true) ∧ Below w.heap.size w w' := by
 obtain ⟨l0, rfl, hr0, hm0, hw0, hc0⟩ := ReadsInt.ofRowC w0
 obtain ⟨k, h⟩ := P l0 hm0 y0 hw0
 refine (limelightlaw18_WatchActs.calls k _ _ l0 true w (Kd.C_of_reads (d := (0 : Int)) (h1 := fun _ => rfl) hr0) hc0 h).mono ?_
 rintro e w' ⟨rfl, hd⟩
 exact ⟨rfl, hd⟩

end Go.Proofs.Ytpklhnggbhkmiaa.P
