/- Walk: the law FireOrder. -/
import Derived.Test.YtaggmjnpocndkaaFsm
namespace Go.Proofs.Lime
open Go.RowKit
set_option linter.unusedVariables false
set_option linter.unusedSimpArgs false
attribute [local go_sem] Oper.semAt_some
theorem bad_apart : ∀ (l pre : List Hear), badFrom pre l = false → (∀ x ∈ l, pre.any (·.one x) = false) ∧ l.Nodup := by
  intro l
  induction l with
  | nil => intro pre _; simp
  | cons x l ih =>
    intro pre h
    rw [badFrom] at h
    simp only [Bool.or_eq_false_iff] at h
    obtain ⟨_, h2, h3⟩ := h
    obtain ⟨i1, i2⟩ := ih _ h3
    refine ⟨fun y hy => ?_, List.nodup_cons.2 ⟨fun hx => ?_, i2⟩⟩
    · rcases List.mem_cons.1 hy with rfl | hy
      · exact h2
      · have := i1 y hy
        rw [List.any_append, Bool.or_eq_false_iff] at this
        exact this.1
    · have := i1 x hx
      rw [List.any_append, Bool.or_eq_false_iff] at this
      have h4 := this.2
      simp [Hear.one] at h4
theorem check_nodup {l : List Hear} (h : hearCheck l 64 = 0) : l.length ≤ 64 ∧ l.Nodup := by
  unfold hearCheck at h
  split at h
  · cases h
  · rename_i h1
    simp only [gt_iff_lt, Bool.or_eq_true, decide_eq_true_eq, not_or, Bool.not_eq_true] at h1
    exact ⟨by omega, (bad_apart l [] h1.2).2⟩
theorem same_iff (a b : Hear) : a.same b = true ↔ a = b := by
  obtain ⟨a0, a1, a2, a3, a4⟩ := a
  obtain ⟨b0, b1, b2, b3, b4⟩ := b
  simp [Hear.same]
/-- Where a listener stands. -/
def plcH (l : List Hear) (h : Hear) : Int := idx (fun x => x.same h) l
theorem plcH_at {l : List Hear} (hn : l.Nodup) {h : Hear} {i : Nat} (hi : l[i]? = some h) : plcH l h = i := by
  obtain ⟨hl, e⟩ := List.getElem?_eq_some_iff.1 hi
  have ha : l.any (fun x => x.same h) = true := List.any_eq_true.2 ⟨l[i], List.getElem_mem hl, (same_iff _ _).2 e⟩
  rw [← idx_any, decide_eq_true_eq] at ha
  obtain ⟨j, h1, hj, h2⟩ := idx_nat ha
  have h3 := (same_iff _ _).1 h2
  have : j = i := (List.getElem_inj hn).1 (h3.trans e.symm)
  subst this
  exact h1
section
attribute [local go_sem high] eqHear
set_option maxHeartbeats 2000000 in
theorem place_c {S : Nat → Prop} {w : World} {v : Value} {xs : List Hear} (hr : Row hearK S w v xs) (h : Hear) :
    Calls Try.prog 11 #[v, h.val] w fun e w' => e = .returned (.int .i64 (plcH xs h)) ∧ Stp w w' := by
  obtain ⟨A, c, rfl, hc, hm⟩ := hr.form
  go_enter Try.func11, Try.ntmps11
  go_wp2
  obtain ⟨w0, hw0, hb0, hz0, gc⟩ := box_named w #[.int .i64 h.node, .int .i64 h.type, .bool h.cap, .bool h.once, .int .i64 h.prog] 35
  rw [hw0]
  have hr' := hr.stp hb0
  have g0 := gc 0 _ rfl
  have g1 := gc 1 _ rfl
  have g2 := gc 2 _ rfl
  have g3 := gc 3 _ rfl
  have g4 := gc 4 _ rfl
  clear hw0 gc hz0 hr
  go_loopg [5] xs.length (fun gg s5 wr => ∃ k : Nat, k ≤ xs.length ∧ xs.length - k ≤ gg ∧ s5 = .int .i64 k ∧ Stp w0 wr ∧ Aside (idxFrom (fun x => x.same h) k (xs.drop k) = plcH xs h))
  case atStart => exact ⟨0, Nat.zero_le _, by omega, rfl, Stp.refl w0, rfl⟩
  case round =>
    obtain ⟨k, hk, hg, rfl, hb, A1⟩ := hrel
    by_cases hlt : k < xs.length
    · have hltz : (k : Int) < (xs.length : Int) := by omega
      obtain ⟨b, o, rfl, hS, hbw, x0, x1, x2, x3, x4⟩ := hear_at (hr'.stp hb) k hlt
      replace g0 := hb.cell g0
      replace g1 := hb.cell g1
      replace g2 := hb.cell g2
      replace g3 := hb.cell g3
      replace g4 := hb.cell g4
      generalize hy : xs[k] = y at x0 x1 x2 x3 x4
      have B : Aside (xs[k] = y) := hy
      clear hy hr'
      cases hq : y.same h with
      | true =>
        have HQ := Lib.hid hq
        unfold Hear.same at hq
        go_upto_region 4 with fail
        refine wp_region_plan (Plan.calm 0 (Plan.calm 1 (Plan.calm 2 (Plan.calm 3 (Plan.calm 4 (Plan.calm 5 Plan.done)))))) (by kernel_rfl) (by kernel_rfl) (by kernel_rfl) ?_
        have hS : Stp wr wr.drew := (Stp.refl _).drew
        iterate 3 ((first | (refine plan_calm (v := ?_) Lime.getop_ (by rfl) (fun W hW => ?_) ?_; rotate_left; (focus (exact Lime.calm_))) | (refine plan_calm_skip Lime.getop_ (by rfl) ?_)); (try simp only [Act.put, List.setIfInBounds_toArray, List.set_cons_zero, List.set_cons_succ]))
        (first | (refine plan_calm (v := ?_) Lime.getop_ (by rfl) (fun W hW => ?_) ?_; rotate_left; (focus (have q0_ := (hS.trans hW).cell g0; have q1_ := (hS.trans hW).cell g1; have q2_ := (hS.trans hW).cell g2; have q3_ := (hS.trans hW).cell g3; have q4_ := (hS.trans hW).cell g4; have q5_ := (hS.trans hW).cell x0; have q6_ := (hS.trans hW).cell x1; have q7_ := (hS.trans hW).cell x2; have q8_ := (hS.trans hW).cell x3; have q9_ := (hS.trans hW).cell x4; clear hW; (exact Lime.calm_)))) | (refine plan_calm_skip Lime.getop_ (by rfl) ?_)); (try simp only [Act.put, List.setIfInBounds_toArray, List.set_cons_zero, List.set_cons_succ])
        (first | (refine plan_calm (v := ?_) Lime.getop_ (by rfl) (fun W hW => ?_) ?_; rotate_left; (focus (have q0_ := (hS.trans hW).cell g0; have q1_ := (hS.trans hW).cell g1; have q2_ := (hS.trans hW).cell g2; have q3_ := (hS.trans hW).cell g3; have q4_ := (hS.trans hW).cell g4; have q5_ := (hS.trans hW).cell x0; have q6_ := (hS.trans hW).cell x1; have q7_ := (hS.trans hW).cell x2; have q8_ := (hS.trans hW).cell x3; have q9_ := (hS.trans hW).cell x4; clear hW; (exact Lime.calm_)))) | (refine plan_calm_skip Lime.getop_ (by rfl) ?_)); (try simp only [Act.put, List.setIfInBounds_toArray, List.set_cons_zero, List.set_cons_succ])
        (first | (refine plan_calm (v := ?_) Lime.getop_ (by rfl) (fun W hW => ?_) ?_; rotate_left; (focus (exact Lime.calm_))) | (refine plan_calm_skip Lime.getop_ (by rfl) ?_)); (try simp only [Act.put, List.setIfInBounds_toArray, List.set_cons_zero, List.set_cons_succ])
        refine plan_done ?_
        go_wp2_with fail
        go_ret
        exact ⟨ret_int (by rw [← A1.out, idxFrom_hit hlt (by rw [B.out]; exact HQ.out)]), hb0.trans (hb.trans Lime.stp_)⟩
      | false =>
        have HQ := Lib.hid hq
        unfold Hear.same at hq
        go_upto_region 4 with fail
        refine wp_region_plan (Plan.calm 0 (Plan.calm 1 (Plan.calm 2 (Plan.calm 3 (Plan.calm 4 (Plan.calm 5 Plan.done)))))) (by kernel_rfl) (by kernel_rfl) (by kernel_rfl) ?_
        have hS : Stp wr wr.drew := (Stp.refl _).drew
        iterate 3 ((first | (refine plan_calm (v := ?_) Lime.getop_ (by rfl) (fun W hW => ?_) ?_; rotate_left; (focus (exact Lime.calm_))) | (refine plan_calm_skip Lime.getop_ (by rfl) ?_)); (try simp only [Act.put, List.setIfInBounds_toArray, List.set_cons_zero, List.set_cons_succ]))
        (first | (refine plan_calm (v := ?_) Lime.getop_ (by rfl) (fun W hW => ?_) ?_; rotate_left; (focus (have q0_ := (hS.trans hW).cell g0; have q1_ := (hS.trans hW).cell g1; have q2_ := (hS.trans hW).cell g2; have q3_ := (hS.trans hW).cell g3; have q4_ := (hS.trans hW).cell g4; have q5_ := (hS.trans hW).cell x0; have q6_ := (hS.trans hW).cell x1; have q7_ := (hS.trans hW).cell x2; have q8_ := (hS.trans hW).cell x3; have q9_ := (hS.trans hW).cell x4; clear hW; (exact Lime.calm_)))) | (refine plan_calm_skip Lime.getop_ (by rfl) ?_)); (try simp only [Act.put, List.setIfInBounds_toArray, List.set_cons_zero, List.set_cons_succ])
        (first | (refine plan_calm (v := ?_) Lime.getop_ (by rfl) (fun W hW => ?_) ?_; rotate_left; (focus (have q0_ := (hS.trans hW).cell g0; have q1_ := (hS.trans hW).cell g1; have q2_ := (hS.trans hW).cell g2; have q3_ := (hS.trans hW).cell g3; have q4_ := (hS.trans hW).cell g4; have q5_ := (hS.trans hW).cell x0; have q6_ := (hS.trans hW).cell x1; have q7_ := (hS.trans hW).cell x2; have q8_ := (hS.trans hW).cell x3; have q9_ := (hS.trans hW).cell x4; clear hW; (exact Lime.calm_)))) | (refine plan_calm_skip Lime.getop_ (by rfl) ?_)); (try simp only [Act.put, List.setIfInBounds_toArray, List.set_cons_zero, List.set_cons_succ])
        (first | (refine plan_calm (v := ?_) Lime.getop_ (by rfl) (fun W hW => ?_) ?_; rotate_left; (focus (exact Lime.calm_))) | (refine plan_calm_skip Lime.getop_ (by rfl) ?_)); (try simp only [Act.put, List.setIfInBounds_toArray, List.set_cons_zero, List.set_cons_succ])
        refine plan_done ?_
        go_wp2_with fail
        go_roundg (xs.length - (k + 1))
        case measure => omega
        case rel => exact ⟨k + 1, by omega, by omega, by go_num, hb.trans hS, (idxFrom_miss hlt (by rw [B.out]; exact HQ.out)).symm.trans A1.out⟩
    · have hltz : ¬ (k : Int) < (xs.length : Int) := by omega
      go_wp2
      go_ret
      exact ⟨ret_int (by rw [← A1.out, idxFrom_end hlt]), hb0.trans hb⟩
end
attribute [local go_sem high] pnil pnil2 eqCal eqHear eqVis
set_option maxRecDepth 100000 in
set_option maxHeartbeats 8000000 in
theorem fireorder_w {S1 S2 : Nat → Prop} {W : World} {v : Value} {t : List Nd} (hr : Row nodeK S1 W v t) {u : Value} {l : List Hear} (hu : Row hearK S2 W u l) (et tg re : Int) (bub can comp : Bool) : Calls Try.prog 3 #[v, .agg #[.int .i64 et, .int .i64 tg, .int .i64 re, .bool bub, .bool can, .bool comp], u] W fun e w' => e = .returned (.bool true) ∧ Stp W w' := by
  obtain ⟨A, c, rfl, _⟩ := hr.form
  obtain ⟨Al, cl, rfl, hlc, hlm⟩ := hu.form
  have cf := fun W' (h : Stp W W') => few_c (hr.stp h)
  have ck := fun W' (h : Stp W W') => H.rcheck_c (hu.stp h) 64
  have cb := fun W' (h : Stp W W') => both_c (hr.stp h) tg tg
  have e1 := box_at W #[.int .i64 et, .int .i64 tg, .int .i64 re, .bool bub, .bool can, .bool comp] 25 1 _ rfl
  cases hf : (smallT t && decide ((t.length : Int) ≤ 30)) with
  | false =>
    rw [hf] at cf
    go_enter Try.func3, Try.ntmps3
    go_wp2_with (first | (go_at_call 6; refine (cf _ Lime.stp_).mono ?_; rintro e w1 ⟨rfl, hb1⟩) | (go_at_call 9; refine (live9_c _).mono ?_; rintro e w2 ⟨rfl, hb2⟩))
    go_ret
    exact ⟨rfl, by (exact Lime.stp_)⟩
  | true =>
    rw [hf] at cf
    have hs : smallT t = true := by rw [Bool.and_eq_true] at hf; exact hf.1
    have hks := Go.Proofs.Ytaggmjnpocndkaa.P.kidsOk_small hs
    have hl9 : t.length ≤ 900 := by
      rw [Bool.and_eq_true, decide_eq_true_eq] at hf
      omega
    clear hf
    by_cases hck : hearCheck l 64 = 0
    · rw [hck] at ck
      cases hbo : (mayT t && (isN t tg && isN t tg)) with
      | false =>
        rw [hbo] at cb
        go_enter Try.func3, Try.ntmps3
        go_wp2_with (first | (go_at_call 6; refine (cf _ Lime.stp_).mono ?_; rintro e w1 ⟨rfl, hb1⟩; replace e1 := hb1.cell e1) | (go_at_call 7; refine (ck _ Lime.stp_).mono ?_; rintro e w3 ⟨rfl, hb3⟩; replace e1 := hb3.cell e1) | (go_at_call 8; refine (cb _ Lime.stp_).mono ?_; rintro e w4 ⟨rfl, hb4⟩) | (go_at_call 9; refine (live9_c _).mono ?_; rintro e w2 ⟨rfl, hb2⟩))
        go_ret
        exact ⟨rfl, by (exact Lime.stp_)⟩
      | true =>
        rw [hbo] at cb
        have ho : mayT t = true ∧ isN t tg = true := by
          simp only [Bool.and_eq_true] at hbo
          exact ⟨hbo.1, hbo.2.1⟩
        obtain ⟨hl64, hnd⟩ := check_nodup hck
        have hll : l.length ≤ 1000 := by omega
        clear e1 hbo hck
        go_enter Try.func3, Try.ntmps3
        go_upto_region 1 with fail
        obtain ⟨w0, hw0, hs0, hz0, ge⟩ := box_named W #[.int .i64 et, .int .i64 tg, .int .i64 re, .bool bub, .bool can, .bool comp] 25
        have e0 := ge 0 _ rfl
        have e1 := ge 1 _ rfl
        have e2 := ge 2 _ rfl
        have e3 := ge 3 _ rfl
        have e4 := ge 4 _ rfl
        have e5 := ge 5 _ rfl
        rw [hw0]
        clear ge hw0
        go_upto_region 3 with (first | (go_at_call 6; refine (cf _ Lime.stp_).mono ?_; rintro e w1 ⟨rfl, hb1⟩; replace e1 := hb1.cell e1) | (go_at_call 7; refine (ck _ Lime.stp_).mono ?_; rintro e w3 ⟨rfl, hb3⟩; replace e1 := hb3.cell e1) | (go_at_call 8; refine (cb _ Lime.stp_).mono ?_; rintro e w4 ⟨rfl, hb4⟩; replace e1 := hb4.cell e1))
        have hb34 : Stp w0 w4 := hb1.trans (hb3.trans hb4)
        replace e0 := hb34.cell e0
        replace e2 := hb34.cell e2
        replace e3 := hb34.cell e3
        replace e4 := hb34.cell e4
        replace e5 := hb34.cell e5
        have hsw4 := hs0.trans hb34
        have ca := all_yes (hr.stp hsw4) hks hl9 (hu.stp hsw4) hll et re bub can comp ho
        obtain ⟨hah, hme⟩ := fire_ahead hnd et ((May.of ho.1).path_nodup comp tg re tg (.inr ho.2)) bub (fuelT l (visL (pathT t comp tg re tg) bub)) vis0
        generalize allIn et (fuelT l (visL (pathT t comp tg re tg) bub)) l (visL (pathT t comp tg re tg) bub) vis0 [] = F at ca hah hme
        go_upto_region 4 with (go_at_call 10; refine (show Calls Try.prog 10 _ _ _ from ca).mono ?_; rintro e w5 ⟨u5, rfl, o5, hb5⟩; obtain ⟨A5, c5, rfl, hc5, hm5⟩ := o5.reads.form)
        replace e0 := hb5.cell e0
        have hsw5 := hsw4.trans hb5
        have r5 := o5.reads
        have hu5 := hu.stp hsw5
        clear e1 e2 e3 e4 e5 o5 ca cf ck cb hr hu hks hb1 hb3 hb4 hb34 hb5
        have hah' := List.pairwise_iff_getElem.1 hah
        clear hah
        go_wp2_with fail
        go_loopg [8] F.length (fun gg s8 W' => ∃ i : Nat, F.length - i ≤ gg ∧ s8 = .int .i64 i ∧ i ≤ F.length ∧ Aside (Stp w5 W'))
        case atStart => exact ⟨0, Nat.le_refl _, rfl, Nat.zero_le _, Stp.refl _⟩
        case round =>
          obtain ⟨i, hg, rfl, hi, HA⟩ := hrel
          have hst := HA.out
          clear HA
          by_cases hlt : i < F.length
          · have hltz : (i : Int) < (F.length : Int) := by omega
            obtain ⟨bb, oo, rfl, _, a0, a1, a2, a3, a4, a5, a6, a7, a8, a9⟩ := cal_at (r5.stp hst) i hlt
            have hmi := hme _ (List.getElem_mem hlt)
            have hai := fun k (hk : k < i) => hah' k i (by omega) hlt hk
            generalize hx : F[i] = x at a0 a1 a2 a3 a4 a5 a6 a7 a8 a9 hmi hai
            have HM := Lib.hid hmi
            clear hmi hx
            have e0' := hst.cell e0
            go_upto_region 8 with fail
            obtain ⟨w6, hw6, s6, z6, b6⟩ := box10 wr (.int .i64 x.hear.node) (.int .i64 x.hear.type) (.bool x.hear.cap) (.bool x.hear.once) (.int .i64 x.hear.prog) (.int .i64 x.vis.stop.node) (.int .i64 x.vis.stop.target) (.int .i64 x.vis.stop.related) (.int .i64 x.vis.phase) (.bool x.vis.cap)
            rw [hw6]
            clear a0 a1 a2 a3 a4 a5 a6 a7 a8 a9 hw6
            obtain ⟨d0, _⟩ := inB b6 0 _ rfl
            obtain ⟨d1, _⟩ := inB b6 1 (.int .i64 x.hear.type) rfl
            obtain ⟨d2, _⟩ := inB b6 2 _ rfl
            obtain ⟨d5, _⟩ := inB b6 5 (.int .i64 x.vis.stop.node) rfl
            obtain ⟨d9, _⟩ := inB b6 9 (.bool x.vis.cap) rfl
            rw [HM.out.2.1] at d1
            rw [← HM.out.2.2.1] at d5
            rw [← HM.out.2.2.2] at d9
            replace e0' := s6.cell e0'
            have hst6 := hst.trans s6
            go_upto_region 10 with fail
            clear d0 d1 d2 d5 d9 e0' s6
            obtain ⟨p2, hp2⟩ : ∃ p2, plcH l x.hear = p2 := ⟨_, rfl⟩
            have hp20 : 0 ≤ p2 := by
              obtain ⟨q, hq⟩ := List.getElem?_of_mem HM.out.1
              rw [← hp2, plcH_at hnd hq]
              omega
            have cp2 := fun W' (h : Stp w6 W') => place_c (hu5.stp (hst6.trans h)) x.hear
            rw [hp2] at cp2
            have HP2 := Lib.hid hp2
            clear hp2 HM
            go_wp2_with fail
            go_loopg [10] i (fun gg s10 W' => ∃ k : Nat, i - k ≤ gg ∧ s10 = .int .i64 k ∧ k ≤ i ∧ Aside (Stp w6 W'))
            case atStart => exact ⟨0, Nat.le_refl _, rfl, Nat.zero_le _, Stp.refl _⟩
            case round =>
              obtain ⟨k, hg2, rfl, hk, HA⟩ := hrel
              have hst2 := HA.out
              clear HA
              by_cases hlk : k < i
              · have hlkz : (k : Int) < (i : Int) := by omega
                have hlkF : k < F.length := by omega
                have hlkFz : (k : Int) < (F.length : Int) := by omega
                obtain ⟨hne, hpl⟩ := hai k hlk
                obtain ⟨bk, ok, eA, _, a0, a1, a2, a3, a4, a5, a6, a7, a8, a9⟩ := cal_at (r5.stp (hst6.trans hst2)) k hlkF
                obtain ⟨rfl, rfl⟩ : bb = bk ∧ oo = ok := by injection eA with eA; injection eA with h1 h2; exact ⟨h1, h2⟩
                clear eA
                generalize F[k] = y at a0 a1 a2 a3 a4 a5 a6 a7 a8 a9 hne hpl
                have b7 := hst2.heap b6
                obtain ⟨d0, _⟩ := inB b7 0 _ rfl
                obtain ⟨d1, _⟩ := inB b7 1 _ rfl
                obtain ⟨d2, _⟩ := inB b7 2 _ rfl
                obtain ⟨d3, _⟩ := inB b7 3 _ rfl
                obtain ⟨d4, _⟩ := inB b7 4 _ rfl
                obtain ⟨d5, _⟩ := inB b7 5 _ rfl
                obtain ⟨d6, _⟩ := inB b7 6 _ rfl
                obtain ⟨d7, _⟩ := inB b7 7 _ rfl
                obtain ⟨d8, _⟩ := inB b7 8 _ rfl
                obtain ⟨d9, _⟩ := inB b7 9 _ rfl
                have cp1 := fun W' (h : Stp wr W') => place_c (hu5.stp (hst6.trans (hst2.trans h))) y.hear
                have cp3 := fun W' (h : Stp wr W') => cp2 W' (hst2.trans h)
                have hsm : Hear.same y.hear x.hear = false := by
                  cases h : Hear.same y.hear x.hear with
                  | false => rfl
                  | true => exact absurd ((same_iff _ _).1 h) hne
                have hvq : ((y.vis.stop.node == x.vis.stop.node && (y.vis.stop.target == x.vis.stop.target && (y.vis.stop.related == x.vis.stop.related))) && (y.vis.phase == x.vis.phase && (y.vis.cap == x.vis.cap))) = true → y.vis = x.vis := fun h => by
                  obtain ⟨_, ⟨⟨v0, v1, v2⟩, v3, v4⟩⟩ := y
                  obtain ⟨_, ⟨⟨z0, z1, z2⟩, z3, z4⟩⟩ := x
                  simp only [Bool.and_eq_true, beq_iff_eq] at h
                  simp [h]
                have f6 : wr.cell? ⟨bb, oo + k * 10 + 5 + 1, none⟩ = some (.int .i64 y.vis.stop.target) := a6
                have f7 : wr.cell? ⟨bb, oo + k * 10 + 5 + 2, none⟩ = some (.int .i64 y.vis.stop.related) := a7
                have f8 : wr.cell? ⟨bb, oo + k * 10 + 5 + 3, none⟩ = some (.int .i64 y.vis.phase) := a8
                have f9 : wr.cell? ⟨bb, oo + k * 10 + 5 + 4, none⟩ = some (.bool y.vis.cap) := a9
                have HPL := Lib.hid hpl
                clear hpl hne b7
                obtain ⟨p1, hp1⟩ : ∃ p1, plcH l y.hear = p1 := ⟨_, rfl⟩
                rw [hp1] at cp1
                have HP1 := Lib.hid hp1
                clear hp1
                unfold Hear.same at hsm
                go_upto_region 13 with fail
                refine wp_region_plan (Plan.calm 0 (Plan.calm 1 (Plan.calm 2 (Plan.calm 3 (Plan.calm 4 (Plan.calm 5 (Plan.calm 6 (Plan.calm 7 Plan.done)))))))) (by kernel_rfl) (by kernel_rfl) (by kernel_rfl) ?_
                have hS : Stp wr wr.drew := (Stp.refl _).drew
                iterate 4 ((first | (refine plan_calm (v := ?_) Lime.getop_ (by rfl) (fun W hW => ?_) ?_; rotate_left; (focus (exact Lime.calm_))) | (refine plan_calm_skip Lime.getop_ (by rfl) ?_)); (try simp only [Act.put, List.setIfInBounds_toArray, List.set_cons_zero, List.set_cons_succ]))
                (first | (refine plan_calm (v := ?_) Lime.getop_ (by rfl) (fun W hW => ?_) ?_; rotate_left; (focus (have q0_ := (hS.trans hW).cell a0; have q1_ := (hS.trans hW).cell a1; have q2_ := (hS.trans hW).cell a2; have q3_ := (hS.trans hW).cell a3; have q4_ := (hS.trans hW).cell a4; have q5_ := (hS.trans hW).cell d0; have q6_ := (hS.trans hW).cell d1; have q7_ := (hS.trans hW).cell d2; have q8_ := (hS.trans hW).cell d3; have q9_ := (hS.trans hW).cell d4; clear hW; (exact Lime.calm_)))) | (refine plan_calm_skip Lime.getop_ (by rfl) ?_)); (try simp only [Act.put, List.setIfInBounds_toArray, List.set_cons_zero, List.set_cons_succ])
                (first | (refine plan_calm (v := ?_) Lime.getop_ (by rfl) (fun W hW => ?_) ?_; rotate_left; (focus (exact Lime.calm_))) | (refine plan_calm_skip Lime.getop_ (by rfl) ?_)); (try simp only [Act.put, List.setIfInBounds_toArray, List.set_cons_zero, List.set_cons_succ])
                (first | (refine plan_calm (v := ?_) Lime.getop_ (by rfl) (fun W hW => ?_) ?_; rotate_left; (focus (have q0_ := (hS.trans hW).cell a0; have q1_ := (hS.trans hW).cell a1; have q2_ := (hS.trans hW).cell a2; have q3_ := (hS.trans hW).cell a3; have q4_ := (hS.trans hW).cell a4; have q5_ := (hS.trans hW).cell d0; have q6_ := (hS.trans hW).cell d1; have q7_ := (hS.trans hW).cell d2; have q8_ := (hS.trans hW).cell d3; have q9_ := (hS.trans hW).cell d4; clear hW; (exact Lime.calm_)))) | (refine plan_calm_skip Lime.getop_ (by rfl) ?_)); (try simp only [Act.put, List.setIfInBounds_toArray, List.set_cons_zero, List.set_cons_succ])
                (first | (refine plan_calm (v := ?_) Lime.getop_ (by rfl) (fun W hW => ?_) ?_; rotate_left; (focus (exact Lime.calm_))) | (refine plan_calm_skip Lime.getop_ (by rfl) ?_)); (try simp only [Act.put, List.setIfInBounds_toArray, List.set_cons_zero, List.set_cons_succ])
                refine plan_done ?_
                go_upto_region 15 with fail
                obtain ⟨wd, hwd⟩ : ∃ wd, wr.drew = wd := ⟨_, rfl⟩
                have hsd : Stp wr wd := by rw [← hwd]; exact (Stp.refl wr).drew
                rw [hwd]
                clear hwd hS
                replace a0 := hsd.cell a0
                replace a1 := hsd.cell a1
                replace a2 := hsd.cell a2
                replace a3 := hsd.cell a3
                replace a4 := hsd.cell a4
                replace a5 := hsd.cell a5
                replace f6 := hsd.cell f6
                replace f7 := hsd.cell f7
                replace f8 := hsd.cell f8
                replace f9 := hsd.cell f9
                replace d0 := hsd.cell d0
                replace d1 := hsd.cell d1
                replace d2 := hsd.cell d2
                replace d3 := hsd.cell d3
                replace d4 := hsd.cell d4
                replace d5 := hsd.cell d5
                replace d6 := hsd.cell d6
                replace d7 := hsd.cell d7
                replace d8 := hsd.cell d8
                replace d9 := hsd.cell d9
                have cp1' := fun W' (h : Stp wd W') => cp1 W' (hsd.trans h)
                have cp3' := fun W' (h : Stp wd W') => cp3 W' (hsd.trans h)
                clear cp1 cp3 a6 a7 a8 a9
                cases hv : ((y.vis.stop.node == x.vis.stop.node && (y.vis.stop.target == x.vis.stop.target && (y.vis.stop.related == x.vis.stop.related))) && (y.vis.phase == x.vis.phase && (y.vis.cap == x.vis.cap))) with
                | false =>
                  clear hvq HPL
                  as_aux_lemma =>
                    refine wp_region_plan (Plan.calm 0 (Plan.calm 1 (Plan.calm 2 (Plan.calm 3 (Plan.calm 4 (Plan.calm 5 (Plan.calm 6 (Plan.calm 7 (Plan.calm 8 (Plan.calm 9 (Plan.calm 10 (Plan.calm 11 (Plan.calm 12 (Plan.calm 13 (Plan.calm 14 (Plan.calm 16 (Plan.calm 17 (Plan.calm 18 (Plan.alt 15 (Plan.alt 19 (Plan.calm 20 (Plan.calm 21 Plan.done)) Plan.stop) Plan.stop))))))))))))))))))) (by kernel_rfl) (by kernel_rfl) (by kernel_rfl) ?_
                    have hS : Stp wd wd.drew := (Stp.refl _).drew
                    iterate 4 ((first | (refine plan_calm (v := ?_) Lime.getop_ (by rfl) (fun W hW => ?_) ?_; rotate_left; (focus (exact Lime.calm_))) | (refine plan_calm_skip Lime.getop_ (by rfl) ?_)); (try simp only [Act.put, List.setIfInBounds_toArray, List.set_cons_zero, List.set_cons_succ]))
                    (first | (refine plan_calm (v := ?_) Lime.getop_ (by rfl) (fun W hW => ?_) ?_; rotate_left; (focus (have q0_ := (hS.trans hW).cell a0; have q1_ := (hS.trans hW).cell a1; have q2_ := (hS.trans hW).cell a2; have q3_ := (hS.trans hW).cell a3; have q4_ := (hS.trans hW).cell a4; have q5_ := (hS.trans hW).cell a5; have q6_ := (hS.trans hW).cell f6; have q7_ := (hS.trans hW).cell f7; have q8_ := (hS.trans hW).cell f8; have q9_ := (hS.trans hW).cell f9; have q10_ := (hS.trans hW).cell d0; have q11_ := (hS.trans hW).cell d1; have q12_ := (hS.trans hW).cell d2; have q13_ := (hS.trans hW).cell d3; have q14_ := (hS.trans hW).cell d4; have q15_ := (hS.trans hW).cell d5; have q16_ := (hS.trans hW).cell d6; have q17_ := (hS.trans hW).cell d7; have q18_ := (hS.trans hW).cell d8; have q19_ := (hS.trans hW).cell d9; clear hW; (exact Lime.calm_)))) | (refine plan_calm_skip Lime.getop_ (by rfl) ?_)); (try simp only [Act.put, List.setIfInBounds_toArray, List.set_cons_zero, List.set_cons_succ])
                    (first | (refine plan_calm (v := ?_) Lime.getop_ (by rfl) (fun W hW => ?_) ?_; rotate_left; (focus (exact Lime.calm_))) | (refine plan_calm_skip Lime.getop_ (by rfl) ?_)); (try simp only [Act.put, List.setIfInBounds_toArray, List.set_cons_zero, List.set_cons_succ])
                    (first | (refine plan_calm (v := ?_) Lime.getop_ (by rfl) (fun W hW => ?_) ?_; rotate_left; (focus (have q0_ := (hS.trans hW).cell a0; have q1_ := (hS.trans hW).cell a1; have q2_ := (hS.trans hW).cell a2; have q3_ := (hS.trans hW).cell a3; have q4_ := (hS.trans hW).cell a4; have q5_ := (hS.trans hW).cell a5; have q6_ := (hS.trans hW).cell f6; have q7_ := (hS.trans hW).cell f7; have q8_ := (hS.trans hW).cell f8; have q9_ := (hS.trans hW).cell f9; have q10_ := (hS.trans hW).cell d0; have q11_ := (hS.trans hW).cell d1; have q12_ := (hS.trans hW).cell d2; have q13_ := (hS.trans hW).cell d3; have q14_ := (hS.trans hW).cell d4; have q15_ := (hS.trans hW).cell d5; have q16_ := (hS.trans hW).cell d6; have q17_ := (hS.trans hW).cell d7; have q18_ := (hS.trans hW).cell d8; have q19_ := (hS.trans hW).cell d9; clear hW; (exact Lime.calm_)))) | (refine plan_calm_skip Lime.getop_ (by rfl) ?_)); (try simp only [Act.put, List.setIfInBounds_toArray, List.set_cons_zero, List.set_cons_succ])
                    iterate 7 ((first | (refine plan_calm (v := ?_) Lime.getop_ (by rfl) (fun W hW => ?_) ?_; rotate_left; (focus (exact Lime.calm_))) | (refine plan_calm_skip Lime.getop_ (by rfl) ?_)); (try simp only [Act.put, List.setIfInBounds_toArray, List.set_cons_zero, List.set_cons_succ]))
                    (first | (refine plan_calm (v := ?_) Lime.getop_ (by rfl) (fun W hW => ?_) ?_; rotate_left; (focus (have q0_ := (hS.trans hW).cell a0; have q1_ := (hS.trans hW).cell a1; have q2_ := (hS.trans hW).cell a2; have q3_ := (hS.trans hW).cell a3; have q4_ := (hS.trans hW).cell a4; have q5_ := (hS.trans hW).cell a5; have q6_ := (hS.trans hW).cell f6; have q7_ := (hS.trans hW).cell f7; have q8_ := (hS.trans hW).cell f8; have q9_ := (hS.trans hW).cell f9; have q10_ := (hS.trans hW).cell d0; have q11_ := (hS.trans hW).cell d1; have q12_ := (hS.trans hW).cell d2; have q13_ := (hS.trans hW).cell d3; have q14_ := (hS.trans hW).cell d4; have q15_ := (hS.trans hW).cell d5; have q16_ := (hS.trans hW).cell d6; have q17_ := (hS.trans hW).cell d7; have q18_ := (hS.trans hW).cell d8; have q19_ := (hS.trans hW).cell d9; clear hW; (exact Lime.calm_)))) | (refine plan_calm_skip Lime.getop_ (by rfl) ?_)); (try simp only [Act.put, List.setIfInBounds_toArray, List.set_cons_zero, List.set_cons_succ])
                    iterate 2 ((first | (refine plan_calm (v := ?_) Lime.getop_ (by rfl) (fun W hW => ?_) ?_; rotate_left; (focus (exact Lime.calm_))) | (refine plan_calm_skip Lime.getop_ (by rfl) ?_)); (try simp only [Act.put, List.setIfInBounds_toArray, List.set_cons_zero, List.set_cons_succ]))
                    (first | (refine plan_calm (v := ?_) Lime.getop_ (by rfl) (fun W hW => ?_) ?_; rotate_left; (focus (have q0_ := (hS.trans hW).cell a0; have q1_ := (hS.trans hW).cell a1; have q2_ := (hS.trans hW).cell a2; have q3_ := (hS.trans hW).cell a3; have q4_ := (hS.trans hW).cell a4; have q5_ := (hS.trans hW).cell a5; have q6_ := (hS.trans hW).cell f6; have q7_ := (hS.trans hW).cell f7; have q8_ := (hS.trans hW).cell f8; have q9_ := (hS.trans hW).cell f9; have q10_ := (hS.trans hW).cell d0; have q11_ := (hS.trans hW).cell d1; have q12_ := (hS.trans hW).cell d2; have q13_ := (hS.trans hW).cell d3; have q14_ := (hS.trans hW).cell d4; have q15_ := (hS.trans hW).cell d5; have q16_ := (hS.trans hW).cell d6; have q17_ := (hS.trans hW).cell d7; have q18_ := (hS.trans hW).cell d8; have q19_ := (hS.trans hW).cell d9; clear hW; (exact Lime.calm_)))) | (refine plan_calm_skip Lime.getop_ (by rfl) ?_)); (try simp only [Act.put, List.setIfInBounds_toArray, List.set_cons_zero, List.set_cons_succ])
                    (first | (refine plan_event Lime.getop_ (by rfl) (fun K hK => ?_) plan_stop; go_simp; refine hK _ _ ?_ (fun hst => ?_); (focus (exact Lime.stp_)); replace hS := hS.trans hst; clear hst hK K) | refine plan_event_skip Lime.getop_ (by rfl) ?_ plan_stop); (try simp only [Act.put, List.setIfInBounds_toArray, List.set_cons_zero, List.set_cons_succ])
                    (first | (refine plan_event Lime.getop_ (by rfl) (fun K hK => ?_) plan_stop; go_simp; refine hK _ _ ?_ (fun hst => ?_); (focus (exact Lime.stp_)); replace hS := hS.trans hst; clear hst hK K) | refine plan_event_skip Lime.getop_ (by rfl) ?_ plan_stop); (try simp only [Act.put, List.setIfInBounds_toArray, List.set_cons_zero, List.set_cons_succ])
                    iterate 2 ((first | (refine plan_calm (v := ?_) Lime.getop_ (by rfl) (fun W hW => ?_) ?_; rotate_left; (focus (exact Lime.calm_))) | (refine plan_calm_skip Lime.getop_ (by rfl) ?_)); (try simp only [Act.put, List.setIfInBounds_toArray, List.set_cons_zero, List.set_cons_succ]))
                    refine plan_done ?_
                    go_wp2_with fail
                    go_roundg (i - (k + 1))
                    case measure => omega
                    case rel => exact ⟨k + 1, Nat.le_refl _, by go_num, hlk, hst2.trans (hsd.trans hS)⟩
                | true =>
                  obtain ⟨i1, i2, hi12, hi1, hi2⟩ := HPL.out (hvq hv)
                  have hgt : ¬ p2 < p1 := by
                    rw [← HP2.out, ← HP1.out, plcH_at hnd hi1, plcH_at hnd hi2]
                    omega
                  clear hvq HPL
                  as_aux_lemma =>
                    refine wp_region_plan (Plan.calm 0 (Plan.calm 1 (Plan.calm 2 (Plan.calm 3 (Plan.calm 4 (Plan.calm 5 (Plan.calm 6 (Plan.calm 7 (Plan.calm 8 (Plan.calm 9 (Plan.calm 10 (Plan.calm 11 (Plan.calm 12 (Plan.calm 13 (Plan.calm 14 (Plan.calm 16 (Plan.calm 17 (Plan.calm 18 (Plan.alt 15 (Plan.alt 19 (Plan.calm 20 (Plan.calm 21 Plan.done)) Plan.stop) Plan.stop))))))))))))))))))) (by kernel_rfl) (by kernel_rfl) (by kernel_rfl) ?_
                    have hS : Stp wd wd.drew := (Stp.refl _).drew
                    iterate 4 ((first | (refine plan_calm (v := ?_) Lime.getop_ (by rfl) (fun W hW => ?_) ?_; rotate_left; (focus (exact Lime.calm_))) | (refine plan_calm_skip Lime.getop_ (by rfl) ?_)); (try simp only [Act.put, List.setIfInBounds_toArray, List.set_cons_zero, List.set_cons_succ]))
                    (first | (refine plan_calm (v := ?_) Lime.getop_ (by rfl) (fun W hW => ?_) ?_; rotate_left; (focus (have q0_ := (hS.trans hW).cell a0; have q1_ := (hS.trans hW).cell a1; have q2_ := (hS.trans hW).cell a2; have q3_ := (hS.trans hW).cell a3; have q4_ := (hS.trans hW).cell a4; have q5_ := (hS.trans hW).cell a5; have q6_ := (hS.trans hW).cell f6; have q7_ := (hS.trans hW).cell f7; have q8_ := (hS.trans hW).cell f8; have q9_ := (hS.trans hW).cell f9; have q10_ := (hS.trans hW).cell d0; have q11_ := (hS.trans hW).cell d1; have q12_ := (hS.trans hW).cell d2; have q13_ := (hS.trans hW).cell d3; have q14_ := (hS.trans hW).cell d4; have q15_ := (hS.trans hW).cell d5; have q16_ := (hS.trans hW).cell d6; have q17_ := (hS.trans hW).cell d7; have q18_ := (hS.trans hW).cell d8; have q19_ := (hS.trans hW).cell d9; clear hW; (exact Lime.calm_)))) | (refine plan_calm_skip Lime.getop_ (by rfl) ?_)); (try simp only [Act.put, List.setIfInBounds_toArray, List.set_cons_zero, List.set_cons_succ])
                    (first | (refine plan_calm (v := ?_) Lime.getop_ (by rfl) (fun W hW => ?_) ?_; rotate_left; (focus (exact Lime.calm_))) | (refine plan_calm_skip Lime.getop_ (by rfl) ?_)); (try simp only [Act.put, List.setIfInBounds_toArray, List.set_cons_zero, List.set_cons_succ])
                    (first | (refine plan_calm (v := ?_) Lime.getop_ (by rfl) (fun W hW => ?_) ?_; rotate_left; (focus (have q0_ := (hS.trans hW).cell a0; have q1_ := (hS.trans hW).cell a1; have q2_ := (hS.trans hW).cell a2; have q3_ := (hS.trans hW).cell a3; have q4_ := (hS.trans hW).cell a4; have q5_ := (hS.trans hW).cell a5; have q6_ := (hS.trans hW).cell f6; have q7_ := (hS.trans hW).cell f7; have q8_ := (hS.trans hW).cell f8; have q9_ := (hS.trans hW).cell f9; have q10_ := (hS.trans hW).cell d0; have q11_ := (hS.trans hW).cell d1; have q12_ := (hS.trans hW).cell d2; have q13_ := (hS.trans hW).cell d3; have q14_ := (hS.trans hW).cell d4; have q15_ := (hS.trans hW).cell d5; have q16_ := (hS.trans hW).cell d6; have q17_ := (hS.trans hW).cell d7; have q18_ := (hS.trans hW).cell d8; have q19_ := (hS.trans hW).cell d9; clear hW; (exact Lime.calm_)))) | (refine plan_calm_skip Lime.getop_ (by rfl) ?_)); (try simp only [Act.put, List.setIfInBounds_toArray, List.set_cons_zero, List.set_cons_succ])
                    iterate 7 ((first | (refine plan_calm (v := ?_) Lime.getop_ (by rfl) (fun W hW => ?_) ?_; rotate_left; (focus (exact Lime.calm_))) | (refine plan_calm_skip Lime.getop_ (by rfl) ?_)); (try simp only [Act.put, List.setIfInBounds_toArray, List.set_cons_zero, List.set_cons_succ]))
                    (first | (refine plan_calm (v := ?_) Lime.getop_ (by rfl) (fun W hW => ?_) ?_; rotate_left; (focus (have q0_ := (hS.trans hW).cell a0; have q1_ := (hS.trans hW).cell a1; have q2_ := (hS.trans hW).cell a2; have q3_ := (hS.trans hW).cell a3; have q4_ := (hS.trans hW).cell a4; have q5_ := (hS.trans hW).cell a5; have q6_ := (hS.trans hW).cell f6; have q7_ := (hS.trans hW).cell f7; have q8_ := (hS.trans hW).cell f8; have q9_ := (hS.trans hW).cell f9; have q10_ := (hS.trans hW).cell d0; have q11_ := (hS.trans hW).cell d1; have q12_ := (hS.trans hW).cell d2; have q13_ := (hS.trans hW).cell d3; have q14_ := (hS.trans hW).cell d4; have q15_ := (hS.trans hW).cell d5; have q16_ := (hS.trans hW).cell d6; have q17_ := (hS.trans hW).cell d7; have q18_ := (hS.trans hW).cell d8; have q19_ := (hS.trans hW).cell d9; clear hW; (exact Lime.calm_)))) | (refine plan_calm_skip Lime.getop_ (by rfl) ?_)); (try simp only [Act.put, List.setIfInBounds_toArray, List.set_cons_zero, List.set_cons_succ])
                    iterate 2 ((first | (refine plan_calm (v := ?_) Lime.getop_ (by rfl) (fun W hW => ?_) ?_; rotate_left; (focus (exact Lime.calm_))) | (refine plan_calm_skip Lime.getop_ (by rfl) ?_)); (try simp only [Act.put, List.setIfInBounds_toArray, List.set_cons_zero, List.set_cons_succ]))
                    (first | (refine plan_calm (v := ?_) Lime.getop_ (by rfl) (fun W hW => ?_) ?_; rotate_left; (focus (have q0_ := (hS.trans hW).cell a0; have q1_ := (hS.trans hW).cell a1; have q2_ := (hS.trans hW).cell a2; have q3_ := (hS.trans hW).cell a3; have q4_ := (hS.trans hW).cell a4; have q5_ := (hS.trans hW).cell a5; have q6_ := (hS.trans hW).cell f6; have q7_ := (hS.trans hW).cell f7; have q8_ := (hS.trans hW).cell f8; have q9_ := (hS.trans hW).cell f9; have q10_ := (hS.trans hW).cell d0; have q11_ := (hS.trans hW).cell d1; have q12_ := (hS.trans hW).cell d2; have q13_ := (hS.trans hW).cell d3; have q14_ := (hS.trans hW).cell d4; have q15_ := (hS.trans hW).cell d5; have q16_ := (hS.trans hW).cell d6; have q17_ := (hS.trans hW).cell d7; have q18_ := (hS.trans hW).cell d8; have q19_ := (hS.trans hW).cell d9; clear hW; (exact Lime.calm_)))) | (refine plan_calm_skip Lime.getop_ (by rfl) ?_)); (try simp only [Act.put, List.setIfInBounds_toArray, List.set_cons_zero, List.set_cons_succ])
                    (first | (refine plan_event Lime.getop_ (by rfl) (fun K hK => ?_) plan_stop; go_simp; refine (show Calls Try.prog 11 _ _ _ from cp1' _ Lime.stp_).mono ?_; rintro e w7 ⟨rfl, hb7⟩; refine hK _ _ ?_ (fun hst => ?_); (focus (exact Lime.stp_)); replace hS := hS.trans hst; clear hst hK K) | refine plan_event_skip Lime.getop_ (by rfl) ?_ plan_stop); (try simp only [Act.put, List.setIfInBounds_toArray, List.set_cons_zero, List.set_cons_succ])
                    (first | (refine plan_event Lime.getop_ (by rfl) (fun K hK => ?_) plan_stop; go_simp; refine (show Calls Try.prog 11 _ _ _ from cp3' _ Lime.stp_).mono ?_; rintro e w8 ⟨rfl, hb8⟩; refine hK _ _ ?_ (fun hst => ?_); (focus (exact Lime.stp_)); replace hS := hS.trans hst; clear hst hK K) | refine plan_event_skip Lime.getop_ (by rfl) ?_ plan_stop); (try simp only [Act.put, List.setIfInBounds_toArray, List.set_cons_zero, List.set_cons_succ])
                    iterate 2 ((first | (refine plan_calm (v := ?_) Lime.getop_ (by rfl) (fun W hW => ?_) ?_; rotate_left; (focus (exact Lime.calm_))) | (refine plan_calm_skip Lime.getop_ (by rfl) ?_)); (try simp only [Act.put, List.setIfInBounds_toArray, List.set_cons_zero, List.set_cons_succ]))
                    refine plan_done ?_
                    go_wp2_with fail
                    go_roundg (i - (k + 1))
                    case measure => omega
                    case rel => exact ⟨k + 1, Nat.le_refl _, by go_num, hlk, hst2.trans (hsd.trans hS)⟩
              · have hlkz : ¬ (k : Int) < (i : Int) := by omega
                have b7 := hst2.heap b6
                obtain ⟨d0, _⟩ := inB b7 0 _ rfl
                obtain ⟨d1, _⟩ := inB b7 1 _ rfl
                obtain ⟨d2, _⟩ := inB b7 2 _ rfl
                obtain ⟨d3, _⟩ := inB b7 3 _ rfl
                obtain ⟨d4, _⟩ := inB b7 4 _ rfl
                have hp20' : ¬ p2 < 0 := by omega
                go_wp2_with (go_at_call 11; refine (show Calls Try.prog 11 _ _ _ from cp2 _ hst2).mono ?_; rintro e w7 ⟨rfl, hb7⟩)
                go_roundg (F.length - (i + 1))
                case measure => omega
                case rel => exact ⟨i + 1, Nat.le_refl _, by go_num, hlt, hst6.trans (hst2.trans hb7)⟩
          · have hltz : ¬ (i : Int) < (F.length : Int) := by omega
            go_wp2_with (go_at_call 9; refine (live9_c _).mono ?_; rintro e w9 ⟨rfl, hb9⟩)
            go_ret
            exact ⟨rfl, hsw5.trans (hst.trans hb9)⟩
    · have hcz : ((hearCheck l 64) != 0) = true := by simpa using hck
      generalize hearCheck l 64 = hc at ck hcz hck
      clear hck
      go_enter Try.func3, Try.ntmps3
      go_wp2_with (first | (go_at_call 6; refine (cf _ Lime.stp_).mono ?_; rintro e w1 ⟨rfl, hb1⟩; replace e1 := hb1.cell e1) | (go_at_call 7; refine (ck _ Lime.stp_).mono ?_; rintro e w3 ⟨rfl, hb3⟩; replace e1 := hb3.cell e1) | (go_at_call 9; refine (live9_c _).mono ?_; rintro e w2 ⟨rfl, hb2⟩))
      go_ret
      exact ⟨rfl, by (exact Lime.stp_)⟩
end Go.Proofs.Lime
