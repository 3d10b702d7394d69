/- Walk: the law FireAll. -/
import Derived.Test.YtaggmjnpocndkaaGreatFlv
import Derived.Test.YtaggmjnpocndkaaGreatRoA
namespace Go.Proofs.Lime
open Go.RowKit
set_option linter.unusedVariables false
set_option linter.unusedSimpArgs false
attribute [local go_sem] Oper.semAt_some
theorem eqRS (d : Nat) (w : World) (x0 y0 x1 y1 x2 y2 : Int) :
    (Op.equalIn (d + 2) 42 (.agg #[.int .i64 x0, .int .i64 x1, .int .i64 x2]) (.agg #[.int .i64 y0, .int .i64 y1, .int .i64 y2])).run Tryz.prog w = .ok (x0 == y0 && (x1 == y1 && (x2 == y2))) w := by
  refine eqA_of Tryz.underlying42 (by kernel_rfl) ?_
  refine eqf_cons (by rfl) (by go_simp; rfl) (by go_simp; rfl) (by go_simp) ?_
  refine eqf_cons (by rfl) (by go_simp; rfl) (by go_simp; rfl) (by go_simp) ?_
  exact eqf_last (by rfl) (by go_simp; rfl) (by go_simp; rfl) (by go_simp)
theorem cal_row {S : Nat → Prop} {w : World} {A : Option Addr} {n c : Nat} {xs : List Cal} (h : Row calK S w (.slice A n c) xs) (k : Nat) (hk : k < xs.length) :
    ∃ b o, A = some ⟨b, o, none⟩ ∧ w.cell? ⟨b, o + k * 10, none⟩ = some (.int .i64 xs[k].hear.node) ∧ w.cell? ⟨b, o + k * 10 + 1, none⟩ = some (.int .i64 xs[k].hear.type) ∧ w.cell? ⟨b, o + k * 10 + 2, none⟩ = some (.bool xs[k].hear.cap) ∧ w.cell? ⟨b, o + k * 10 + 3, none⟩ = some (.bool xs[k].hear.once) ∧ w.cell? ⟨b, o + k * 10 + 4, none⟩ = some (.int .i64 xs[k].hear.prog) ∧
      w.cell? ⟨b, o + k * 10 + 5, none⟩ = some (.int .i64 xs[k].vis.stop.node) ∧ w.cell? ⟨b, o + k * 10 + 6, none⟩ = some (.int .i64 xs[k].vis.stop.target) ∧ w.cell? ⟨b, o + k * 10 + 7, none⟩ = some (.int .i64 xs[k].vis.stop.related) ∧ w.cell? ⟨b, o + k * 10 + 8, none⟩ = some (.int .i64 xs[k].vis.phase) ∧ w.cell? ⟨b, o + k * 10 + 9, none⟩ = some (.bool xs[k].vis.cap) := by
  obtain ⟨b, o, c', cs, e, hS, hb, hK, hc⟩ := h.get k hk
  injection e with e1 e2 e3
  have hK' : cs = Cal.cells xs[k] := hK
  subst hK'
  exact ⟨b, o, e1, hc 0 _ rfl, hc 1 _ rfl, hc 2 _ rfl, hc 3 _ rfl, hc 4 _ rfl, hc 5 _ rfl, hc 6 _ rfl, hc 7 _ rfl, hc 8 _ rfl, hc 9 _ rfl⟩
theorem kidsOk_of {t : List Nd} (h : smallT t = true) : KidsOk t := fun k hk => by
  unfold smallT at h
  rw [Bool.and_eq_true, List.all_eq_true] at h
  have := h.2 _ (List.getElem_mem hk)
  simp only [Bool.and_eq_true, decide_eq_true_eq] at this
  omega
section
attribute [local go_sem high] eqHear eqRS
set_option maxRecDepth 100000 in
set_option maxHeartbeats 4000000 in
theorem same_c (w : World) (c : Cal) : Calls Tryz.prog 8 #[.agg #[.int .i64 c.hear.node, .int .i64 c.hear.type, .bool c.hear.cap, .bool c.hear.once, .int .i64 c.hear.prog, .int .i64 c.vis.stop.node, .int .i64 c.vis.stop.target, .int .i64 c.vis.stop.related, .int .i64 c.vis.phase, .bool c.vis.cap], .agg #[.int .i64 c.hear.node, .int .i64 c.hear.type, .bool c.hear.cap, .bool c.hear.once, .int .i64 c.hear.prog, .int .i64 c.vis.stop.node, .int .i64 c.vis.stop.target, .int .i64 c.vis.stop.related, .int .i64 c.vis.phase, .bool c.vis.cap]] w fun e w' => e = .returned (.bool true) ∧ Stp w w' := by
  obtain ⟨w1, hw1, hs1, hz1, e_, hB⟩ := box_two w #[.int .i64 c.hear.node, .int .i64 c.hear.type, .bool c.hear.cap, .bool c.hear.once, .int .i64 c.hear.prog, .int .i64 c.vis.stop.node, .int .i64 c.vis.stop.target, .int .i64 c.vis.stop.related, .int .i64 c.vis.phase, .bool c.vis.cap] #[.int .i64 c.hear.node, .int .i64 c.hear.type, .bool c.hear.cap, .bool c.hear.once, .int .i64 c.hear.prog, .int .i64 c.vis.stop.node, .int .i64 c.vis.stop.target, .int .i64 c.vis.stop.related, .int .i64 c.vis.phase, .bool c.vis.cap] 41 46
  have a0 := e_ 0 _ rfl
  have a1 := e_ 1 _ rfl
  have a2 := e_ 2 _ rfl
  have a3 := e_ 3 _ rfl
  have a4 := e_ 4 _ rfl
  have a5 := e_ 5 _ rfl
  have a6 := e_ 6 _ rfl
  have a7 := e_ 7 _ rfl
  have a8 := e_ 8 _ rfl
  have a9 := e_ 9 _ rfl
  obtain ⟨d0, _⟩ := inB hB 0 _ rfl
  obtain ⟨d1, _⟩ := inB hB 1 _ rfl
  obtain ⟨d2, _⟩ := inB hB 2 _ rfl
  obtain ⟨d3, _⟩ := inB hB 3 _ rfl
  obtain ⟨d4, _⟩ := inB hB 4 _ rfl
  obtain ⟨d5, _⟩ := inB hB 5 _ rfl
  obtain ⟨d6, _⟩ := inB hB 6 _ rfl
  obtain ⟨d7, _⟩ := inB hB 7 _ rfl
  obtain ⟨d8, _⟩ := inB hB 8 _ rfl
  obtain ⟨d9, _⟩ := inB hB 9 _ rfl
  clear e_ hB hz1
  go_enter Tryz.func8, Tryz.ntmps8
  go_upto_region 1 with fail
  try rw [hw1]
  clear hw1
  go_wp2
  go_ret
  exact ⟨ret_bool (by simp), by (exact Lime.stp_)⟩
end
set_option maxRecDepth 100000 in
set_option maxHeartbeats 4000000 in
theorem fireall_w {S1 S2 : Nat → Prop} {W : World} {v : Value} {t : List Nd} (hr : Row nodeK S1 W v t) {u : Value} {l : List Hear} (hu : Row hearK S2 W u l) (et tg re : Int) (bub can comp : Bool) : Calls Tryz.prog 3 #[v, .agg #[.int .i64 et, .int .i64 tg, .int .i64 re, .bool bub, .bool can, .bool comp], u] W fun e w' => e = .returned (.bool true) ∧ Stp W w' := by
  obtain ⟨A, c, rfl, _⟩ := hr.form
  obtain ⟨Al, cl, rfl, hlc, hlm⟩ := hu.form
  have cf := fun W' (h : Stp W W') => few_h (hr.stp h)
  cases hf : (smallT t && decide ((t.length : Int) ≤ 30)) with
  | false =>
    rw [hf] at cf
    go_enter Tryz.func3, Tryz.ntmps3
    go_wp2_with (first | (go_at_call 4; refine (cf _ Lime.stp_).mono ?_; rintro e w1 ⟨rfl, hb1⟩) | (go_at_call 5; refine (live9_c _).mono ?_; rintro e w2 ⟨rfl, hb2⟩))
    go_ret
    exact ⟨rfl, by (exact Lime.stp_)⟩
  | true =>
    rw [hf] at cf
    have hs : smallT t = true := by rw [Bool.and_eq_true] at hf; exact hf.1
    have hks := kidsOk_of hs
    have hl9 : t.length ≤ 900 := by
      rw [Bool.and_eq_true, decide_eq_true_eq] at hf
      omega
    by_cases h30 : (100 : Int) < (l.length : Int)
    · go_enter Tryz.func3, Tryz.ntmps3
      go_wp2_with (first | (go_at_call 4; refine (cf _ Lime.stp_).mono ?_; rintro e w1 ⟨rfl, hb1⟩) | (go_at_call 5; refine (live9_c _).mono ?_; rintro e w2 ⟨rfl, hb2⟩))
      go_ret
      exact ⟨rfl, by (exact Lime.stp_)⟩
    · have hll : l.length ≤ 1000 := by omega
      obtain ⟨w0, hw0, hs0, hz0, ge⟩ := box_named W #[.int .i64 et, .int .i64 tg, .int .i64 re, .bool bub, .bool can, .bool comp] 25
      have e0 := ge 0 _ rfl
      have e1 := ge 1 _ rfl
      have e2 := ge 2 _ rfl
      have e3 := ge 3 _ rfl
      have e4 := ge 4 _ rfl
      have e5 := ge 5 _ rfl
      clear ge hf hs
      go_enter Tryz.func3, Tryz.ntmps3
      go_upto_region 1 with fail
      try rw [hw0]
      clear hw0
      go_upto_region 3 with (go_at_call 4; refine (cf _ hs0).mono ?_; rintro e w1 ⟨rfl, hb1⟩)
      replace e0 := hb1.cell e0
      replace e1 := hb1.cell e1
      replace e2 := hb1.cell e2
      replace e3 := hb1.cell e3
      replace e4 := hb1.cell e4
      replace e5 := hb1.cell e5
      have hsw := hs0.trans hb1
      have hrr := hr.stp hsw
      have hur := hu.stp hsw
      clear cf hb1 hr hu
      by_cases ho : mayT t = true ∧ isN t tg = true
      · have ca := fun W' (h : Stp w1 W') => all_yes (hrr.stp h) hks hl9 (hur.stp h) hll et re bub can comp ho
        have cb := fun W' (h : Stp w1 W') => rall_yes (hrr.stp h) (hur.stp h) hll et re bub can comp ho
        generalize allIn et (fuelT l (visL (pathT t comp tg re tg) bub)) l (visL (pathT t comp tg re tg) bub) vis0 [] = F at ca cb
        clear hrr hur hks ho
        go_upto_region 4 with (go_at_call 6; refine (show Calls Tryz.prog 6 _ _ _ from ca _ (Stp.refl _)).mono ?_; rintro e w2 ⟨u2, rfl, o2, hb2⟩; obtain ⟨A2, c2, rfl, hc2, hm2⟩ := o2.reads.form)
        replace e0 := hb2.cell e0
        replace e1 := hb2.cell e1
        replace e2 := hb2.cell e2
        replace e3 := hb2.cell e3
        replace e4 := hb2.cell e4
        replace e5 := hb2.cell e5
        have r2 := o2.reads
        clear o2 ca
        go_upto_region 5 with (go_at_call 7; refine (show Calls Tryz.prog 7 _ _ _ from cb _ hb2).mono ?_; rintro e w3 ⟨u3, rfl, o3, hb3⟩; obtain ⟨A3, c3, rfl, hc3, hm3⟩ := o3.reads.form)
        have r3 := o3.reads
        replace r2 := r2.stp hb3
        have hsw3 := hsw.trans (hb2.trans hb3)
        clear o3 cb e0 e1 e2 e3 e4 e5 hb2 hb3 hsw
        go_wp2_with fail
        go_loopg [9] F.length (fun gg s9 W' => ∃ i : Nat, F.length - i ≤ gg ∧ s9 = .int .i64 i ∧ i ≤ F.length ∧ Stp w3 W')
        case atStart => exact ⟨0, Nat.le_refl _, rfl, Nat.zero_le _, Stp.refl _⟩
        case round =>
          obtain ⟨i, hg, rfl, hi, hst⟩ := hrel
          by_cases hlt : i < F.length
          · have hltz : (i : Int) < (F.length : Int) := by omega
            obtain ⟨ba, oa, rfl, a0, a1, a2, a3, a4, a5, a6, a7, a8, a9⟩ := cal_row (r2.stp hst) i hlt
            obtain ⟨bb, ob, rfl, d0, d1, d2, d3, d4, d5, d6, d7, d8, d9⟩ := cal_row (r3.stp hst) i hlt
            have cs := fun W => same_c W F[i]
            generalize F[i] = x at a0 a1 a2 a3 a4 a5 a6 a7 a8 a9 d0 d1 d2 d3 d4 d5 d6 d7 d8 d9 cs
            go_upto_region 10 with fail
            refine wp_region_plan (Plan.calm 0 (Plan.calm 1 (Plan.calm 2 (Plan.calm 3 (Plan.calm 4 (Plan.calm 5 (Plan.calm 6 (Plan.calm 7 (Plan.alt 8 (Plan.calm 9 Plan.done) Plan.stop))))))))) (by kernel_rfl) (by kernel_rfl) (by kernel_rfl) ?_
            have hS : Stp wr wr.drew := (Stp.refl _).drew
            iterate 3 ((first | (refine plan_calm (v := ?_) Lime.getop_ (by rfl) (fun W hW => ?_) ?_; rotate_left; (focus (exact Lime.calm_))) | (refine plan_calm_skip Lime.getop_ (by rfl) ?_)); (try simp only [Act.put, List.setIfInBounds_toArray, List.set_cons_zero, List.set_cons_succ]))
            (first | (refine plan_calm (v := ?_) Lime.getop_ (by rfl) (fun W hW => ?_) ?_; rotate_left; (focus (have q0_ := (hS.trans hW).cell a0; have q1_ := (hS.trans hW).cell a1; have q2_ := (hS.trans hW).cell a2; have q3_ := (hS.trans hW).cell a3; have q4_ := (hS.trans hW).cell a4; have q5_ := (hS.trans hW).cell a5; have q6_ := (hS.trans hW).cell a6; have q7_ := (hS.trans hW).cell a7; have q8_ := (hS.trans hW).cell a8; have q9_ := (hS.trans hW).cell a9; have q10_ := (hS.trans hW).cell d0; have q11_ := (hS.trans hW).cell d1; have q12_ := (hS.trans hW).cell d2; have q13_ := (hS.trans hW).cell d3; have q14_ := (hS.trans hW).cell d4; have q15_ := (hS.trans hW).cell d5; have q16_ := (hS.trans hW).cell d6; have q17_ := (hS.trans hW).cell d7; have q18_ := (hS.trans hW).cell d8; have q19_ := (hS.trans hW).cell d9; clear hW; (exact Lime.calm_)))) | (refine plan_calm_skip Lime.getop_ (by rfl) ?_)); (try simp only [Act.put, List.setIfInBounds_toArray, List.set_cons_zero, List.set_cons_succ])
            iterate 3 ((first | (refine plan_calm (v := ?_) Lime.getop_ (by rfl) (fun W hW => ?_) ?_; rotate_left; (focus (exact Lime.calm_))) | (refine plan_calm_skip Lime.getop_ (by rfl) ?_)); (try simp only [Act.put, List.setIfInBounds_toArray, List.set_cons_zero, List.set_cons_succ]))
            (first | (refine plan_calm (v := ?_) Lime.getop_ (by rfl) (fun W hW => ?_) ?_; rotate_left; (focus (have q0_ := (hS.trans hW).cell a0; have q1_ := (hS.trans hW).cell a1; have q2_ := (hS.trans hW).cell a2; have q3_ := (hS.trans hW).cell a3; have q4_ := (hS.trans hW).cell a4; have q5_ := (hS.trans hW).cell a5; have q6_ := (hS.trans hW).cell a6; have q7_ := (hS.trans hW).cell a7; have q8_ := (hS.trans hW).cell a8; have q9_ := (hS.trans hW).cell a9; have q10_ := (hS.trans hW).cell d0; have q11_ := (hS.trans hW).cell d1; have q12_ := (hS.trans hW).cell d2; have q13_ := (hS.trans hW).cell d3; have q14_ := (hS.trans hW).cell d4; have q15_ := (hS.trans hW).cell d5; have q16_ := (hS.trans hW).cell d6; have q17_ := (hS.trans hW).cell d7; have q18_ := (hS.trans hW).cell d8; have q19_ := (hS.trans hW).cell d9; clear hW; (exact Lime.calm_)))) | (refine plan_calm_skip Lime.getop_ (by rfl) ?_)); (try simp only [Act.put, List.setIfInBounds_toArray, List.set_cons_zero, List.set_cons_succ])
            (first | (refine plan_event Lime.getop_ (by rfl) (fun K hK => ?_) plan_stop; go_simp; refine (show Calls Tryz.prog 8 _ _ _ from cs _).mono ?_; rintro e w7 ⟨rfl, hb7⟩; refine hK _ _ ?_ (fun hst => ?_); (focus (exact Lime.stp_)); replace hS := hS.trans hst; clear hst hK K) | refine plan_event_skip Lime.getop_ (by rfl) ?_ plan_stop); (try simp only [Act.put, List.setIfInBounds_toArray, List.set_cons_zero, List.set_cons_succ])
            (first | (refine plan_calm (v := ?_) Lime.getop_ (by rfl) (fun W hW => ?_) ?_; rotate_left; (focus (exact Lime.calm_))) | (refine plan_calm_skip Lime.getop_ (by rfl) ?_)); (try simp only [Act.put, List.setIfInBounds_toArray, List.set_cons_zero, List.set_cons_succ])
            refine plan_done ?_
            go_wp2_with fail
            go_roundg (F.length - (i + 1))
            case measure => omega
            case rel => exact ⟨i + 1, Nat.le_refl _, by go_num, hlt, hst.trans hS⟩
          · have hltz : ¬ (i : Int) < (F.length : Int) := by omega
            go_wp2_with (go_at_call 5; refine (live9_c _).mono ?_; rintro e w9 ⟨rfl, hb9⟩)
            go_ret
            exact ⟨rfl, hsw3.trans (hst.trans hb9)⟩
      · have ca := fun W' (h : Stp w1 W') (u : Value) => all_no (hrr.stp h) hks u et re bub can comp ho
        have cb := fun W' (h : Stp w1 W') (u : Value) => rall_no (hrr.stp h) u et re bub can comp ho
        clear hrr hur hks ho
        go_upto_region 4 with (go_at_call 6; refine (show Calls Tryz.prog 6 _ _ _ from ca _ (Stp.refl _) _).mono ?_; rintro e w2 ⟨rfl, hb2⟩)
        replace e0 := hb2.cell e0
        replace e1 := hb2.cell e1
        replace e2 := hb2.cell e2
        replace e3 := hb2.cell e3
        replace e4 := hb2.cell e4
        replace e5 := hb2.cell e5
        go_upto_region 5 with (go_at_call 7; refine (show Calls Tryz.prog 7 _ _ _ from cb _ hb2 _).mono ?_; rintro e w3 ⟨rfl, hb3⟩)
        have hsw3 := hsw.trans (hb2.trans hb3)
        clear ca cb e0 e1 e2 e3 e4 e5 hb2 hb3 hsw
        go_wp2_with fail
        go_loopg [9] 0 (fun gg s9 W' => s9 = .int .i64 0 ∧ Stp w3 W')
        case atStart => exact ⟨rfl, Stp.refl _⟩
        case round =>
          obtain ⟨rfl, hst⟩ := hrel
          go_wp2_with (go_at_call 5; refine (live9_c _).mono ?_; rintro e w9 ⟨rfl, hb9⟩)
          go_ret
          exact ⟨rfl, hsw3.trans (hst.trans hb9)⟩
end Go.Proofs.Lime
