/- Walk: the law FireSame. -/
import Derived.Test.YtaggmjnpocndkaaFlv
import Derived.Test.YtaggmjnpocndkaaFew
namespace Go.Proofs.Lime
open Go.RowKit
set_option linter.unusedVariables false
set_option linter.unusedSimpArgs false
attribute [local go_sem] Oper.semAt_some
attribute [local go_sem high] pnil pnil2 eqCal
theorem once_at {S : Nat → Prop} {w : World} {A : Option Addr} {n c : Nat} {xs : List Hear} (h : Row hearK S w (.slice A n c) xs) (k : Nat) (hk : k < xs.length) :
    ∃ b o, A = some ⟨b, o, none⟩ ∧ w.cell? ⟨b, o + k * 5 + 3, none⟩ = some (.bool xs[k].once) := by
  obtain ⟨b, o, c', cs, e, hS, hb, hK, hc⟩ := h.get k hk
  injection e with e1 e2 e3
  have hK' : cs = Hear.cells xs[k] := hK
  subst hK'
  exact ⟨b, o, e1, hc 3 _ rfl⟩
theorem cal_at {S : Nat → Prop} {w : World} {A : Option Addr} {n c : Nat} {xs : List Cal} (h : Row calK S w (.slice A n c) xs) (k : Nat) (hk : k < xs.length) :
    ∃ b o, A = some ⟨b, o, none⟩ ∧ S b ∧ w.cell? ⟨b, o + k * 10, none⟩ = some (.int .i64 xs[k].hear.node) ∧ w.cell? ⟨b, o + k * 10 + 1, none⟩ = some (.int .i64 xs[k].hear.type) ∧ w.cell? ⟨b, o + k * 10 + 2, none⟩ = some (.bool xs[k].hear.cap) ∧ w.cell? ⟨b, o + k * 10 + 3, none⟩ = some (.bool xs[k].hear.once) ∧ w.cell? ⟨b, o + k * 10 + 4, none⟩ = some (.int .i64 xs[k].hear.prog) ∧
      w.cell? ⟨b, o + k * 10 + 5, none⟩ = some (.int .i64 xs[k].vis.stop.node) ∧ w.cell? ⟨b, o + k * 10 + 6, none⟩ = some (.int .i64 xs[k].vis.stop.target) ∧ w.cell? ⟨b, o + k * 10 + 7, none⟩ = some (.int .i64 xs[k].vis.stop.related) ∧ w.cell? ⟨b, o + k * 10 + 8, none⟩ = some (.int .i64 xs[k].vis.phase) ∧ w.cell? ⟨b, o + k * 10 + 9, none⟩ = some (.bool xs[k].vis.cap) := by
  obtain ⟨b, o, c', cs, e, hS, hb, hK, hc⟩ := h.get k hk
  injection e with e1 e2 e3
  have hK' : cs = Cal.cells xs[k] := hK
  subst hK'
  exact ⟨b, o, e1, hS, hc 0 _ rfl, hc 1 _ rfl, hc 2 _ rfl, hc 3 _ rfl, hc 4 _ rfl, hc 5 _ rfl, hc 6 _ rfl, hc 7 _ rfl, hc 8 _ rfl, hc 9 _ rfl⟩
/-- What is held between two calls. -/
structure SameAt (w2 : World) (B : Nat) (et tg re : Int) (bub can comp : Bool) (N f : Nat) (l : List Hear) (F : List Cal) (i : Nat) (W : World) (vs : List Vis) (v : Vis) (tk : List Hear) (S : Nat → Prop) : Prop where mk ::
  run : RunAt S B W et tg re bub can comp vs v tk false false
  nS : ¬ S B
  kp : Kpt (fun k => k = B) w2 W
  rest : allIn et f l vs v tk = F.drop i
  lens : tk.length ≤ N ∧ left N vs tk < f
set_option maxRecDepth 100000 in
set_option maxHeartbeats 4000000 in
theorem firesame_w {S1 S2 : Nat → Prop} {W : World} {v : Value} {t : List Nd} (hr : Row nodeK S1 W v t) {u : Value} {l : List Hear} (hu : Row hearK S2 W u l) (et tg re : Int) (bub can comp : Bool) : Calls Try.prog 5 #[v, .agg #[.int .i64 et, .int .i64 tg, .int .i64 re, .bool bub, .bool can, .bool comp], u] W fun e w' => e = .returned (.bool true) ∧ Stp W w' := by
  obtain ⟨A, c, rfl, _⟩ := hr.form
  obtain ⟨Al, cl, rfl, hlc, hlm⟩ := hu.form
  have cf := fun W' (h : Stp W W') => few_c (hr.stp h)
  cases hf : (smallT t && decide ((t.length : Int) ≤ 30)) with
  | false =>
    rw [hf] at cf
    go_enter Try.func5, Try.ntmps5
    go_wp2_with (first | (go_at_call 6; refine (cf _ Lime.stp_).mono ?_; rintro e w1 ⟨rfl, hb1⟩) | (go_at_call 9; refine (live9_c _).mono ?_; rintro e w2 ⟨rfl, hb2⟩))
    go_ret
    exact ⟨rfl, by (exact Lime.stp_)⟩
  | true =>
    rw [hf] at cf
    have hs : smallT t = true := by rw [Bool.and_eq_true] at hf; exact hf.1
    have hks := Go.Proofs.Ytaggmjnpocndkaa.P.kidsOk_small hs
    have hl9 : t.length ≤ 900 := by
      rw [Bool.and_eq_true, decide_eq_true_eq] at hf
      omega
    by_cases h30 : (30 : Int) < (l.length : Int)
    · go_enter Try.func5, Try.ntmps5
      go_wp2_with (first | (go_at_call 6; refine (cf _ Lime.stp_).mono ?_; rintro e w1 ⟨rfl, hb1⟩) | (go_at_call 9; refine (live9_c _).mono ?_; rintro e w2 ⟨rfl, hb2⟩))
      go_ret
      exact ⟨rfl, by (exact Lime.stp_)⟩
    · have hll : l.length ≤ 1000 := by omega
      go_enter Try.func5, Try.ntmps5
      go_upto_region 1 with fail
      obtain ⟨w0, hw0, hs0, hz0, ge⟩ := box_named W #[.int .i64 et, .int .i64 tg, .int .i64 re, .bool bub, .bool can, .bool comp] 25
      have e0' := ge 0 _ rfl
      have e1' := ge 1 _ rfl
      have e2' := ge 2 _ rfl
      have e3' := ge 3 _ rfl
      have e4' := ge 4 _ rfl
      have e5' := ge 5 _ rfl
      rw [hw0]
      have hr0 := hr.stp hs0
      have hu0 := hu.bound.stp hs0
      clear ge hw0 hf hs
      go_wp2_with (go_at_call 6; refine (cf _ Lime.stp_).mono ?_; rintro e w1 ⟨rfl, hb1⟩)
      go_loopg [7] l.length (fun gg s7 W' => ∃ i : Nat, l.length - i ≤ gg ∧ s7 = .int .i64 i ∧ i ≤ l.length ∧ Aside (Stp w0 W' ∧ ∀ x ∈ l.take i, x.once = false))
      case atStart => exact ⟨0, Nat.le_refl _, rfl, Nat.zero_le _, hb1, by simp⟩
      case round =>
        obtain ⟨i, hg, rfl, hi, HA⟩ := hrel
        obtain ⟨hst, hno⟩ := HA.out
        clear HA cf hb1
        by_cases hlt : i < l.length
        · have hltz : (i : Int) < (l.length : Int) := by omega
          obtain ⟨b, o, rfl, x3⟩ := once_at (hu0.stp hst) i hlt
          cases hon : l[i].once with
          | true =>
            rw [hon] at x3
            go_wp2_with (go_at_call 9; refine (live9_c _).mono ?_; rintro e w2 ⟨rfl, hb2⟩)
            go_ret
            exact ⟨rfl, hs0.trans (hst.trans hb2)⟩
          | false =>
            rw [hon] at x3
            go_wp2_with fail
            go_roundg (l.length - (i + 1))
            case measure => omega
            case rel =>
              refine ⟨i + 1, Nat.le_refl _, by go_num, hlt, hst, fun x hx => ?_⟩
              rw [List.take_succ_eq_append_getElem hlt, List.mem_append] at hx
              rcases hx with hx | hx
              · exact hno x hx
              · rw [List.mem_singleton.1 hx]; exact hon
        · have hltz : ¬ (i : Int) < (l.length : Int) := by omega
          rw [List.take_of_length_le (by omega)] at hno
          have e0 := hst.cell e0'
          have e1 := hst.cell e1'
          have e2 := hst.cell e2'
          have e3 := hst.cell e3'
          have e4 := hst.cell e4'
          have e5 := hst.cell e5'
          have hrr := hr0.stp hst
          have hur := hu0.stp hst
          have hsw := hs0.trans hst
          have hzr := hsw.size
          clear e0' e1' e2' e3' e4' e5' hr0 hu0 hst hs0 hg hr hu
          by_cases ho : mayT t = true ∧ isN t tg = true
          · have ca := fun W' (h : Stp wr W') => all_yes (hrr.stp h) hks hl9 (hur.stp h) hll et re bub can comp ho
            have cn := fun W' (h : Stp wr W') => new_yes (hrr.stp h) hks hl9 et re bub can comp ho
            generalize visL (pathT t comp tg re tg) bub = vs0 at ca cn
            have hmem : ∀ x ∈ allIn et (fuelT l vs0) l vs0 vis0 [], x.hear ∈ l := fun x hx => by
              have h := fire_sub et l (fuelT l vs0) l vs0 vis0 [] (List.Sublist.refl _)
              rw [List.map_nil, List.nil_append] at h
              exact (full_mem (h.subset hx)).1
            obtain ⟨F, hF⟩ : ∃ F, allIn et (fuelT l vs0) l vs0 vis0 [] = F := ⟨_, rfl⟩
            have hf0 : left l.length vs0 [] < fuelT l vs0 := Nat.lt_succ_self _
            generalize fuelT l vs0 = f at ca hmem hF hf0
            rw [hF] at ca hmem
            go_upto_region 9 with (go_at_call 10; refine (show Calls Try.prog 10 _ _ _ from ca _ (Stp.refl _)).mono ?_; rintro e w1 ⟨u1, rfl, o1, hb1⟩; obtain ⟨A1, c1, rfl, hc1, hm1⟩ := o1.reads.form)
            replace e0 := hb1.cell e0
            replace e1 := hb1.cell e1
            replace e2 := hb1.cell e2
            replace e3 := hb1.cell e3
            replace e4 := hb1.cell e4
            replace e5 := hb1.cell e5
            have r1 := o1.reads.bound
            have hz1 := hb1.size
            clear o1 ca
            go_upto_region 10 with (go_at_call 15; refine (show Calls Try.prog 15 _ _ _ from cn _ hb1).mono ?_; rintro e w2 ⟨B, rfl, hB, R2, hb2⟩)
            have hz2 := hb2.size
            have hs2 : Stp wr w2 := hb1.trans hb2
            have hB2 : B < w2.heap.size := by obtain ⟨_, _, h, _⟩ := R2.cells; exact (Array.getElem?_eq_some_iff.1 h).1
            have hu2 := hur.stp hs2
            have r2 := r1.stp hb2
            have hsw2 := hsw.trans hs2
            clear cn e0 e1 e2 e3 e4 e5 hb1 hb2 hs2 hur r1 hrr hsw
            go_wp2_with fail
            go_loopg [10] F.length (fun gg s10 W' => ∃ (i : Nat) (vs : List Vis) (v : Vis) (tk : List Hear) (S : Nat → Prop), F.length - i ≤ gg ∧ s10 = .int .i64 i ∧ i ≤ F.length ∧ SameAt w2 B et tg re bub can comp l.length f l F i W' vs v tk S)
            case atStart => exact ⟨0, vs0, vis0, [], _, Nat.le_refl _, rfl, Nat.zero_le _, ⟨R2, fun h => h.2 rfl, Kpt.refl _ _, hF, Nat.zero_le _, hf0⟩⟩
            case round =>
              clear R2 hF hf0
              obtain ⟨j, vs, v, tk, S, hg, rfl, hj, HA⟩ := hrel
              obtain ⟨R, nS, kp, hrest, hln⟩ := HA
              have hz3 := kp.size
              have hu3 := hu2.kpt kp fun k hk _ e => by have := hk.2; omega
              have r3 := r2.kpt kp fun k hk _ e => by have := hk.2; omega
              have cx := next_c R nS hu3 (fun h => by have := h.2; omega) hll
              have hNl := fun oc' vs' v' tk' h ho => less_next (N := l.length) (et := et) (vs := vs) (v := v) (oc := oc') (vs' := vs') (v' := v') (tk' := tk') (Nat.le_refl _) hln.1 h ho
              have hNx := fun oc' vs' v' tk' h => callsT_next (f := f) (et := et) (vs := vs) (v := v) (oc := oc') (vs' := vs') (v' := v') (tk' := tk') (Nat.le_refl _) hln.1 hln.2 h
              generalize hN : nxt l et false vs v tk = Nx at cx
              obtain ⟨oc, vs', v', tk'⟩ := Nx
              replace hNl := hNl _ _ _ _ hN
              replace hNx := hNx _ _ _ _ hN
              dsimp only at cx
              clear hN
              rw [hrest] at hNx
              by_cases hlt2 : j < F.length
              · have hltz2 : (j : Int) < (F.length : Int) := by omega
                rw [List.drop_eq_getElem_cons hlt2] at hNx
                obtain ⟨b1, o1, rfl, hbS, a0, a1, a2, a3, a4, a5, a6, a7, a8, a9⟩ := cal_at r3 j hlt2
                have hb1B : ¬ b1 = B := by have := hbS.2; omega
                cases oc with
                | none => exact absurd hNx (List.cons_ne_nil _ _)
                | some x =>
                  simp only [callsT, List.cons.injEq] at hNx
                  obtain ⟨hx, hNx⟩ := hNx
                  have hxo : x.hear.once = false := hno _ (hmem x (by rw [← hx]; exact List.getElem_mem hlt2))
                  rw [hx] at a0 a1 a2 a3 a4 a5 a6 a7 a8 a9
                  rw [if_neg (by simp [hxo])] at hNx
                  obtain ⟨hl1, hl2⟩ := hNl rfl
                  simp only [Option.getD_some, Option.isSome_some, Cal.arr] at cx
                  clear hx hno hmem hxo
                  go_upto_region 16 with (go_at_call 13; refine cx.mono ?_; rintro e w5 ⟨rfl, R5, k5⟩)
                  obtain ⟨w6, hw6, s6, z6, b6⟩ := box10 w5 (.int .i64 x.hear.node) (.int .i64 x.hear.type) (.bool x.hear.cap) (.bool x.hear.once) (.int .i64 x.hear.prog) (.int .i64 x.vis.stop.node) (.int .i64 x.vis.stop.target) (.int .i64 x.vis.stop.related) (.int .i64 x.vis.phase) (.bool x.vis.cap)
                  rw [hw6]
                  have hz5 := k5.size
                  have k6 : Kpt (fun k => k = B) wr w6 := k5.trans (Kpt.of_stp (O := fun k => k = B) s6) fun x hx => .inl hx
                  obtain ⟨d0, _⟩ := inB b6 0 _ rfl
                  obtain ⟨d1, _⟩ := inB b6 1 _ rfl
                  obtain ⟨d2, _⟩ := inB b6 2 _ rfl
                  obtain ⟨d3, _⟩ := inB b6 3 _ rfl
                  obtain ⟨d4, _⟩ := inB b6 4 _ rfl
                  obtain ⟨d5, _⟩ := inB b6 5 _ rfl
                  obtain ⟨d6, _⟩ := inB b6 6 _ rfl
                  obtain ⟨d7, _⟩ := inB b6 7 _ rfl
                  obtain ⟨d8, _⟩ := inB b6 8 _ rfl
                  obtain ⟨d9, _⟩ := inB b6 9 _ rfl
                  replace a0 := k6.cell hb1B a0
                  replace a1 := k6.cell hb1B a1
                  replace a2 := k6.cell hb1B a2
                  replace a3 := k6.cell hb1B a3
                  replace a4 := k6.cell hb1B a4
                  replace a5 := k6.cell hb1B a5
                  replace a6 := k6.cell hb1B a6
                  replace a7 := k6.cell hb1B a7
                  replace a8 := k6.cell hb1B a8
                  replace a9 := k6.cell hb1B a9
                  have R6 := R5.stp s6
                  clear hw6 b6 cx
                  refine wp_region_plan (Plan.calm 0 (Plan.calm 1 (Plan.calm 2 (Plan.calm 3 (Plan.calm 4 (Plan.calm 5 (Plan.calm 6 (Plan.calm 7 (Plan.calm 8 (Plan.calm 9 Plan.done)))))))))) (by kernel_rfl) (by kernel_rfl) (by kernel_rfl) ?_
                  have hS : Stp w6 w6.drew := (Stp.refl _).drew
                  iterate 3 ((first | (refine plan_calm (v := ?_) Lime.getop_ (by rfl) (fun W hW => ?_) ?_; rotate_left; (focus (exact Lime.calm_))) | (refine plan_calm_skip Lime.getop_ (by rfl) ?_)); (try simp only [Act.put, List.setIfInBounds_toArray, List.set_cons_zero, List.set_cons_succ]))
                  (first | (refine plan_calm (v := ?_) Lime.getop_ (by rfl) (fun W hW => ?_) ?_; rotate_left; (focus (have q0_ := (hS.trans hW).cell d0; have q1_ := (hS.trans hW).cell d1; have q2_ := (hS.trans hW).cell d2; have q3_ := (hS.trans hW).cell d3; have q4_ := (hS.trans hW).cell d4; have q5_ := (hS.trans hW).cell d5; have q6_ := (hS.trans hW).cell d6; have q7_ := (hS.trans hW).cell d7; have q8_ := (hS.trans hW).cell d8; have q9_ := (hS.trans hW).cell d9; have q10_ := (hS.trans hW).cell a0; have q11_ := (hS.trans hW).cell a1; have q12_ := (hS.trans hW).cell a2; have q13_ := (hS.trans hW).cell a3; have q14_ := (hS.trans hW).cell a4; have q15_ := (hS.trans hW).cell a5; have q16_ := (hS.trans hW).cell a6; have q17_ := (hS.trans hW).cell a7; have q18_ := (hS.trans hW).cell a8; have q19_ := (hS.trans hW).cell a9; clear hW; (exact Lime.calm_)))) | (refine plan_calm_skip Lime.getop_ (by rfl) ?_)); (try simp only [Act.put, List.setIfInBounds_toArray, List.set_cons_zero, List.set_cons_succ])
                  iterate 3 ((first | (refine plan_calm (v := ?_) Lime.getop_ (by rfl) (fun W hW => ?_) ?_; rotate_left; (focus (exact Lime.calm_))) | (refine plan_calm_skip Lime.getop_ (by rfl) ?_)); (try simp only [Act.put, List.setIfInBounds_toArray, List.set_cons_zero, List.set_cons_succ]))
                  (first | (refine plan_calm (v := ?_) Lime.getop_ (by rfl) (fun W hW => ?_) ?_; rotate_left; (focus (have q0_ := (hS.trans hW).cell d0; have q1_ := (hS.trans hW).cell d1; have q2_ := (hS.trans hW).cell d2; have q3_ := (hS.trans hW).cell d3; have q4_ := (hS.trans hW).cell d4; have q5_ := (hS.trans hW).cell d5; have q6_ := (hS.trans hW).cell d6; have q7_ := (hS.trans hW).cell d7; have q8_ := (hS.trans hW).cell d8; have q9_ := (hS.trans hW).cell d9; have q10_ := (hS.trans hW).cell a0; have q11_ := (hS.trans hW).cell a1; have q12_ := (hS.trans hW).cell a2; have q13_ := (hS.trans hW).cell a3; have q14_ := (hS.trans hW).cell a4; have q15_ := (hS.trans hW).cell a5; have q16_ := (hS.trans hW).cell a6; have q17_ := (hS.trans hW).cell a7; have q18_ := (hS.trans hW).cell a8; have q19_ := (hS.trans hW).cell a9; clear hW; (exact Lime.calm_)))) | (refine plan_calm_skip Lime.getop_ (by rfl) ?_)); (try simp only [Act.put, List.setIfInBounds_toArray, List.set_cons_zero, List.set_cons_succ])
                  iterate 2 ((first | (refine plan_calm (v := ?_) Lime.getop_ (by rfl) (fun W hW => ?_) ?_; rotate_left; (focus (exact Lime.calm_))) | (refine plan_calm_skip Lime.getop_ (by rfl) ?_)); (try simp only [Act.put, List.setIfInBounds_toArray, List.set_cons_zero, List.set_cons_succ]))
                  refine plan_done ?_
                  go_wp2_with fail
                  go_roundg (F.length - (j + 1))
                  case measure => omega
                  case rel => exact ⟨j + 1, vs', v', tk', _, Nat.le_refl _, by go_num, hlt2, ⟨R6.stp hS, fun h => h.elim (fun h => nS h.1) (fun h => by omega), (kp.trans k6 fun x hx => .inl hx).trans (Kpt.of_stp (O := fun k => k = B) hS) fun x hx => .inl hx, hNx.symm, ⟨hl2, by omega⟩⟩⟩
              · have hltz2 : ¬ (j : Int) < (F.length : Int) := by omega
                rw [List.drop_of_length_le (by omega)] at hNx
                cases oc with
                | some x => exact absurd hNx (by simp [callsT])
                | none =>
                  simp only [Option.getD_none, Option.isSome_none, Cal.arr, cal0] at cx
                  go_upto_region 19 with (go_at_call 13; refine cx.mono ?_; rintro e w5 ⟨rfl, R5, k5⟩)
                  have hz5 := k5.size
                  have hsE : Stp W w5 := (((Kpt.of_stp (O := fun _ => False) hsw2).trans kp fun x hx => .inr (by omega)).trans k5 fun x hx => .inr (by omega)).stp fun x h => h.elim
                  have cc := fun W' (h : Stp w5 W') => cancelled_c (R5.stp h)
                  go_wp2_with (first | (go_at_call 14; refine (cc _ Lime.stp_).mono ?_; rintro e w6 ⟨rfl, hb6⟩) | (go_at_call 9; refine (live9_c _).mono ?_; rintro e w7 ⟨rfl, hb7⟩))
                  go_ret
                  exact ⟨rfl, by (exact Lime.stp_)⟩
          · have ca := fun W' (h : Stp wr W') (u : Value) => all_no (hrr.stp h) hks u et re bub can comp ho
            have cn := fun W' (h : Stp wr W') => new_no (hrr.stp h) hks et re bub can comp ho
            go_upto_region 9 with (go_at_call 10; refine (show Calls Try.prog 10 _ _ _ from ca _ (Stp.refl _) _).mono ?_; rintro e w1 ⟨rfl, hb1⟩)
            replace e0 := hb1.cell e0
            replace e1 := hb1.cell e1
            replace e2 := hb1.cell e2
            replace e3 := hb1.cell e3
            replace e4 := hb1.cell e4
            replace e5 := hb1.cell e5
            go_wp2_with (first | (go_at_call 15; refine (show Calls Try.prog 15 _ _ _ from cn _ hb1).mono ?_; rintro e w2 ⟨rfl, hb2⟩) | (go_at_call 9; refine (live9_c _).mono ?_; rintro e w7 ⟨rfl, hb7⟩))
            go_ret
            exact ⟨rfl, by (exact Lime.stp_)⟩
end Go.Proofs.Lime
