/- Walk: the law ChainBack. -/
import Derived.Test.YtbbmdpmpbggmgaaEI
import Derived.Test.YtbbmdpmpbggmgaaMH
import Derived.Test.YtbbmdpmpbggmgaaME
import Derived.Test.YtbbmdpmpbggmgaaPx2
import Derived.Test.YtbbmdpmpbggmgaaPx3
import Derived.Deep.Cut
import Derived.Deep.CutRange
namespace Go.Proofs.Lime
open Go.RowKit
set_option linter.unusedVariables false
set_option linter.unusedSimpArgs false
attribute [local go_sem] Oper.semAt_some
theorem plan_abs {P : Program} {c : Code} {Q : Exit → Act → World → Prop} {a a' : Act} {w w' : World} (h : ∀ K : Exit → Act → World → Prop, K .normal a' w' → c.wp P K a w) (h2 : Q .normal a' w') : c.wp P Q a w := h _ h2
theorem live15_k (W : World) : Calls Try.prog 9 #[] W fun e w' => e = .returned (.bool true) ∧ Stp W w' := by
  obtain ⟨k, hk⟩ : ∃ k, Go.Proofs.Ytbbmdpmpbggmgaa.P.limelightlaw15_live.f k = some true := ⟨40, by decide +kernel⟩
  exact (Go.Proofs.Ytbbmdpmpbggmgaa.P.limelightlaw15_live.calls k true W hk).mono fun e w' ⟨h, hb⟩ => ⟨h, ⟨hb⟩⟩
theorem both15_c {S : Nat → Prop} {W : World} {A : Option Addr} {c : Nat} {t : List Nd} (hr : Row nodeK S W (.slice A t.length c) t) (a b : Int) : Calls Try.prog 11 #[.slice A t.length c, .int .i64 a, .int .i64 b] W fun e w' => e = .returned (.bool (mayT t && (isN t a && isN t b))) ∧ Stp W w' := by
  have hC := Go.Proofs.Ytbbmdpmpbggmgaa.P.C_tree hr
  have := Go.Proofs.Ytbbmdpmpbggmgaa.P.limelightref03_Both.calls A c (Go.Proofs.Ytbbmdpmpbggmgaa.P.rt t) a b _ W (by rw [Go.Proofs.Ytbbmdpmpbggmgaa.P.rt_length]; exact hC.1) (by rw [Go.Proofs.Ytbbmdpmpbggmgaa.P.rt_length]; exact hC.2.1) (Go.Proofs.Ytbbmdpmpbggmgaa.P.both_f (Go.Proofs.Ytbbmdpmpbggmgaa.P.rt t) a b)
  rw [Go.Proofs.Ytbbmdpmpbggmgaa.P.rt_length, Go.Proofs.Ytbbmdpmpbggmgaa.P.tr_rt] at this
  exact this.mono fun e w' ⟨h, hb⟩ => ⟨h, ⟨hb⟩⟩
theorem evt_at {S : Nat → Prop} {w : World} {A : Option Addr} {n c : Nat} {xs : List Evt} (h : Row evK S w (.slice A n c) xs) (k : Nat) (hk : k < xs.length) :
    ∃ b o, A = some ⟨b, o, none⟩ ∧ w.cell? ⟨b, o + k * 6, none⟩ = some (.int .i64 xs[k].type) ∧ w.cell? ⟨b, o + k * 6 + 1, none⟩ = some (.int .i64 xs[k].target) ∧ w.cell? ⟨b, o + k * 6 + 2, none⟩ = some (.int .i64 xs[k].related) := by
  obtain ⟨b, o, c', cs, e, hS, hb, hK, hc⟩ := h.get k hk
  injection e with e1 e2 e3
  have hK' : cs = Evt.cells xs[k] := hK
  subst hK'
  exact ⟨b, o, e1, hc 0 _ rfl, hc 1 _ rfl, hc 2 _ rfl⟩
/-- Is one the other's, the other way round? -/
def mtE (e f : Evt) : Bool := (((e.type == 1 || e.type == 3) && f.type == e.type - 1) || ((e.type == 0 || e.type == 2) && f.type == e.type + 1)) && (f.target == e.target && f.related == e.related)
theorem evT_kinds {a b : Int} {e : Evt} (h : e ∈ evT a b) : e.type = 0 ∨ e.type = 1 ∨ e.type = 2 ∨ e.type = 3 := by
  unfold evT pairL at h
  split at h
  · simp at h
  · rcases List.mem_append.1 h with h | h <;> split at h <;> simp at h <;> rcases h with rfl | rfl <;> simp
theorem evT_len (a b : Int) : (evT a b).length = (evT b a).length := by
  unfold evT pairL
  by_cases hab : a = b
  · subst hab; rfl
  · rw [if_neg hab, if_neg (Ne.symm hab)]
    split <;> split <;> simp
theorem evT_le (a b : Int) : (evT a b).length ≤ 4 := by
  unfold evT pairL
  split
  · simp
  · split <;> split <;> simp
theorem evT_back {a b : Int} {e : Evt} (h : e ∈ evT a b) : (evT b a).any (mtE e) = true := by
  unfold evT pairL at *
  split at h
  · simp at h
  · rename_i hab
    rw [if_neg (Ne.symm hab)]
    rcases List.mem_append.1 h with h | h <;> split at h <;> simp at h
    · rename_i ha
      rcases h with rfl | rfl <;> simp [mtE, ha]
    · rename_i hb
      rcases h with rfl | rfl <;> simp [mtE, hb]
set_option maxRecDepth 100000 in
set_option maxHeartbeats 40000000 in
theorem chainback_w {S : Nat → Prop} {W : World} {v : Value} {t : List Nd} (hr : Row nodeK S W v t) (a b : Int) : Calls Try.prog 6 #[v, .int .i64 a, .int .i64 b] W fun e w' => e = .returned (.bool true) ∧ Stp W w' := by
  obtain ⟨A, c, rfl, _⟩ := hr.form
  have cs := fun W' (h : Stp W W') => small_c (hr.stp h)
  have cb := fun W' (h : Stp W W') => both15_c (hr.stp h) a b
  cases hs : smallT t with
  | false =>
    rw [hs] at cs
    go_enter Try.func6, Try.ntmps6
    go_wp2_with (first | (go_at_call 8; refine (cs _ Lime.stp_).mono ?_; rintro e w1 ⟨rfl, hb1⟩) | (go_at_call 9; refine (live15_k _).mono ?_; rintro e w2 ⟨rfl, hb2⟩))
    go_ret
    exact ⟨rfl, by (exact Lime.stp_)⟩
  | true =>
    rw [hs] at cs
    cases hbo : (mayT t && (isN t a && isN t b)) with
    | false =>
      rw [hbo] at cb
      go_enter Try.func6, Try.ntmps6
      go_wp2_with (first | (go_at_call 8; refine (cs _ Lime.stp_).mono ?_; rintro e w1 ⟨rfl, hb1⟩) | (go_at_call 11; refine (cb _ Lime.stp_).mono ?_; rintro e w3 ⟨rfl, hb3⟩) | (go_at_call 9; refine (live15_k _).mono ?_; rintro e w2 ⟨rfl, hb2⟩))
      go_ret
      exact ⟨rfl, by (exact Lime.stp_)⟩
    | true =>
      rw [hbo] at cb
      have hks := Go.Proofs.Ytbbmdpmpbggmgaa.P.kidsOk_small hs
      have hbo2 : (mayT t && (isN t b && isN t a)) = true := by rw [Bool.and_comm (isN t b)]; exact hbo
      have c1 := fun W' (h : Stp W W') => events_r (hr.stp h) hks a b
      have c2 := fun W' (h : Stp W W') => events_r (hr.stp h) hks b a
      rw [show evR t a b = evT a b from if_pos hbo] at c1
      rw [show evR t b a = evT b a from if_pos hbo2] at c2
      have hk1 : ∀ e ∈ evT a b, e.type = 0 ∨ e.type = 1 ∨ e.type = 2 ∨ e.type = 3 := fun e h => evT_kinds h
      have hk2 : ∀ e ∈ evT b a, e.type = 0 ∨ e.type = 1 ∨ e.type = 2 ∨ e.type = 3 := fun e h => evT_kinds h
      have hlen := evT_len a b
      have hle := evT_le a b
      have hback : ∀ e ∈ evT a b, (evT b a).any (mtE e) = true := fun e h => evT_back h
      generalize evT a b = l at c1 hk1 hlen hle hback
      generalize evT b a = k at c2 hk2 hlen hback
      go_enter Try.func6, Try.ntmps6
      go_upto_region 4 with (first | (go_at_call 8; refine (cs _ Lime.stp_).mono ?_; rintro e w1 ⟨rfl, hb1⟩) | (go_at_call 11; refine (cb _ Lime.stp_).mono ?_; rintro e w3 ⟨rfl, hb3⟩) | (go_at_call 10; refine (c1 _ Lime.stp_).mono ?_; rintro e w4 ⟨u4, rfl, o4, hb4⟩; obtain ⟨A4, c4, rfl, _, _⟩ := o4.reads.form))
      have hsw4 : Stp W w4 := Stp.trans Lime.stp_ hb4
      have r4 := o4.reads
      go_upto_region 5 with (go_at_call 10; refine (c2 _ Lime.stp_).mono ?_; rintro e w5 ⟨u5, rfl, o5, hb5⟩; obtain ⟨A5, c5, rfl, _, _⟩ := o5.reads.form)
      have hsw5 : Stp W w5 := hsw4.trans hb5
      have r45 := r4.stp hb5
      have r5 := o5.reads
      clear c1 c2 cs cb o4 o5 r4 hb4 hb5 hs hks hbo hbo2
      have hne : ((l.length : Int) != (k.length : Int)) = false := by simp [hlen]
      have HLn := Lib.hid hlen
      clear hlen
      go_upto_region 7 with fail
      clear hne
      go_wp2_with fail
      go_loopw [9] (fun s9 W' => ∃ i : Nat, s9 = .int .i64 i ∧ i ≤ l.length ∧ Aside (Stp w5 W')) (fun s9 _ => l.length - (intOf s9).toNat)
      case atStart => exact ⟨0, rfl, Nat.zero_le _, Stp.refl _⟩
      case round =>
        obtain ⟨i, rfl, hi, HA⟩ := hrel
        have hst := HA.out
        clear HA
        by_cases hlt : i < l.length
        · have hltz : (i : Int) < (k.length : Int) := by have := HLn.out; omega
          obtain ⟨bl, ol, rfl, y0', y1', y2'⟩ := evt_at (r45.stp hst) i hlt
          have hkd := hk1 _ (List.getElem_mem hlt)
          have hany := hback _ (List.getElem_mem hlt)
          generalize l[i] = e at y0' y1' y2' hkd hany
          have HAny := Lib.hid hany
          clear hany
          go_wp2_with fail
          go_loopg [10, 11] k.length (fun gg s10 s11 W' => ∃ n : Nat, k.length - n ≤ gg ∧ s11 = .int .i64 n ∧ s10 = .bool ((k.take n).any (mtE e)) ∧ n ≤ k.length ∧ Aside (Stp wr W'))
          case atStart => exact ⟨0, Nat.le_refl _, rfl, rfl, Nat.zero_le _, Stp.refl _⟩
          case round =>
            obtain ⟨n, hgk, rfl, rfl, hn, HA⟩ := hrel
            have hst2 := HA.out
            clear HA
            by_cases hlk : n < k.length
            · have hlkz : (n : Int) < (k.length : Int) := by omega
              have y0 := hst2.cell y0'
              have y1 := hst2.cell y1'
              have y2 := hst2.cell y2'
              obtain ⟨bk, ok, rfl, z0, z1, z2⟩ := evt_at (r5.stp (hst.trans hst2)) n hlk
              have hkf := hk2 _ (List.getElem_mem hlk)
              have hx : (k.take (n + 1)).any (mtE e) = ((k.take n).any (mtE e) || mtE e k[n]) := by
                rw [List.take_succ_eq_append_getElem hlk, List.any_append]; simp
              generalize k[n] = f at z0 z1 z2 hkf hx
              generalize (k.take n).any (mtE e) = fo at hx
              have HX := Lib.hid hx
              clear hx y0' y1' y2' hk1 hk2 hback
              obtain ⟨te, ge, re, b1, b2, b3⟩ := e
              obtain ⟨tf, gf, rf, d1, d2, d3⟩ := f
              dsimp only at y0 y1 y2 z0 z1 z2 hkd hkf
              clear hkf
              go_upto_region 14 with fail
              go_cut [12] from 44 to 138 (fun s12 wx => s12 = .bool ((te == 1 || te == 3) && tf == te - 1) ∧ Stp wr wx)
              case first =>
                by_cases h1 : te = 1
                · subst h1
                  as_aux_lemma =>
                    refine wp_region_plan (Plan.calm 0 (Plan.calm 1 (Plan.calm 2 (Plan.calm 3 (Plan.calm 4 (Plan.calm 5 (Plan.calm 6 (Plan.calm 7 (Plan.calm 8 (Plan.calm 9 (Plan.calm 10 (Plan.calm 11 (Plan.calm 12 (Plan.calm 13 (Plan.calm 14 (Plan.calm 15 (Plan.calm 16 (Plan.calm 17 (Plan.calm 18 (Plan.calm 19 (Plan.calm 20 (Plan.calm 21 (Plan.calm 22 (Plan.calm 23 (Plan.calm 24 (Plan.calm 25 (Plan.calm 26 (Plan.calm 27 (Plan.calm 28 Plan.done))))))))))))))))))))))))))))) (by kernel_rfl) (by kernel_rfl) (by kernel_rfl) ?_
                    have hS : Stp wr wr.drew := (Stp.refl _).drew
                    iterate 4 ((first | (refine plan_calm (v := ?_) Lime.getop_ (by rfl) (fun W hW => ?_) ?_; rotate_left; (focus (exact Lime.calm_))) | (refine plan_calm_skip Lime.getop_ (by rfl) ?_)); (try simp only [Act.put, List.setIfInBounds_toArray, List.set_cons_zero, List.set_cons_succ]))
                    (first | (refine plan_calm (v := ?_) Lime.getop_ (by rfl) (fun W hW => ?_) ?_; rotate_left; (focus (have q0_ := (hS.trans hW).cell y0; have q1_ := (hS.trans hW).cell z0; clear hW; (exact Lime.calm_)))) | (refine plan_calm_skip Lime.getop_ (by rfl) ?_)); (try simp only [Act.put, List.setIfInBounds_toArray, List.set_cons_zero, List.set_cons_succ])
                    iterate 6 ((first | (refine plan_calm (v := ?_) Lime.getop_ (by rfl) (fun W hW => ?_) ?_; rotate_left; (focus (exact Lime.calm_))) | (refine plan_calm_skip Lime.getop_ (by rfl) ?_)); (try simp only [Act.put, List.setIfInBounds_toArray, List.set_cons_zero, List.set_cons_succ]))
                    (first | (refine plan_calm (v := ?_) Lime.getop_ (by rfl) (fun W hW => ?_) ?_; rotate_left; (focus (have q0_ := (hS.trans hW).cell y0; have q1_ := (hS.trans hW).cell z0; clear hW; (exact Lime.calm_)))) | (refine plan_calm_skip Lime.getop_ (by rfl) ?_)); (try simp only [Act.put, List.setIfInBounds_toArray, List.set_cons_zero, List.set_cons_succ])
                    iterate 7 ((first | (refine plan_calm (v := ?_) Lime.getop_ (by rfl) (fun W hW => ?_) ?_; rotate_left; (focus (exact Lime.calm_))) | (refine plan_calm_skip Lime.getop_ (by rfl) ?_)); (try simp only [Act.put, List.setIfInBounds_toArray, List.set_cons_zero, List.set_cons_succ]))
                    (first | (refine plan_calm (v := ?_) Lime.getop_ (by rfl) (fun W hW => ?_) ?_; rotate_left; (focus (have q0_ := (hS.trans hW).cell y0; have q1_ := (hS.trans hW).cell z0; clear hW; (exact Lime.calm_)))) | (refine plan_calm_skip Lime.getop_ (by rfl) ?_)); (try simp only [Act.put, List.setIfInBounds_toArray, List.set_cons_zero, List.set_cons_succ])
                    iterate 4 ((first | (refine plan_calm (v := ?_) Lime.getop_ (by rfl) (fun W hW => ?_) ?_; rotate_left; (focus (exact Lime.calm_))) | (refine plan_calm_skip Lime.getop_ (by rfl) ?_)); (try simp only [Act.put, List.setIfInBounds_toArray, List.set_cons_zero, List.set_cons_succ]))
                    (first | (refine plan_calm (v := ?_) Lime.getop_ (by rfl) (fun W hW => ?_) ?_; rotate_left; (focus (have q0_ := (hS.trans hW).cell y0; have q1_ := (hS.trans hW).cell z0; clear hW; (exact Lime.calm_)))) | (refine plan_calm_skip Lime.getop_ (by rfl) ?_)); (try simp only [Act.put, List.setIfInBounds_toArray, List.set_cons_zero, List.set_cons_succ])
                    iterate 4 ((first | (refine plan_calm (v := ?_) Lime.getop_ (by rfl) (fun W hW => ?_) ?_; rotate_left; (focus (exact Lime.calm_))) | (refine plan_calm_skip Lime.getop_ (by rfl) ?_)); (try simp only [Act.put, List.setIfInBounds_toArray, List.set_cons_zero, List.set_cons_succ]))
                    refine plan_done ?_
                    go_wp2_with fail
                    go_meet
                    case rel => exact ⟨by simp, hS⟩
                · have h1b : (te == 1) = false := by simpa using h1
                  by_cases h3 : te = 3
                  · subst h3
                    as_aux_lemma =>
                      refine wp_region_plan (Plan.calm 0 (Plan.calm 1 (Plan.calm 2 (Plan.calm 3 (Plan.calm 4 (Plan.calm 5 (Plan.calm 6 (Plan.calm 7 (Plan.calm 8 (Plan.calm 9 (Plan.calm 10 (Plan.calm 11 (Plan.calm 12 (Plan.calm 13 (Plan.calm 14 (Plan.calm 15 (Plan.calm 16 (Plan.calm 17 (Plan.calm 18 (Plan.calm 19 (Plan.calm 20 (Plan.calm 21 (Plan.calm 22 (Plan.calm 23 (Plan.calm 24 (Plan.calm 25 (Plan.calm 26 (Plan.calm 27 (Plan.calm 28 Plan.done))))))))))))))))))))))))))))) (by kernel_rfl) (by kernel_rfl) (by kernel_rfl) ?_
                      have hS : Stp wr wr.drew := (Stp.refl _).drew
                      iterate 4 ((first | (refine plan_calm (v := ?_) Lime.getop_ (by rfl) (fun W hW => ?_) ?_; rotate_left; (focus (exact Lime.calm_))) | (refine plan_calm_skip Lime.getop_ (by rfl) ?_)); (try simp only [Act.put, List.setIfInBounds_toArray, List.set_cons_zero, List.set_cons_succ]))
                      (first | (refine plan_calm (v := ?_) Lime.getop_ (by rfl) (fun W hW => ?_) ?_; rotate_left; (focus (have q0_ := (hS.trans hW).cell y0; have q1_ := (hS.trans hW).cell z0; clear hW; (exact Lime.calm_)))) | (refine plan_calm_skip Lime.getop_ (by rfl) ?_)); (try simp only [Act.put, List.setIfInBounds_toArray, List.set_cons_zero, List.set_cons_succ])
                      iterate 6 ((first | (refine plan_calm (v := ?_) Lime.getop_ (by rfl) (fun W hW => ?_) ?_; rotate_left; (focus (exact Lime.calm_))) | (refine plan_calm_skip Lime.getop_ (by rfl) ?_)); (try simp only [Act.put, List.setIfInBounds_toArray, List.set_cons_zero, List.set_cons_succ]))
                      (first | (refine plan_calm (v := ?_) Lime.getop_ (by rfl) (fun W hW => ?_) ?_; rotate_left; (focus (have q0_ := (hS.trans hW).cell y0; have q1_ := (hS.trans hW).cell z0; clear hW; (exact Lime.calm_)))) | (refine plan_calm_skip Lime.getop_ (by rfl) ?_)); (try simp only [Act.put, List.setIfInBounds_toArray, List.set_cons_zero, List.set_cons_succ])
                      iterate 7 ((first | (refine plan_calm (v := ?_) Lime.getop_ (by rfl) (fun W hW => ?_) ?_; rotate_left; (focus (exact Lime.calm_))) | (refine plan_calm_skip Lime.getop_ (by rfl) ?_)); (try simp only [Act.put, List.setIfInBounds_toArray, List.set_cons_zero, List.set_cons_succ]))
                      (first | (refine plan_calm (v := ?_) Lime.getop_ (by rfl) (fun W hW => ?_) ?_; rotate_left; (focus (have q0_ := (hS.trans hW).cell y0; have q1_ := (hS.trans hW).cell z0; clear hW; (exact Lime.calm_)))) | (refine plan_calm_skip Lime.getop_ (by rfl) ?_)); (try simp only [Act.put, List.setIfInBounds_toArray, List.set_cons_zero, List.set_cons_succ])
                      iterate 4 ((first | (refine plan_calm (v := ?_) Lime.getop_ (by rfl) (fun W hW => ?_) ?_; rotate_left; (focus (exact Lime.calm_))) | (refine plan_calm_skip Lime.getop_ (by rfl) ?_)); (try simp only [Act.put, List.setIfInBounds_toArray, List.set_cons_zero, List.set_cons_succ]))
                      (first | (refine plan_calm (v := ?_) Lime.getop_ (by rfl) (fun W hW => ?_) ?_; rotate_left; (focus (have q0_ := (hS.trans hW).cell y0; have q1_ := (hS.trans hW).cell z0; clear hW; (exact Lime.calm_)))) | (refine plan_calm_skip Lime.getop_ (by rfl) ?_)); (try simp only [Act.put, List.setIfInBounds_toArray, List.set_cons_zero, List.set_cons_succ])
                      iterate 4 ((first | (refine plan_calm (v := ?_) Lime.getop_ (by rfl) (fun W hW => ?_) ?_; rotate_left; (focus (exact Lime.calm_))) | (refine plan_calm_skip Lime.getop_ (by rfl) ?_)); (try simp only [Act.put, List.setIfInBounds_toArray, List.set_cons_zero, List.set_cons_succ]))
                      refine plan_done ?_
                      go_wp2_with fail
                      go_meet
                      case rel => exact ⟨by simp, hS⟩
                  · have h3b : (te == 3) = false := by simpa using h3
                    as_aux_lemma =>
                      refine wp_region_plan (Plan.calm 0 (Plan.calm 1 (Plan.calm 2 (Plan.calm 3 (Plan.calm 4 (Plan.calm 5 (Plan.calm 6 (Plan.calm 7 (Plan.calm 8 (Plan.calm 9 (Plan.calm 10 (Plan.calm 11 (Plan.calm 12 (Plan.calm 13 (Plan.calm 14 (Plan.calm 15 (Plan.calm 16 (Plan.calm 17 (Plan.calm 18 (Plan.calm 19 (Plan.calm 20 (Plan.calm 21 (Plan.calm 22 (Plan.calm 23 (Plan.calm 24 (Plan.calm 25 (Plan.calm 26 (Plan.calm 27 (Plan.calm 28 Plan.done))))))))))))))))))))))))))))) (by kernel_rfl) (by kernel_rfl) (by kernel_rfl) ?_
                      have hS : Stp wr wr.drew := (Stp.refl _).drew
                      iterate 4 ((first | (refine plan_calm (v := ?_) Lime.getop_ (by rfl) (fun W hW => ?_) ?_; rotate_left; (focus (exact Lime.calm_))) | (refine plan_calm_skip Lime.getop_ (by rfl) ?_)); (try simp only [Act.put, List.setIfInBounds_toArray, List.set_cons_zero, List.set_cons_succ]))
                      (first | (refine plan_calm (v := ?_) Lime.getop_ (by rfl) (fun W hW => ?_) ?_; rotate_left; (focus (have q0_ := (hS.trans hW).cell y0; have q1_ := (hS.trans hW).cell z0; clear hW; (exact Lime.calm_)))) | (refine plan_calm_skip Lime.getop_ (by rfl) ?_)); (try simp only [Act.put, List.setIfInBounds_toArray, List.set_cons_zero, List.set_cons_succ])
                      iterate 6 ((first | (refine plan_calm (v := ?_) Lime.getop_ (by rfl) (fun W hW => ?_) ?_; rotate_left; (focus (exact Lime.calm_))) | (refine plan_calm_skip Lime.getop_ (by rfl) ?_)); (try simp only [Act.put, List.setIfInBounds_toArray, List.set_cons_zero, List.set_cons_succ]))
                      (first | (refine plan_calm (v := ?_) Lime.getop_ (by rfl) (fun W hW => ?_) ?_; rotate_left; (focus (have q0_ := (hS.trans hW).cell y0; have q1_ := (hS.trans hW).cell z0; clear hW; (exact Lime.calm_)))) | (refine plan_calm_skip Lime.getop_ (by rfl) ?_)); (try simp only [Act.put, List.setIfInBounds_toArray, List.set_cons_zero, List.set_cons_succ])
                      iterate 7 ((first | (refine plan_calm (v := ?_) Lime.getop_ (by rfl) (fun W hW => ?_) ?_; rotate_left; (focus (exact Lime.calm_))) | (refine plan_calm_skip Lime.getop_ (by rfl) ?_)); (try simp only [Act.put, List.setIfInBounds_toArray, List.set_cons_zero, List.set_cons_succ]))
                      (first | (refine plan_calm (v := ?_) Lime.getop_ (by rfl) (fun W hW => ?_) ?_; rotate_left; (focus (have q0_ := (hS.trans hW).cell y0; have q1_ := (hS.trans hW).cell z0; clear hW; (exact Lime.calm_)))) | (refine plan_calm_skip Lime.getop_ (by rfl) ?_)); (try simp only [Act.put, List.setIfInBounds_toArray, List.set_cons_zero, List.set_cons_succ])
                      iterate 4 ((first | (refine plan_calm (v := ?_) Lime.getop_ (by rfl) (fun W hW => ?_) ?_; rotate_left; (focus (exact Lime.calm_))) | (refine plan_calm_skip Lime.getop_ (by rfl) ?_)); (try simp only [Act.put, List.setIfInBounds_toArray, List.set_cons_zero, List.set_cons_succ]))
                      (first | (refine plan_calm (v := ?_) Lime.getop_ (by rfl) (fun W hW => ?_) ?_; rotate_left; (focus (have q0_ := (hS.trans hW).cell y0; have q1_ := (hS.trans hW).cell z0; clear hW; (exact Lime.calm_)))) | (refine plan_calm_skip Lime.getop_ (by rfl) ?_)); (try simp only [Act.put, List.setIfInBounds_toArray, List.set_cons_zero, List.set_cons_succ])
                      iterate 4 ((first | (refine plan_calm (v := ?_) Lime.getop_ (by rfl) (fun W hW => ?_) ?_; rotate_left; (focus (exact Lime.calm_))) | (refine plan_calm_skip Lime.getop_ (by rfl) ?_)); (try simp only [Act.put, List.setIfInBounds_toArray, List.set_cons_zero, List.set_cons_succ]))
                      refine plan_done ?_
                      go_wp2_with fail
                      go_meet
                      case rel => exact ⟨by simp [h1b, h3b], hS⟩
              case rest =>
                as_aux_lemma =>
                  obtain ⟨rfl, hs6⟩ := hcut
                  replace y0 := hs6.cell y0
                  replace y1 := hs6.cell y1
                  replace y2 := hs6.cell y2
                  replace z0 := hs6.cell z0
                  replace z1 := hs6.cell z1
                  replace z2 := hs6.cell z2
                  have hmt : ∀ fo : Bool, (fo || mtE ⟨te, ge, re, b1, b2, b3⟩ ⟨tf, gf, rf, d1, d2, d3⟩) = (fo || ((((te == 1 || te == 3) && tf == te - 1) || ((te == 0 || te == 2) && tf == te + 1)) && (gf == ge && rf == re))) := fun _ => rfl
                  have HX2 := Lib.hid (HX.out.trans (hmt _))
                  clear HX hmt
                  have HX := Lib.hid HX2.out
                  clear HX2
                  generalize ((te == 1 || te == 3) && tf == te - 1) = out at HX ⊢
                  go_upto_region 15 with fail
                  go_cut [13] from 44 to 138 (fun s13 wx => s13 = .bool ((te == 0 || te == 2) && tf == te + 1) ∧ Stp wc wx)
                  case first =>
                    by_cases h1 : te = 0
                    · subst h1
                      as_aux_lemma =>
                        refine wp_region_plan (Plan.calm 0 (Plan.calm 1 (Plan.calm 2 (Plan.calm 3 (Plan.calm 4 (Plan.calm 5 (Plan.calm 6 (Plan.calm 7 (Plan.calm 8 (Plan.calm 9 (Plan.calm 10 (Plan.calm 11 (Plan.calm 12 (Plan.calm 13 (Plan.calm 14 (Plan.calm 15 (Plan.calm 16 (Plan.calm 17 (Plan.calm 18 (Plan.calm 19 (Plan.calm 20 (Plan.calm 21 (Plan.calm 22 (Plan.calm 23 (Plan.calm 24 (Plan.calm 25 (Plan.calm 26 (Plan.calm 27 (Plan.calm 28 Plan.done))))))))))))))))))))))))))))) (by kernel_rfl) (by kernel_rfl) (by kernel_rfl) ?_
                        have hS : Stp wc wc.drew := (Stp.refl _).drew
                        iterate 4 ((first | (refine plan_calm (v := ?_) Lime.getop_ (by rfl) (fun W hW => ?_) ?_; rotate_left; (focus (exact Lime.calm_))) | (refine plan_calm_skip Lime.getop_ (by rfl) ?_)); (try simp only [Act.put, List.setIfInBounds_toArray, List.set_cons_zero, List.set_cons_succ]))
                        (first | (refine plan_calm (v := ?_) Lime.getop_ (by rfl) (fun W hW => ?_) ?_; rotate_left; (focus (have q0_ := (hS.trans hW).cell y0; have q1_ := (hS.trans hW).cell z0; clear hW; (exact Lime.calm_)))) | (refine plan_calm_skip Lime.getop_ (by rfl) ?_)); (try simp only [Act.put, List.setIfInBounds_toArray, List.set_cons_zero, List.set_cons_succ])
                        iterate 6 ((first | (refine plan_calm (v := ?_) Lime.getop_ (by rfl) (fun W hW => ?_) ?_; rotate_left; (focus (exact Lime.calm_))) | (refine plan_calm_skip Lime.getop_ (by rfl) ?_)); (try simp only [Act.put, List.setIfInBounds_toArray, List.set_cons_zero, List.set_cons_succ]))
                        (first | (refine plan_calm (v := ?_) Lime.getop_ (by rfl) (fun W hW => ?_) ?_; rotate_left; (focus (have q0_ := (hS.trans hW).cell y0; have q1_ := (hS.trans hW).cell z0; clear hW; (exact Lime.calm_)))) | (refine plan_calm_skip Lime.getop_ (by rfl) ?_)); (try simp only [Act.put, List.setIfInBounds_toArray, List.set_cons_zero, List.set_cons_succ])
                        iterate 7 ((first | (refine plan_calm (v := ?_) Lime.getop_ (by rfl) (fun W hW => ?_) ?_; rotate_left; (focus (exact Lime.calm_))) | (refine plan_calm_skip Lime.getop_ (by rfl) ?_)); (try simp only [Act.put, List.setIfInBounds_toArray, List.set_cons_zero, List.set_cons_succ]))
                        (first | (refine plan_calm (v := ?_) Lime.getop_ (by rfl) (fun W hW => ?_) ?_; rotate_left; (focus (have q0_ := (hS.trans hW).cell y0; have q1_ := (hS.trans hW).cell z0; clear hW; (exact Lime.calm_)))) | (refine plan_calm_skip Lime.getop_ (by rfl) ?_)); (try simp only [Act.put, List.setIfInBounds_toArray, List.set_cons_zero, List.set_cons_succ])
                        iterate 4 ((first | (refine plan_calm (v := ?_) Lime.getop_ (by rfl) (fun W hW => ?_) ?_; rotate_left; (focus (exact Lime.calm_))) | (refine plan_calm_skip Lime.getop_ (by rfl) ?_)); (try simp only [Act.put, List.setIfInBounds_toArray, List.set_cons_zero, List.set_cons_succ]))
                        (first | (refine plan_calm (v := ?_) Lime.getop_ (by rfl) (fun W hW => ?_) ?_; rotate_left; (focus (have q0_ := (hS.trans hW).cell y0; have q1_ := (hS.trans hW).cell z0; clear hW; (exact Lime.calm_)))) | (refine plan_calm_skip Lime.getop_ (by rfl) ?_)); (try simp only [Act.put, List.setIfInBounds_toArray, List.set_cons_zero, List.set_cons_succ])
                        iterate 4 ((first | (refine plan_calm (v := ?_) Lime.getop_ (by rfl) (fun W hW => ?_) ?_; rotate_left; (focus (exact Lime.calm_))) | (refine plan_calm_skip Lime.getop_ (by rfl) ?_)); (try simp only [Act.put, List.setIfInBounds_toArray, List.set_cons_zero, List.set_cons_succ]))
                        refine plan_done ?_
                        go_wp2_with fail
                        go_meet
                        case rel => exact ⟨by simp, hS⟩
                    · have h1b : (te == 0) = false := by simpa using h1
                      by_cases h3 : te = 2
                      · subst h3
                        as_aux_lemma =>
                          refine wp_region_plan (Plan.calm 0 (Plan.calm 1 (Plan.calm 2 (Plan.calm 3 (Plan.calm 4 (Plan.calm 5 (Plan.calm 6 (Plan.calm 7 (Plan.calm 8 (Plan.calm 9 (Plan.calm 10 (Plan.calm 11 (Plan.calm 12 (Plan.calm 13 (Plan.calm 14 (Plan.calm 15 (Plan.calm 16 (Plan.calm 17 (Plan.calm 18 (Plan.calm 19 (Plan.calm 20 (Plan.calm 21 (Plan.calm 22 (Plan.calm 23 (Plan.calm 24 (Plan.calm 25 (Plan.calm 26 (Plan.calm 27 (Plan.calm 28 Plan.done))))))))))))))))))))))))))))) (by kernel_rfl) (by kernel_rfl) (by kernel_rfl) ?_
                          have hS : Stp wc wc.drew := (Stp.refl _).drew
                          iterate 4 ((first | (refine plan_calm (v := ?_) Lime.getop_ (by rfl) (fun W hW => ?_) ?_; rotate_left; (focus (exact Lime.calm_))) | (refine plan_calm_skip Lime.getop_ (by rfl) ?_)); (try simp only [Act.put, List.setIfInBounds_toArray, List.set_cons_zero, List.set_cons_succ]))
                          (first | (refine plan_calm (v := ?_) Lime.getop_ (by rfl) (fun W hW => ?_) ?_; rotate_left; (focus (have q0_ := (hS.trans hW).cell y0; have q1_ := (hS.trans hW).cell z0; clear hW; (exact Lime.calm_)))) | (refine plan_calm_skip Lime.getop_ (by rfl) ?_)); (try simp only [Act.put, List.setIfInBounds_toArray, List.set_cons_zero, List.set_cons_succ])
                          iterate 6 ((first | (refine plan_calm (v := ?_) Lime.getop_ (by rfl) (fun W hW => ?_) ?_; rotate_left; (focus (exact Lime.calm_))) | (refine plan_calm_skip Lime.getop_ (by rfl) ?_)); (try simp only [Act.put, List.setIfInBounds_toArray, List.set_cons_zero, List.set_cons_succ]))
                          (first | (refine plan_calm (v := ?_) Lime.getop_ (by rfl) (fun W hW => ?_) ?_; rotate_left; (focus (have q0_ := (hS.trans hW).cell y0; have q1_ := (hS.trans hW).cell z0; clear hW; (exact Lime.calm_)))) | (refine plan_calm_skip Lime.getop_ (by rfl) ?_)); (try simp only [Act.put, List.setIfInBounds_toArray, List.set_cons_zero, List.set_cons_succ])
                          iterate 7 ((first | (refine plan_calm (v := ?_) Lime.getop_ (by rfl) (fun W hW => ?_) ?_; rotate_left; (focus (exact Lime.calm_))) | (refine plan_calm_skip Lime.getop_ (by rfl) ?_)); (try simp only [Act.put, List.setIfInBounds_toArray, List.set_cons_zero, List.set_cons_succ]))
                          (first | (refine plan_calm (v := ?_) Lime.getop_ (by rfl) (fun W hW => ?_) ?_; rotate_left; (focus (have q0_ := (hS.trans hW).cell y0; have q1_ := (hS.trans hW).cell z0; clear hW; (exact Lime.calm_)))) | (refine plan_calm_skip Lime.getop_ (by rfl) ?_)); (try simp only [Act.put, List.setIfInBounds_toArray, List.set_cons_zero, List.set_cons_succ])
                          iterate 4 ((first | (refine plan_calm (v := ?_) Lime.getop_ (by rfl) (fun W hW => ?_) ?_; rotate_left; (focus (exact Lime.calm_))) | (refine plan_calm_skip Lime.getop_ (by rfl) ?_)); (try simp only [Act.put, List.setIfInBounds_toArray, List.set_cons_zero, List.set_cons_succ]))
                          (first | (refine plan_calm (v := ?_) Lime.getop_ (by rfl) (fun W hW => ?_) ?_; rotate_left; (focus (have q0_ := (hS.trans hW).cell y0; have q1_ := (hS.trans hW).cell z0; clear hW; (exact Lime.calm_)))) | (refine plan_calm_skip Lime.getop_ (by rfl) ?_)); (try simp only [Act.put, List.setIfInBounds_toArray, List.set_cons_zero, List.set_cons_succ])
                          iterate 4 ((first | (refine plan_calm (v := ?_) Lime.getop_ (by rfl) (fun W hW => ?_) ?_; rotate_left; (focus (exact Lime.calm_))) | (refine plan_calm_skip Lime.getop_ (by rfl) ?_)); (try simp only [Act.put, List.setIfInBounds_toArray, List.set_cons_zero, List.set_cons_succ]))
                          refine plan_done ?_
                          go_wp2_with fail
                          go_meet
                          case rel => exact ⟨by simp, hS⟩
                      · have h3b : (te == 2) = false := by simpa using h3
                        as_aux_lemma =>
                          refine wp_region_plan (Plan.calm 0 (Plan.calm 1 (Plan.calm 2 (Plan.calm 3 (Plan.calm 4 (Plan.calm 5 (Plan.calm 6 (Plan.calm 7 (Plan.calm 8 (Plan.calm 9 (Plan.calm 10 (Plan.calm 11 (Plan.calm 12 (Plan.calm 13 (Plan.calm 14 (Plan.calm 15 (Plan.calm 16 (Plan.calm 17 (Plan.calm 18 (Plan.calm 19 (Plan.calm 20 (Plan.calm 21 (Plan.calm 22 (Plan.calm 23 (Plan.calm 24 (Plan.calm 25 (Plan.calm 26 (Plan.calm 27 (Plan.calm 28 Plan.done))))))))))))))))))))))))))))) (by kernel_rfl) (by kernel_rfl) (by kernel_rfl) ?_
                          have hS : Stp wc wc.drew := (Stp.refl _).drew
                          iterate 4 ((first | (refine plan_calm (v := ?_) Lime.getop_ (by rfl) (fun W hW => ?_) ?_; rotate_left; (focus (exact Lime.calm_))) | (refine plan_calm_skip Lime.getop_ (by rfl) ?_)); (try simp only [Act.put, List.setIfInBounds_toArray, List.set_cons_zero, List.set_cons_succ]))
                          (first | (refine plan_calm (v := ?_) Lime.getop_ (by rfl) (fun W hW => ?_) ?_; rotate_left; (focus (have q0_ := (hS.trans hW).cell y0; have q1_ := (hS.trans hW).cell z0; clear hW; (exact Lime.calm_)))) | (refine plan_calm_skip Lime.getop_ (by rfl) ?_)); (try simp only [Act.put, List.setIfInBounds_toArray, List.set_cons_zero, List.set_cons_succ])
                          iterate 6 ((first | (refine plan_calm (v := ?_) Lime.getop_ (by rfl) (fun W hW => ?_) ?_; rotate_left; (focus (exact Lime.calm_))) | (refine plan_calm_skip Lime.getop_ (by rfl) ?_)); (try simp only [Act.put, List.setIfInBounds_toArray, List.set_cons_zero, List.set_cons_succ]))
                          (first | (refine plan_calm (v := ?_) Lime.getop_ (by rfl) (fun W hW => ?_) ?_; rotate_left; (focus (have q0_ := (hS.trans hW).cell y0; have q1_ := (hS.trans hW).cell z0; clear hW; (exact Lime.calm_)))) | (refine plan_calm_skip Lime.getop_ (by rfl) ?_)); (try simp only [Act.put, List.setIfInBounds_toArray, List.set_cons_zero, List.set_cons_succ])
                          iterate 7 ((first | (refine plan_calm (v := ?_) Lime.getop_ (by rfl) (fun W hW => ?_) ?_; rotate_left; (focus (exact Lime.calm_))) | (refine plan_calm_skip Lime.getop_ (by rfl) ?_)); (try simp only [Act.put, List.setIfInBounds_toArray, List.set_cons_zero, List.set_cons_succ]))
                          (first | (refine plan_calm (v := ?_) Lime.getop_ (by rfl) (fun W hW => ?_) ?_; rotate_left; (focus (have q0_ := (hS.trans hW).cell y0; have q1_ := (hS.trans hW).cell z0; clear hW; (exact Lime.calm_)))) | (refine plan_calm_skip Lime.getop_ (by rfl) ?_)); (try simp only [Act.put, List.setIfInBounds_toArray, List.set_cons_zero, List.set_cons_succ])
                          iterate 4 ((first | (refine plan_calm (v := ?_) Lime.getop_ (by rfl) (fun W hW => ?_) ?_; rotate_left; (focus (exact Lime.calm_))) | (refine plan_calm_skip Lime.getop_ (by rfl) ?_)); (try simp only [Act.put, List.setIfInBounds_toArray, List.set_cons_zero, List.set_cons_succ]))
                          (first | (refine plan_calm (v := ?_) Lime.getop_ (by rfl) (fun W hW => ?_) ?_; rotate_left; (focus (have q0_ := (hS.trans hW).cell y0; have q1_ := (hS.trans hW).cell z0; clear hW; (exact Lime.calm_)))) | (refine plan_calm_skip Lime.getop_ (by rfl) ?_)); (try simp only [Act.put, List.setIfInBounds_toArray, List.set_cons_zero, List.set_cons_succ])
                          iterate 4 ((first | (refine plan_calm (v := ?_) Lime.getop_ (by rfl) (fun W hW => ?_) ?_; rotate_left; (focus (exact Lime.calm_))) | (refine plan_calm_skip Lime.getop_ (by rfl) ?_)); (try simp only [Act.put, List.setIfInBounds_toArray, List.set_cons_zero, List.set_cons_succ]))
                          refine plan_done ?_
                          go_wp2_with fail
                          go_meet
                          case rel => exact ⟨by simp [h1b, h3b], hS⟩
                  case rest =>
                    as_aux_lemma =>
                      obtain ⟨rfl, hs7⟩ := hcut
                      replace y1 := hs7.cell y1
                      replace y2 := hs7.cell y2
                      replace z1 := hs7.cell z1
                      replace z2 := hs7.cell z2
                      clear y0 z0
                      generalize ((te == 0 || te == 2) && tf == te + 1) = inn at HX ⊢
                      go_upto_region 16 with fail
                      cases fo with
                      | true =>
                        as_aux_lemma =>
                          refine wp_region_plan (Plan.calm 0 (Plan.calm 1 (Plan.calm 2 (Plan.calm 3 (Plan.calm 4 (Plan.calm 5 (Plan.calm 6 (Plan.calm 7 (Plan.calm 8 (Plan.calm 9 (Plan.calm 10 (Plan.calm 11 (Plan.calm 12 (Plan.calm 13 (Plan.calm 14 (Plan.calm 15 (Plan.calm 16 (Plan.calm 17 (Plan.calm 18 (Plan.calm 19 (Plan.calm 20 (Plan.calm 21 (Plan.calm 22 (Plan.calm 23 (Plan.calm 24 (Plan.calm 25 (Plan.calm 26 (Plan.calm 27 (Plan.calm 28 (Plan.calm 29 (Plan.calm 30 (Plan.calm 31 (Plan.calm 32 (Plan.calm 33 Plan.done)))))))))))))))))))))))))))))))))) (by kernel_rfl) (by kernel_rfl) (by kernel_rfl) ?_
                          have hS : Stp wc wc.drew := (Stp.refl _).drew
                          iterate 11 ((first | (refine plan_calm (v := ?_) Lime.getop_ (by rfl) (fun W hW => ?_) ?_; rotate_left; (focus (exact Lime.calm_))) | (refine plan_calm_skip Lime.getop_ (by rfl) ?_)); (try simp only [Act.put, List.setIfInBounds_toArray, List.set_cons_zero, List.set_cons_succ]))
                          (first | (refine plan_calm (v := ?_) Lime.getop_ (by rfl) (fun W hW => ?_) ?_; rotate_left; (focus (have q0_ := (hS.trans hW).cell y1; have q1_ := (hS.trans hW).cell y2; have q2_ := (hS.trans hW).cell z1; have q3_ := (hS.trans hW).cell z2; clear hW; (exact Lime.calm_)))) | (refine plan_calm_skip Lime.getop_ (by rfl) ?_)); (try simp only [Act.put, List.setIfInBounds_toArray, List.set_cons_zero, List.set_cons_succ])
                          iterate 4 ((first | (refine plan_calm (v := ?_) Lime.getop_ (by rfl) (fun W hW => ?_) ?_; rotate_left; (focus (exact Lime.calm_))) | (refine plan_calm_skip Lime.getop_ (by rfl) ?_)); (try simp only [Act.put, List.setIfInBounds_toArray, List.set_cons_zero, List.set_cons_succ]))
                          (first | (refine plan_calm (v := ?_) Lime.getop_ (by rfl) (fun W hW => ?_) ?_; rotate_left; (focus (have q0_ := (hS.trans hW).cell y1; have q1_ := (hS.trans hW).cell y2; have q2_ := (hS.trans hW).cell z1; have q3_ := (hS.trans hW).cell z2; clear hW; (exact Lime.calm_)))) | (refine plan_calm_skip Lime.getop_ (by rfl) ?_)); (try simp only [Act.put, List.setIfInBounds_toArray, List.set_cons_zero, List.set_cons_succ])
                          iterate 7 ((first | (refine plan_calm (v := ?_) Lime.getop_ (by rfl) (fun W hW => ?_) ?_; rotate_left; (focus (exact Lime.calm_))) | (refine plan_calm_skip Lime.getop_ (by rfl) ?_)); (try simp only [Act.put, List.setIfInBounds_toArray, List.set_cons_zero, List.set_cons_succ]))
                          (first | (refine plan_calm (v := ?_) Lime.getop_ (by rfl) (fun W hW => ?_) ?_; rotate_left; (focus (have q0_ := (hS.trans hW).cell y1; have q1_ := (hS.trans hW).cell y2; have q2_ := (hS.trans hW).cell z1; have q3_ := (hS.trans hW).cell z2; clear hW; (exact Lime.calm_)))) | (refine plan_calm_skip Lime.getop_ (by rfl) ?_)); (try simp only [Act.put, List.setIfInBounds_toArray, List.set_cons_zero, List.set_cons_succ])
                          iterate 4 ((first | (refine plan_calm (v := ?_) Lime.getop_ (by rfl) (fun W hW => ?_) ?_; rotate_left; (focus (exact Lime.calm_))) | (refine plan_calm_skip Lime.getop_ (by rfl) ?_)); (try simp only [Act.put, List.setIfInBounds_toArray, List.set_cons_zero, List.set_cons_succ]))
                          (first | (refine plan_calm (v := ?_) Lime.getop_ (by rfl) (fun W hW => ?_) ?_; rotate_left; (focus (have q0_ := (hS.trans hW).cell y1; have q1_ := (hS.trans hW).cell y2; have q2_ := (hS.trans hW).cell z1; have q3_ := (hS.trans hW).cell z2; clear hW; (exact Lime.calm_)))) | (refine plan_calm_skip Lime.getop_ (by rfl) ?_)); (try simp only [Act.put, List.setIfInBounds_toArray, List.set_cons_zero, List.set_cons_succ])
                          iterate 4 ((first | (refine plan_calm (v := ?_) Lime.getop_ (by rfl) (fun W hW => ?_) ?_; rotate_left; (focus (exact Lime.calm_))) | (refine plan_calm_skip Lime.getop_ (by rfl) ?_)); (try simp only [Act.put, List.setIfInBounds_toArray, List.set_cons_zero, List.set_cons_succ]))
                          refine plan_done ?_
                          go_wp2_with fail
                          go_roundg (k.length - (n + 1))
                          case measure => omega
                          case rel => exact ⟨n + 1, Nat.le_refl _, by go_num, by rw [HX.out]; simp, hlk, hst2.trans (hs6.trans (hs7.trans Lime.stp_))⟩
                      | false =>
                        cases out with
                        | true =>
                          cases hg : (gf == ge) with
                          | false =>
                            as_aux_lemma =>
                              refine wp_region_plan (Plan.calm 0 (Plan.calm 1 (Plan.calm 2 (Plan.calm 3 (Plan.calm 4 (Plan.calm 5 (Plan.calm 6 (Plan.calm 7 (Plan.calm 8 (Plan.calm 9 (Plan.calm 10 (Plan.calm 11 (Plan.calm 12 (Plan.calm 13 (Plan.calm 14 (Plan.calm 15 (Plan.calm 16 (Plan.calm 17 (Plan.calm 18 (Plan.calm 19 (Plan.calm 20 (Plan.calm 21 (Plan.calm 22 (Plan.calm 23 (Plan.calm 24 (Plan.calm 25 (Plan.calm 26 (Plan.calm 27 (Plan.calm 28 (Plan.calm 29 (Plan.calm 30 (Plan.calm 31 (Plan.calm 32 (Plan.calm 33 Plan.done)))))))))))))))))))))))))))))))))) (by kernel_rfl) (by kernel_rfl) (by kernel_rfl) ?_
                              have hS : Stp wc wc.drew := (Stp.refl _).drew
                              iterate 11 ((first | (refine plan_calm (v := ?_) Lime.getop_ (by rfl) (fun W hW => ?_) ?_; rotate_left; (focus (exact Lime.calm_))) | (refine plan_calm_skip Lime.getop_ (by rfl) ?_)); (try simp only [Act.put, List.setIfInBounds_toArray, List.set_cons_zero, List.set_cons_succ]))
                              (first | (refine plan_calm (v := ?_) Lime.getop_ (by rfl) (fun W hW => ?_) ?_; rotate_left; (focus (have q0_ := (hS.trans hW).cell y1; have q1_ := (hS.trans hW).cell y2; have q2_ := (hS.trans hW).cell z1; have q3_ := (hS.trans hW).cell z2; clear hW; (exact Lime.calm_)))) | (refine plan_calm_skip Lime.getop_ (by rfl) ?_)); (try simp only [Act.put, List.setIfInBounds_toArray, List.set_cons_zero, List.set_cons_succ])
                              iterate 4 ((first | (refine plan_calm (v := ?_) Lime.getop_ (by rfl) (fun W hW => ?_) ?_; rotate_left; (focus (exact Lime.calm_))) | (refine plan_calm_skip Lime.getop_ (by rfl) ?_)); (try simp only [Act.put, List.setIfInBounds_toArray, List.set_cons_zero, List.set_cons_succ]))
                              (first | (refine plan_calm (v := ?_) Lime.getop_ (by rfl) (fun W hW => ?_) ?_; rotate_left; (focus (have q0_ := (hS.trans hW).cell y1; have q1_ := (hS.trans hW).cell y2; have q2_ := (hS.trans hW).cell z1; have q3_ := (hS.trans hW).cell z2; clear hW; (exact Lime.calm_)))) | (refine plan_calm_skip Lime.getop_ (by rfl) ?_)); (try simp only [Act.put, List.setIfInBounds_toArray, List.set_cons_zero, List.set_cons_succ])
                              iterate 7 ((first | (refine plan_calm (v := ?_) Lime.getop_ (by rfl) (fun W hW => ?_) ?_; rotate_left; (focus (exact Lime.calm_))) | (refine plan_calm_skip Lime.getop_ (by rfl) ?_)); (try simp only [Act.put, List.setIfInBounds_toArray, List.set_cons_zero, List.set_cons_succ]))
                              (first | (refine plan_calm (v := ?_) Lime.getop_ (by rfl) (fun W hW => ?_) ?_; rotate_left; (focus (have q0_ := (hS.trans hW).cell y1; have q1_ := (hS.trans hW).cell y2; have q2_ := (hS.trans hW).cell z1; have q3_ := (hS.trans hW).cell z2; clear hW; (exact Lime.calm_)))) | (refine plan_calm_skip Lime.getop_ (by rfl) ?_)); (try simp only [Act.put, List.setIfInBounds_toArray, List.set_cons_zero, List.set_cons_succ])
                              iterate 4 ((first | (refine plan_calm (v := ?_) Lime.getop_ (by rfl) (fun W hW => ?_) ?_; rotate_left; (focus (exact Lime.calm_))) | (refine plan_calm_skip Lime.getop_ (by rfl) ?_)); (try simp only [Act.put, List.setIfInBounds_toArray, List.set_cons_zero, List.set_cons_succ]))
                              (first | (refine plan_calm (v := ?_) Lime.getop_ (by rfl) (fun W hW => ?_) ?_; rotate_left; (focus (have q0_ := (hS.trans hW).cell y1; have q1_ := (hS.trans hW).cell y2; have q2_ := (hS.trans hW).cell z1; have q3_ := (hS.trans hW).cell z2; clear hW; (exact Lime.calm_)))) | (refine plan_calm_skip Lime.getop_ (by rfl) ?_)); (try simp only [Act.put, List.setIfInBounds_toArray, List.set_cons_zero, List.set_cons_succ])
                              iterate 4 ((first | (refine plan_calm (v := ?_) Lime.getop_ (by rfl) (fun W hW => ?_) ?_; rotate_left; (focus (exact Lime.calm_))) | (refine plan_calm_skip Lime.getop_ (by rfl) ?_)); (try simp only [Act.put, List.setIfInBounds_toArray, List.set_cons_zero, List.set_cons_succ]))
                              refine plan_done ?_
                              go_wp2_with fail
                              go_roundg (k.length - (n + 1))
                              case measure => omega
                              case rel => exact ⟨n + 1, Nat.le_refl _, by go_num, by rw [HX.out]; simp [hg], hlk, hst2.trans (hs6.trans (hs7.trans Lime.stp_))⟩
                          | true =>
                            cases hr2 : (rf == re) with
                            | false =>
                              as_aux_lemma =>
                                refine wp_region_plan (Plan.calm 0 (Plan.calm 1 (Plan.calm 2 (Plan.calm 3 (Plan.calm 4 (Plan.calm 5 (Plan.calm 6 (Plan.calm 7 (Plan.calm 8 (Plan.calm 9 (Plan.calm 10 (Plan.calm 11 (Plan.calm 12 (Plan.calm 13 (Plan.calm 14 (Plan.calm 15 (Plan.calm 16 (Plan.calm 17 (Plan.calm 18 (Plan.calm 19 (Plan.calm 20 (Plan.calm 21 (Plan.calm 22 (Plan.calm 23 (Plan.calm 24 (Plan.calm 25 (Plan.calm 26 (Plan.calm 27 (Plan.calm 28 (Plan.calm 29 (Plan.calm 30 (Plan.calm 31 (Plan.calm 32 (Plan.calm 33 Plan.done)))))))))))))))))))))))))))))))))) (by kernel_rfl) (by kernel_rfl) (by kernel_rfl) ?_
                                have hS : Stp wc wc.drew := (Stp.refl _).drew
                                iterate 11 ((first | (refine plan_calm (v := ?_) Lime.getop_ (by rfl) (fun W hW => ?_) ?_; rotate_left; (focus (exact Lime.calm_))) | (refine plan_calm_skip Lime.getop_ (by rfl) ?_)); (try simp only [Act.put, List.setIfInBounds_toArray, List.set_cons_zero, List.set_cons_succ]))
                                (first | (refine plan_calm (v := ?_) Lime.getop_ (by rfl) (fun W hW => ?_) ?_; rotate_left; (focus (have q0_ := (hS.trans hW).cell y1; have q1_ := (hS.trans hW).cell y2; have q2_ := (hS.trans hW).cell z1; have q3_ := (hS.trans hW).cell z2; clear hW; (exact Lime.calm_)))) | (refine plan_calm_skip Lime.getop_ (by rfl) ?_)); (try simp only [Act.put, List.setIfInBounds_toArray, List.set_cons_zero, List.set_cons_succ])
                                iterate 4 ((first | (refine plan_calm (v := ?_) Lime.getop_ (by rfl) (fun W hW => ?_) ?_; rotate_left; (focus (exact Lime.calm_))) | (refine plan_calm_skip Lime.getop_ (by rfl) ?_)); (try simp only [Act.put, List.setIfInBounds_toArray, List.set_cons_zero, List.set_cons_succ]))
                                (first | (refine plan_calm (v := ?_) Lime.getop_ (by rfl) (fun W hW => ?_) ?_; rotate_left; (focus (have q0_ := (hS.trans hW).cell y1; have q1_ := (hS.trans hW).cell y2; have q2_ := (hS.trans hW).cell z1; have q3_ := (hS.trans hW).cell z2; clear hW; (exact Lime.calm_)))) | (refine plan_calm_skip Lime.getop_ (by rfl) ?_)); (try simp only [Act.put, List.setIfInBounds_toArray, List.set_cons_zero, List.set_cons_succ])
                                iterate 7 ((first | (refine plan_calm (v := ?_) Lime.getop_ (by rfl) (fun W hW => ?_) ?_; rotate_left; (focus (exact Lime.calm_))) | (refine plan_calm_skip Lime.getop_ (by rfl) ?_)); (try simp only [Act.put, List.setIfInBounds_toArray, List.set_cons_zero, List.set_cons_succ]))
                                (first | (refine plan_calm (v := ?_) Lime.getop_ (by rfl) (fun W hW => ?_) ?_; rotate_left; (focus (have q0_ := (hS.trans hW).cell y1; have q1_ := (hS.trans hW).cell y2; have q2_ := (hS.trans hW).cell z1; have q3_ := (hS.trans hW).cell z2; clear hW; (exact Lime.calm_)))) | (refine plan_calm_skip Lime.getop_ (by rfl) ?_)); (try simp only [Act.put, List.setIfInBounds_toArray, List.set_cons_zero, List.set_cons_succ])
                                iterate 4 ((first | (refine plan_calm (v := ?_) Lime.getop_ (by rfl) (fun W hW => ?_) ?_; rotate_left; (focus (exact Lime.calm_))) | (refine plan_calm_skip Lime.getop_ (by rfl) ?_)); (try simp only [Act.put, List.setIfInBounds_toArray, List.set_cons_zero, List.set_cons_succ]))
                                (first | (refine plan_calm (v := ?_) Lime.getop_ (by rfl) (fun W hW => ?_) ?_; rotate_left; (focus (have q0_ := (hS.trans hW).cell y1; have q1_ := (hS.trans hW).cell y2; have q2_ := (hS.trans hW).cell z1; have q3_ := (hS.trans hW).cell z2; clear hW; (exact Lime.calm_)))) | (refine plan_calm_skip Lime.getop_ (by rfl) ?_)); (try simp only [Act.put, List.setIfInBounds_toArray, List.set_cons_zero, List.set_cons_succ])
                                iterate 4 ((first | (refine plan_calm (v := ?_) Lime.getop_ (by rfl) (fun W hW => ?_) ?_; rotate_left; (focus (exact Lime.calm_))) | (refine plan_calm_skip Lime.getop_ (by rfl) ?_)); (try simp only [Act.put, List.setIfInBounds_toArray, List.set_cons_zero, List.set_cons_succ]))
                                refine plan_done ?_
                                go_wp2_with fail
                                go_roundg (k.length - (n + 1))
                                case measure => omega
                                case rel => exact ⟨n + 1, Nat.le_refl _, by go_num, by rw [HX.out]; simp [hg, hr2], hlk, hst2.trans (hs6.trans (hs7.trans Lime.stp_))⟩
                            | true =>
                              as_aux_lemma =>
                                refine wp_region_plan (Plan.calm 0 (Plan.calm 1 (Plan.calm 2 (Plan.calm 3 (Plan.calm 4 (Plan.calm 5 (Plan.calm 6 (Plan.calm 7 (Plan.calm 8 (Plan.calm 9 (Plan.calm 10 (Plan.calm 11 (Plan.calm 12 (Plan.calm 13 (Plan.calm 14 (Plan.calm 15 (Plan.calm 16 (Plan.calm 17 (Plan.calm 18 (Plan.calm 19 (Plan.calm 20 (Plan.calm 21 (Plan.calm 22 (Plan.calm 23 (Plan.calm 24 (Plan.calm 25 (Plan.calm 26 (Plan.calm 27 (Plan.calm 28 (Plan.calm 29 (Plan.calm 30 (Plan.calm 31 (Plan.calm 32 (Plan.calm 33 Plan.done)))))))))))))))))))))))))))))))))) (by kernel_rfl) (by kernel_rfl) (by kernel_rfl) ?_
                                have hS : Stp wc wc.drew := (Stp.refl _).drew
                                iterate 11 ((first | (refine plan_calm (v := ?_) Lime.getop_ (by rfl) (fun W hW => ?_) ?_; rotate_left; (focus (exact Lime.calm_))) | (refine plan_calm_skip Lime.getop_ (by rfl) ?_)); (try simp only [Act.put, List.setIfInBounds_toArray, List.set_cons_zero, List.set_cons_succ]))
                                (first | (refine plan_calm (v := ?_) Lime.getop_ (by rfl) (fun W hW => ?_) ?_; rotate_left; (focus (have q0_ := (hS.trans hW).cell y1; have q1_ := (hS.trans hW).cell y2; have q2_ := (hS.trans hW).cell z1; have q3_ := (hS.trans hW).cell z2; clear hW; (exact Lime.calm_)))) | (refine plan_calm_skip Lime.getop_ (by rfl) ?_)); (try simp only [Act.put, List.setIfInBounds_toArray, List.set_cons_zero, List.set_cons_succ])
                                iterate 4 ((first | (refine plan_calm (v := ?_) Lime.getop_ (by rfl) (fun W hW => ?_) ?_; rotate_left; (focus (exact Lime.calm_))) | (refine plan_calm_skip Lime.getop_ (by rfl) ?_)); (try simp only [Act.put, List.setIfInBounds_toArray, List.set_cons_zero, List.set_cons_succ]))
                                (first | (refine plan_calm (v := ?_) Lime.getop_ (by rfl) (fun W hW => ?_) ?_; rotate_left; (focus (have q0_ := (hS.trans hW).cell y1; have q1_ := (hS.trans hW).cell y2; have q2_ := (hS.trans hW).cell z1; have q3_ := (hS.trans hW).cell z2; clear hW; (exact Lime.calm_)))) | (refine plan_calm_skip Lime.getop_ (by rfl) ?_)); (try simp only [Act.put, List.setIfInBounds_toArray, List.set_cons_zero, List.set_cons_succ])
                                iterate 7 ((first | (refine plan_calm (v := ?_) Lime.getop_ (by rfl) (fun W hW => ?_) ?_; rotate_left; (focus (exact Lime.calm_))) | (refine plan_calm_skip Lime.getop_ (by rfl) ?_)); (try simp only [Act.put, List.setIfInBounds_toArray, List.set_cons_zero, List.set_cons_succ]))
                                (first | (refine plan_calm (v := ?_) Lime.getop_ (by rfl) (fun W hW => ?_) ?_; rotate_left; (focus (have q0_ := (hS.trans hW).cell y1; have q1_ := (hS.trans hW).cell y2; have q2_ := (hS.trans hW).cell z1; have q3_ := (hS.trans hW).cell z2; clear hW; (exact Lime.calm_)))) | (refine plan_calm_skip Lime.getop_ (by rfl) ?_)); (try simp only [Act.put, List.setIfInBounds_toArray, List.set_cons_zero, List.set_cons_succ])
                                iterate 4 ((first | (refine plan_calm (v := ?_) Lime.getop_ (by rfl) (fun W hW => ?_) ?_; rotate_left; (focus (exact Lime.calm_))) | (refine plan_calm_skip Lime.getop_ (by rfl) ?_)); (try simp only [Act.put, List.setIfInBounds_toArray, List.set_cons_zero, List.set_cons_succ]))
                                (first | (refine plan_calm (v := ?_) Lime.getop_ (by rfl) (fun W hW => ?_) ?_; rotate_left; (focus (have q0_ := (hS.trans hW).cell y1; have q1_ := (hS.trans hW).cell y2; have q2_ := (hS.trans hW).cell z1; have q3_ := (hS.trans hW).cell z2; clear hW; (exact Lime.calm_)))) | (refine plan_calm_skip Lime.getop_ (by rfl) ?_)); (try simp only [Act.put, List.setIfInBounds_toArray, List.set_cons_zero, List.set_cons_succ])
                                iterate 4 ((first | (refine plan_calm (v := ?_) Lime.getop_ (by rfl) (fun W hW => ?_) ?_; rotate_left; (focus (exact Lime.calm_))) | (refine plan_calm_skip Lime.getop_ (by rfl) ?_)); (try simp only [Act.put, List.setIfInBounds_toArray, List.set_cons_zero, List.set_cons_succ]))
                                refine plan_done ?_
                                go_wp2_with fail
                                go_roundg (k.length - (n + 1))
                                case measure => omega
                                case rel => exact ⟨n + 1, Nat.le_refl _, by go_num, by rw [HX.out]; simp [hg, hr2], hlk, hst2.trans (hs6.trans (hs7.trans Lime.stp_))⟩
                        | false =>
                          cases inn with
                          | false =>
                            as_aux_lemma =>
                              refine wp_region_plan (Plan.calm 0 (Plan.calm 1 (Plan.calm 2 (Plan.calm 3 (Plan.calm 4 (Plan.calm 5 (Plan.calm 6 (Plan.calm 7 (Plan.calm 8 (Plan.calm 9 (Plan.calm 10 (Plan.calm 11 (Plan.calm 12 (Plan.calm 13 (Plan.calm 14 (Plan.calm 15 (Plan.calm 16 (Plan.calm 17 (Plan.calm 18 (Plan.calm 19 (Plan.calm 20 (Plan.calm 21 (Plan.calm 22 (Plan.calm 23 (Plan.calm 24 (Plan.calm 25 (Plan.calm 26 (Plan.calm 27 (Plan.calm 28 (Plan.calm 29 (Plan.calm 30 (Plan.calm 31 (Plan.calm 32 (Plan.calm 33 Plan.done)))))))))))))))))))))))))))))))))) (by kernel_rfl) (by kernel_rfl) (by kernel_rfl) ?_
                              have hS : Stp wc wc.drew := (Stp.refl _).drew
                              iterate 11 ((first | (refine plan_calm (v := ?_) Lime.getop_ (by rfl) (fun W hW => ?_) ?_; rotate_left; (focus (exact Lime.calm_))) | (refine plan_calm_skip Lime.getop_ (by rfl) ?_)); (try simp only [Act.put, List.setIfInBounds_toArray, List.set_cons_zero, List.set_cons_succ]))
                              (first | (refine plan_calm (v := ?_) Lime.getop_ (by rfl) (fun W hW => ?_) ?_; rotate_left; (focus (have q0_ := (hS.trans hW).cell y1; have q1_ := (hS.trans hW).cell y2; have q2_ := (hS.trans hW).cell z1; have q3_ := (hS.trans hW).cell z2; clear hW; (exact Lime.calm_)))) | (refine plan_calm_skip Lime.getop_ (by rfl) ?_)); (try simp only [Act.put, List.setIfInBounds_toArray, List.set_cons_zero, List.set_cons_succ])
                              iterate 4 ((first | (refine plan_calm (v := ?_) Lime.getop_ (by rfl) (fun W hW => ?_) ?_; rotate_left; (focus (exact Lime.calm_))) | (refine plan_calm_skip Lime.getop_ (by rfl) ?_)); (try simp only [Act.put, List.setIfInBounds_toArray, List.set_cons_zero, List.set_cons_succ]))
                              (first | (refine plan_calm (v := ?_) Lime.getop_ (by rfl) (fun W hW => ?_) ?_; rotate_left; (focus (have q0_ := (hS.trans hW).cell y1; have q1_ := (hS.trans hW).cell y2; have q2_ := (hS.trans hW).cell z1; have q3_ := (hS.trans hW).cell z2; clear hW; (exact Lime.calm_)))) | (refine plan_calm_skip Lime.getop_ (by rfl) ?_)); (try simp only [Act.put, List.setIfInBounds_toArray, List.set_cons_zero, List.set_cons_succ])
                              iterate 7 ((first | (refine plan_calm (v := ?_) Lime.getop_ (by rfl) (fun W hW => ?_) ?_; rotate_left; (focus (exact Lime.calm_))) | (refine plan_calm_skip Lime.getop_ (by rfl) ?_)); (try simp only [Act.put, List.setIfInBounds_toArray, List.set_cons_zero, List.set_cons_succ]))
                              (first | (refine plan_calm (v := ?_) Lime.getop_ (by rfl) (fun W hW => ?_) ?_; rotate_left; (focus (have q0_ := (hS.trans hW).cell y1; have q1_ := (hS.trans hW).cell y2; have q2_ := (hS.trans hW).cell z1; have q3_ := (hS.trans hW).cell z2; clear hW; (exact Lime.calm_)))) | (refine plan_calm_skip Lime.getop_ (by rfl) ?_)); (try simp only [Act.put, List.setIfInBounds_toArray, List.set_cons_zero, List.set_cons_succ])
                              iterate 4 ((first | (refine plan_calm (v := ?_) Lime.getop_ (by rfl) (fun W hW => ?_) ?_; rotate_left; (focus (exact Lime.calm_))) | (refine plan_calm_skip Lime.getop_ (by rfl) ?_)); (try simp only [Act.put, List.setIfInBounds_toArray, List.set_cons_zero, List.set_cons_succ]))
                              (first | (refine plan_calm (v := ?_) Lime.getop_ (by rfl) (fun W hW => ?_) ?_; rotate_left; (focus (have q0_ := (hS.trans hW).cell y1; have q1_ := (hS.trans hW).cell y2; have q2_ := (hS.trans hW).cell z1; have q3_ := (hS.trans hW).cell z2; clear hW; (exact Lime.calm_)))) | (refine plan_calm_skip Lime.getop_ (by rfl) ?_)); (try simp only [Act.put, List.setIfInBounds_toArray, List.set_cons_zero, List.set_cons_succ])
                              iterate 4 ((first | (refine plan_calm (v := ?_) Lime.getop_ (by rfl) (fun W hW => ?_) ?_; rotate_left; (focus (exact Lime.calm_))) | (refine plan_calm_skip Lime.getop_ (by rfl) ?_)); (try simp only [Act.put, List.setIfInBounds_toArray, List.set_cons_zero, List.set_cons_succ]))
                              refine plan_done ?_
                              go_wp2_with fail
                              go_roundg (k.length - (n + 1))
                              case measure => omega
                              case rel => exact ⟨n + 1, Nat.le_refl _, by go_num, by rw [HX.out]; simp, hlk, hst2.trans (hs6.trans (hs7.trans Lime.stp_))⟩
                          | true =>
                            cases hg : (gf == ge) with
                            | false =>
                              as_aux_lemma =>
                                refine wp_region_plan (Plan.calm 0 (Plan.calm 1 (Plan.calm 2 (Plan.calm 3 (Plan.calm 4 (Plan.calm 5 (Plan.calm 6 (Plan.calm 7 (Plan.calm 8 (Plan.calm 9 (Plan.calm 10 (Plan.calm 11 (Plan.calm 12 (Plan.calm 13 (Plan.calm 14 (Plan.calm 15 (Plan.calm 16 (Plan.calm 17 (Plan.calm 18 (Plan.calm 19 (Plan.calm 20 (Plan.calm 21 (Plan.calm 22 (Plan.calm 23 (Plan.calm 24 (Plan.calm 25 (Plan.calm 26 (Plan.calm 27 (Plan.calm 28 (Plan.calm 29 (Plan.calm 30 (Plan.calm 31 (Plan.calm 32 (Plan.calm 33 Plan.done)))))))))))))))))))))))))))))))))) (by kernel_rfl) (by kernel_rfl) (by kernel_rfl) ?_
                                have hS : Stp wc wc.drew := (Stp.refl _).drew
                                iterate 11 ((first | (refine plan_calm (v := ?_) Lime.getop_ (by rfl) (fun W hW => ?_) ?_; rotate_left; (focus (exact Lime.calm_))) | (refine plan_calm_skip Lime.getop_ (by rfl) ?_)); (try simp only [Act.put, List.setIfInBounds_toArray, List.set_cons_zero, List.set_cons_succ]))
                                (first | (refine plan_calm (v := ?_) Lime.getop_ (by rfl) (fun W hW => ?_) ?_; rotate_left; (focus (have q0_ := (hS.trans hW).cell y1; have q1_ := (hS.trans hW).cell y2; have q2_ := (hS.trans hW).cell z1; have q3_ := (hS.trans hW).cell z2; clear hW; (exact Lime.calm_)))) | (refine plan_calm_skip Lime.getop_ (by rfl) ?_)); (try simp only [Act.put, List.setIfInBounds_toArray, List.set_cons_zero, List.set_cons_succ])
                                iterate 4 ((first | (refine plan_calm (v := ?_) Lime.getop_ (by rfl) (fun W hW => ?_) ?_; rotate_left; (focus (exact Lime.calm_))) | (refine plan_calm_skip Lime.getop_ (by rfl) ?_)); (try simp only [Act.put, List.setIfInBounds_toArray, List.set_cons_zero, List.set_cons_succ]))
                                (first | (refine plan_calm (v := ?_) Lime.getop_ (by rfl) (fun W hW => ?_) ?_; rotate_left; (focus (have q0_ := (hS.trans hW).cell y1; have q1_ := (hS.trans hW).cell y2; have q2_ := (hS.trans hW).cell z1; have q3_ := (hS.trans hW).cell z2; clear hW; (exact Lime.calm_)))) | (refine plan_calm_skip Lime.getop_ (by rfl) ?_)); (try simp only [Act.put, List.setIfInBounds_toArray, List.set_cons_zero, List.set_cons_succ])
                                iterate 7 ((first | (refine plan_calm (v := ?_) Lime.getop_ (by rfl) (fun W hW => ?_) ?_; rotate_left; (focus (exact Lime.calm_))) | (refine plan_calm_skip Lime.getop_ (by rfl) ?_)); (try simp only [Act.put, List.setIfInBounds_toArray, List.set_cons_zero, List.set_cons_succ]))
                                (first | (refine plan_calm (v := ?_) Lime.getop_ (by rfl) (fun W hW => ?_) ?_; rotate_left; (focus (have q0_ := (hS.trans hW).cell y1; have q1_ := (hS.trans hW).cell y2; have q2_ := (hS.trans hW).cell z1; have q3_ := (hS.trans hW).cell z2; clear hW; (exact Lime.calm_)))) | (refine plan_calm_skip Lime.getop_ (by rfl) ?_)); (try simp only [Act.put, List.setIfInBounds_toArray, List.set_cons_zero, List.set_cons_succ])
                                iterate 4 ((first | (refine plan_calm (v := ?_) Lime.getop_ (by rfl) (fun W hW => ?_) ?_; rotate_left; (focus (exact Lime.calm_))) | (refine plan_calm_skip Lime.getop_ (by rfl) ?_)); (try simp only [Act.put, List.setIfInBounds_toArray, List.set_cons_zero, List.set_cons_succ]))
                                (first | (refine plan_calm (v := ?_) Lime.getop_ (by rfl) (fun W hW => ?_) ?_; rotate_left; (focus (have q0_ := (hS.trans hW).cell y1; have q1_ := (hS.trans hW).cell y2; have q2_ := (hS.trans hW).cell z1; have q3_ := (hS.trans hW).cell z2; clear hW; (exact Lime.calm_)))) | (refine plan_calm_skip Lime.getop_ (by rfl) ?_)); (try simp only [Act.put, List.setIfInBounds_toArray, List.set_cons_zero, List.set_cons_succ])
                                iterate 4 ((first | (refine plan_calm (v := ?_) Lime.getop_ (by rfl) (fun W hW => ?_) ?_; rotate_left; (focus (exact Lime.calm_))) | (refine plan_calm_skip Lime.getop_ (by rfl) ?_)); (try simp only [Act.put, List.setIfInBounds_toArray, List.set_cons_zero, List.set_cons_succ]))
                                refine plan_done ?_
                                go_wp2_with fail
                                go_roundg (k.length - (n + 1))
                                case measure => omega
                                case rel => exact ⟨n + 1, Nat.le_refl _, by go_num, by rw [HX.out]; simp [hg], hlk, hst2.trans (hs6.trans (hs7.trans Lime.stp_))⟩
                            | true =>
                              cases hr2 : (rf == re) with
                              | false =>
                                as_aux_lemma =>
                                  refine wp_region_plan (Plan.calm 0 (Plan.calm 1 (Plan.calm 2 (Plan.calm 3 (Plan.calm 4 (Plan.calm 5 (Plan.calm 6 (Plan.calm 7 (Plan.calm 8 (Plan.calm 9 (Plan.calm 10 (Plan.calm 11 (Plan.calm 12 (Plan.calm 13 (Plan.calm 14 (Plan.calm 15 (Plan.calm 16 (Plan.calm 17 (Plan.calm 18 (Plan.calm 19 (Plan.calm 20 (Plan.calm 21 (Plan.calm 22 (Plan.calm 23 (Plan.calm 24 (Plan.calm 25 (Plan.calm 26 (Plan.calm 27 (Plan.calm 28 (Plan.calm 29 (Plan.calm 30 (Plan.calm 31 (Plan.calm 32 (Plan.calm 33 Plan.done)))))))))))))))))))))))))))))))))) (by kernel_rfl) (by kernel_rfl) (by kernel_rfl) ?_
                                  have hS : Stp wc wc.drew := (Stp.refl _).drew
                                  iterate 11 ((first | (refine plan_calm (v := ?_) Lime.getop_ (by rfl) (fun W hW => ?_) ?_; rotate_left; (focus (exact Lime.calm_))) | (refine plan_calm_skip Lime.getop_ (by rfl) ?_)); (try simp only [Act.put, List.setIfInBounds_toArray, List.set_cons_zero, List.set_cons_succ]))
                                  (first | (refine plan_calm (v := ?_) Lime.getop_ (by rfl) (fun W hW => ?_) ?_; rotate_left; (focus (have q0_ := (hS.trans hW).cell y1; have q1_ := (hS.trans hW).cell y2; have q2_ := (hS.trans hW).cell z1; have q3_ := (hS.trans hW).cell z2; clear hW; (exact Lime.calm_)))) | (refine plan_calm_skip Lime.getop_ (by rfl) ?_)); (try simp only [Act.put, List.setIfInBounds_toArray, List.set_cons_zero, List.set_cons_succ])
                                  iterate 4 ((first | (refine plan_calm (v := ?_) Lime.getop_ (by rfl) (fun W hW => ?_) ?_; rotate_left; (focus (exact Lime.calm_))) | (refine plan_calm_skip Lime.getop_ (by rfl) ?_)); (try simp only [Act.put, List.setIfInBounds_toArray, List.set_cons_zero, List.set_cons_succ]))
                                  (first | (refine plan_calm (v := ?_) Lime.getop_ (by rfl) (fun W hW => ?_) ?_; rotate_left; (focus (have q0_ := (hS.trans hW).cell y1; have q1_ := (hS.trans hW).cell y2; have q2_ := (hS.trans hW).cell z1; have q3_ := (hS.trans hW).cell z2; clear hW; (exact Lime.calm_)))) | (refine plan_calm_skip Lime.getop_ (by rfl) ?_)); (try simp only [Act.put, List.setIfInBounds_toArray, List.set_cons_zero, List.set_cons_succ])
                                  iterate 7 ((first | (refine plan_calm (v := ?_) Lime.getop_ (by rfl) (fun W hW => ?_) ?_; rotate_left; (focus (exact Lime.calm_))) | (refine plan_calm_skip Lime.getop_ (by rfl) ?_)); (try simp only [Act.put, List.setIfInBounds_toArray, List.set_cons_zero, List.set_cons_succ]))
                                  (first | (refine plan_calm (v := ?_) Lime.getop_ (by rfl) (fun W hW => ?_) ?_; rotate_left; (focus (have q0_ := (hS.trans hW).cell y1; have q1_ := (hS.trans hW).cell y2; have q2_ := (hS.trans hW).cell z1; have q3_ := (hS.trans hW).cell z2; clear hW; (exact Lime.calm_)))) | (refine plan_calm_skip Lime.getop_ (by rfl) ?_)); (try simp only [Act.put, List.setIfInBounds_toArray, List.set_cons_zero, List.set_cons_succ])
                                  iterate 4 ((first | (refine plan_calm (v := ?_) Lime.getop_ (by rfl) (fun W hW => ?_) ?_; rotate_left; (focus (exact Lime.calm_))) | (refine plan_calm_skip Lime.getop_ (by rfl) ?_)); (try simp only [Act.put, List.setIfInBounds_toArray, List.set_cons_zero, List.set_cons_succ]))
                                  (first | (refine plan_calm (v := ?_) Lime.getop_ (by rfl) (fun W hW => ?_) ?_; rotate_left; (focus (have q0_ := (hS.trans hW).cell y1; have q1_ := (hS.trans hW).cell y2; have q2_ := (hS.trans hW).cell z1; have q3_ := (hS.trans hW).cell z2; clear hW; (exact Lime.calm_)))) | (refine plan_calm_skip Lime.getop_ (by rfl) ?_)); (try simp only [Act.put, List.setIfInBounds_toArray, List.set_cons_zero, List.set_cons_succ])
                                  iterate 4 ((first | (refine plan_calm (v := ?_) Lime.getop_ (by rfl) (fun W hW => ?_) ?_; rotate_left; (focus (exact Lime.calm_))) | (refine plan_calm_skip Lime.getop_ (by rfl) ?_)); (try simp only [Act.put, List.setIfInBounds_toArray, List.set_cons_zero, List.set_cons_succ]))
                                  refine plan_done ?_
                                  go_wp2_with fail
                                  go_roundg (k.length - (n + 1))
                                  case measure => omega
                                  case rel => exact ⟨n + 1, Nat.le_refl _, by go_num, by rw [HX.out]; simp [hg, hr2], hlk, hst2.trans (hs6.trans (hs7.trans Lime.stp_))⟩
                              | true =>
                                as_aux_lemma =>
                                  refine wp_region_plan (Plan.calm 0 (Plan.calm 1 (Plan.calm 2 (Plan.calm 3 (Plan.calm 4 (Plan.calm 5 (Plan.calm 6 (Plan.calm 7 (Plan.calm 8 (Plan.calm 9 (Plan.calm 10 (Plan.calm 11 (Plan.calm 12 (Plan.calm 13 (Plan.calm 14 (Plan.calm 15 (Plan.calm 16 (Plan.calm 17 (Plan.calm 18 (Plan.calm 19 (Plan.calm 20 (Plan.calm 21 (Plan.calm 22 (Plan.calm 23 (Plan.calm 24 (Plan.calm 25 (Plan.calm 26 (Plan.calm 27 (Plan.calm 28 (Plan.calm 29 (Plan.calm 30 (Plan.calm 31 (Plan.calm 32 (Plan.calm 33 Plan.done)))))))))))))))))))))))))))))))))) (by kernel_rfl) (by kernel_rfl) (by kernel_rfl) ?_
                                  have hS : Stp wc wc.drew := (Stp.refl _).drew
                                  iterate 11 ((first | (refine plan_calm (v := ?_) Lime.getop_ (by rfl) (fun W hW => ?_) ?_; rotate_left; (focus (exact Lime.calm_))) | (refine plan_calm_skip Lime.getop_ (by rfl) ?_)); (try simp only [Act.put, List.setIfInBounds_toArray, List.set_cons_zero, List.set_cons_succ]))
                                  (first | (refine plan_calm (v := ?_) Lime.getop_ (by rfl) (fun W hW => ?_) ?_; rotate_left; (focus (have q0_ := (hS.trans hW).cell y1; have q1_ := (hS.trans hW).cell y2; have q2_ := (hS.trans hW).cell z1; have q3_ := (hS.trans hW).cell z2; clear hW; (exact Lime.calm_)))) | (refine plan_calm_skip Lime.getop_ (by rfl) ?_)); (try simp only [Act.put, List.setIfInBounds_toArray, List.set_cons_zero, List.set_cons_succ])
                                  iterate 4 ((first | (refine plan_calm (v := ?_) Lime.getop_ (by rfl) (fun W hW => ?_) ?_; rotate_left; (focus (exact Lime.calm_))) | (refine plan_calm_skip Lime.getop_ (by rfl) ?_)); (try simp only [Act.put, List.setIfInBounds_toArray, List.set_cons_zero, List.set_cons_succ]))
                                  (first | (refine plan_calm (v := ?_) Lime.getop_ (by rfl) (fun W hW => ?_) ?_; rotate_left; (focus (have q0_ := (hS.trans hW).cell y1; have q1_ := (hS.trans hW).cell y2; have q2_ := (hS.trans hW).cell z1; have q3_ := (hS.trans hW).cell z2; clear hW; (exact Lime.calm_)))) | (refine plan_calm_skip Lime.getop_ (by rfl) ?_)); (try simp only [Act.put, List.setIfInBounds_toArray, List.set_cons_zero, List.set_cons_succ])
                                  iterate 7 ((first | (refine plan_calm (v := ?_) Lime.getop_ (by rfl) (fun W hW => ?_) ?_; rotate_left; (focus (exact Lime.calm_))) | (refine plan_calm_skip Lime.getop_ (by rfl) ?_)); (try simp only [Act.put, List.setIfInBounds_toArray, List.set_cons_zero, List.set_cons_succ]))
                                  (first | (refine plan_calm (v := ?_) Lime.getop_ (by rfl) (fun W hW => ?_) ?_; rotate_left; (focus (have q0_ := (hS.trans hW).cell y1; have q1_ := (hS.trans hW).cell y2; have q2_ := (hS.trans hW).cell z1; have q3_ := (hS.trans hW).cell z2; clear hW; (exact Lime.calm_)))) | (refine plan_calm_skip Lime.getop_ (by rfl) ?_)); (try simp only [Act.put, List.setIfInBounds_toArray, List.set_cons_zero, List.set_cons_succ])
                                  iterate 4 ((first | (refine plan_calm (v := ?_) Lime.getop_ (by rfl) (fun W hW => ?_) ?_; rotate_left; (focus (exact Lime.calm_))) | (refine plan_calm_skip Lime.getop_ (by rfl) ?_)); (try simp only [Act.put, List.setIfInBounds_toArray, List.set_cons_zero, List.set_cons_succ]))
                                  (first | (refine plan_calm (v := ?_) Lime.getop_ (by rfl) (fun W hW => ?_) ?_; rotate_left; (focus (have q0_ := (hS.trans hW).cell y1; have q1_ := (hS.trans hW).cell y2; have q2_ := (hS.trans hW).cell z1; have q3_ := (hS.trans hW).cell z2; clear hW; (exact Lime.calm_)))) | (refine plan_calm_skip Lime.getop_ (by rfl) ?_)); (try simp only [Act.put, List.setIfInBounds_toArray, List.set_cons_zero, List.set_cons_succ])
                                  iterate 4 ((first | (refine plan_calm (v := ?_) Lime.getop_ (by rfl) (fun W hW => ?_) ?_; rotate_left; (focus (exact Lime.calm_))) | (refine plan_calm_skip Lime.getop_ (by rfl) ?_)); (try simp only [Act.put, List.setIfInBounds_toArray, List.set_cons_zero, List.set_cons_succ]))
                                  refine plan_done ?_
                                  go_wp2_with fail
                                  go_roundg (k.length - (n + 1))
                                  case measure => omega
                                  case rel => exact ⟨n + 1, Nat.le_refl _, by go_num, by rw [HX.out]; simp [hg, hr2], hlk, hst2.trans (hs6.trans (hs7.trans Lime.stp_))⟩
            · have hlkz : ¬ (n : Int) < (k.length : Int) := by omega
              rw [List.take_of_length_le (by omega), HAny.out]
              go_wp2_with fail
              go_roundw
              case rel => exact ⟨i + 1, by go_num, hlt, hst.trans (hst2.trans Lime.stp_)⟩
              case measure => simp [intOf]; omega
        · have hltz : ¬ (i : Int) < (k.length : Int) := by have := HLn.out; omega
          have hsr := hsw5.trans hst
          go_wp2_with (go_at_call 9; refine (live15_k _).mono ?_; rintro e w9 ⟨rfl, hb9⟩)
          go_ret
          exact ⟨rfl, by (exact Lime.stp_)⟩
end Go.Proofs.Lime
