/- Walks: whom an event goes to; an event's way. Walk: an event's way. Walk: the visits of an event. -/
import Derived.Test.YtaggmjnpocndkaaGreatMW
import Derived.Test.YtaggmjnpocndkaaGreatMT
import Derived.Test.YtaggmjnpocndkaaGreatMS
import Derived.Test.YtaggmjnpocndkaaGreatWLast
namespace Go.Proofs.Lime
open Go.RowKit
set_option linter.unusedVariables false
set_option linter.unusedSimpArgs false
attribute [local go_sem] Oper.semAt_some
theorem greater_int (k l : IntKind) (x y : Int) : Builtin.max2 (.int k x) (.int l y) = pure (.int k (if x < y then y else x)) := by simp only [Builtin.max2, gt_iff_lt]
theorem greater_two (ts : Array TypeId) (ty : TypeId) (u v : Value) : Builtin.max_ ts ty #[u, v] = (Builtin.max2 u v >>= fun s => pure s) := by simp only [Builtin.max_, List.foldlM_cons, List.foldlM_nil]

theorem aimis_r {S : Nat → Prop} {w : World} {v : Value} {t : List Nd} (hr : Row nodeK S w v t) (hks : KidsOk t) (n : Int) :
    Calls Tryz.prog 48 #[v, .int .i64 n] w fun e w' => e = .returned (.bool (mayT t && isN t n)) ∧ Stp w w' := by
  obtain ⟨A, c, rfl, hc, hm⟩ := hr.form
  have ct := fun W (hW : Stp w W) => otop_r (hr.stp hW) hks n
  by_cases ho : mayT t = true ∧ isN t n = true
  · have M := May.of ho.1
    rw [show topR t n = topT t n from if_pos ho] at ct
    obtain ⟨k, hk, hkt⟩ := isN_nat (M.topT_isN ho.2)
    rw [hk] at ct
    have hkn : ((k : Int) != -1) = true := by simp
    go_enter Tryz.func48, Tryz.ntmps48
    go_wp2_with (go_at_call 67; refine (ct _ Lime.stp_).mono ?_; rintro e w1 ⟨rfl, hb1⟩)
    go_ret
    exact ⟨ret_bool (by rw [ho.1, ho.2]; rfl), by (exact Lime.stp_)⟩
  · have HR := Lib.hid (show (mayT t && isN t n) = false by rw [← Bool.not_eq_true]; simpa using ho)
    rw [topR_none ho] at ct
    clear ho
    go_enter Tryz.func48, Tryz.ntmps48
    go_wp2_with (go_at_call 67; refine (ct _ Lime.stp_).mono ?_; rintro e w1 ⟨rfl, hb1⟩)
    go_ret
    exact ⟨ret_bool (by rw [HR.out]), by (exact Lime.stp_)⟩
attribute [local go_sem] greater_int greater_two
set_option maxRecDepth 100000 in
set_option maxHeartbeats 2000000 in
theorem aimpar_r {S : Nat → Prop} {w : World} {v : Value} {t : List Nd} (hr : Row nodeK S w v t) (hks : KidsOk t) (n et tg re : Int) (bub can comp : Bool) :
    Calls Tryz.prog 49 #[v, .int .i64 n, .agg #[.int .i64 et, .int .i64 tg, .int .i64 re, .bool bub, .bool can, .bool comp]] w fun e w' => e = .returned (.int .i64 (aimR t comp tg n)) ∧ Stp w w' := by
  have hrb := hr.bound
  obtain ⟨A, c, rfl, hc, hm⟩ := hr.form
  have e1 : (w.alloc (.cells #[.int .i64 et, .int .i64 tg, .int .i64 re, .bool bub, .bool can, .bool comp] 25)).cell? ⟨w.heap.size, 1, none⟩ = some (.int .i64 tg) := box_at w _ _ 1 _ rfl
  have e5 : (w.alloc (.cells #[.int .i64 et, .int .i64 tg, .int .i64 re, .bool bub, .bool can, .bool comp] 25)).cell? ⟨w.heap.size, 5, none⟩ = some (.bool comp) := box_at w _ _ 5 _ rfl
  have c1 := fun W (hW : Stp w W) => aimis_r (hr.stp hW) hks n
  have c2 := fun W (hW : Stp w W) => aimis_r (hr.stp hW) hks tg
  by_cases hn : (mayT t && isN t n) = true
  · rw [hn] at c1
    rw [Bool.and_eq_true] at hn
    by_cases ht : isN t tg = true
    · have M := May.of hn.1
      rw [hn.1, ht] at c2
      have HR := Lib.hid (show aimR t comp tg n = aimN t comp tg n from if_pos (by rw [hn.1, hn.2, ht]; rfl))
      have co := fun W (hW : Stp w W) => slof_r (hr.stp hW) hks n
      have ct := fun W (hW : Stp w W) => otop_r (hr.stp hW) hks tg
      rw [show ofR t n = ofT t n from if_pos hn] at co
      rw [show topR t tg = topT t tg from if_pos ⟨hn.1, ht⟩] at ct
      have HU := Lib.hid (M.upN_max hn.2)
      obtain ⟨k, rfl, hk⟩ := isN_nat hn.2
      have hkz : (k : Int) < (t.length : Int) := by omega
      obtain ⟨b, o, Ak, ck, Aa, ca, rfl, _, _, z0, _, z2, _, z4, _, _, _, _, _, _, _, _⟩ := node_at hr k hk
      rw [show t[k] = nd t (k : Int) from (nd_nat hk).symm] at z0 z2 z4
      have HN := Lib.hid (show aimN t comp tg k = if ofT t k ≠ -1 then ofT t k else if (nd t k).kind = 3 ∧ comp = false ∧ topT t tg = k then -1 else upN t k from rfl)
      have HU2 := Lib.hid (show (if (nd t k).parent < (nd t k).host then (nd t k).host else (nd t k).parent) = upN t k by
        have h1 := HU.out
        rw [← h1]
        show _ = max (nd t k).parent (nd t k).host
        split <;> omega)
      generalize upN t k = up at HN HU2
      generalize topT t tg = tp at ct HN
      generalize ofT t k = of at co HN
      generalize (nd t k).kind = kd at z0 HN
      generalize (nd t k).parent = pa at z2 HU2
      generalize (nd t k).host = ho at z4 HU2
      clear hn ht HU
      by_cases hof : of = -1
      · have hofb : (of != -1) = false := by simpa using hof
        by_cases hk3 : kd = 3
        · have hk3b : (kd == 3) = true := by simpa using hk3
          cases comp with
          | true =>
            have HF := Lib.hid (show aimR t true tg k = up by rw [HR.out, HN.out, if_neg (by simpa using hof), if_neg (fun h => by cases h.2.1)])
            clear HR HN
            go_enter Tryz.func49, Tryz.ntmps49
            go_wp2_with (first | (go_at_call 48; first | (refine (show Calls Tryz.prog 48 #[_, .int .i64 (k : Int)] _ _ from c1 _ Lime.stp_).mono ?_; clear c1; rintro e w1 ⟨rfl, hb1⟩; have x1 := hb1.cell e1; have x5 := hb1.cell e5; clear e1 e5) | (refine (c2 _ Lime.stp_).mono ?_; clear c2; rintro e w2 ⟨rfl, hb2⟩; replace x1 := hb2.cell x1; replace x5 := hb2.cell x5)) | (go_at_call 68; refine (co _ Lime.stp_).mono ?_; rintro e w3 ⟨rfl, hb3⟩; replace x1 := hb3.cell x1; replace x5 := hb3.cell x5; have hs3 : Stp w w3 := Stp.trans Lime.stp_ hb3; replace z0 := hs3.cell z0; replace z2 := hs3.cell z2; replace z4 := hs3.cell z4) | (go_at_call 67; refine (ct _ Lime.stp_).mono ?_; rintro e w4 ⟨rfl, hb4⟩; replace z2 := hb4.cell z2; replace z4 := hb4.cell z4))
            refine wp_region_plan (Plan.calm 0 (Plan.calm 1 (Plan.calm 2 (Plan.calm 3 (Plan.calm 4 (Plan.calm 5 (Plan.calm 6 (Plan.calm 7 (Plan.calm 8 (Plan.calm 9 (Plan.calm 10 (Plan.calm 11 Plan.done)))))))))))) (by kernel_rfl) (by kernel_rfl) (by kernel_rfl) ?_
            have hS : Stp w3 w3.drew := (Stp.refl _).drew
            iterate 4 ((first | (refine plan_calm (v := ?_) Lime.getop_ (by rfl) (fun W hW => ?_) ?_; rotate_left; (focus (exact Lime.calm_))) | (refine plan_calm_skip Lime.getop_ (by rfl) ?_)); (try simp only [Act.put, List.setIfInBounds_toArray, List.set_cons_zero, List.set_cons_succ]))
            (first | (refine plan_calm (v := ?_) Lime.getop_ (by rfl) (fun W hW => ?_) ?_; rotate_left; (focus (have q0_ := (hS.trans hW).cell z2; have q1_ := (hS.trans hW).cell z4; clear hW; (exact Lime.calm_)))) | (refine plan_calm_skip Lime.getop_ (by rfl) ?_)); (try simp only [Act.put, List.setIfInBounds_toArray, List.set_cons_zero, List.set_cons_succ])
            iterate 4 ((first | (refine plan_calm (v := ?_) Lime.getop_ (by rfl) (fun W hW => ?_) ?_; rotate_left; (focus (exact Lime.calm_))) | (refine plan_calm_skip Lime.getop_ (by rfl) ?_)); (try simp only [Act.put, List.setIfInBounds_toArray, List.set_cons_zero, List.set_cons_succ]))
            (first | (refine plan_calm (v := ?_) Lime.getop_ (by rfl) (fun W hW => ?_) ?_; rotate_left; (focus (have q0_ := (hS.trans hW).cell z2; have q1_ := (hS.trans hW).cell z4; clear hW; (exact Lime.calm_)))) | (refine plan_calm_skip Lime.getop_ (by rfl) ?_)); (try simp only [Act.put, List.setIfInBounds_toArray, List.set_cons_zero, List.set_cons_succ])
            iterate 2 ((first | (refine plan_calm (v := ?_) Lime.getop_ (by rfl) (fun W hW => ?_) ?_; rotate_left; (focus (exact Lime.calm_))) | (refine plan_calm_skip Lime.getop_ (by rfl) ?_)); (try simp only [Act.put, List.setIfInBounds_toArray, List.set_cons_zero, List.set_cons_succ]))
            refine plan_done ?_
            go_wp2
            all_goals (go_ret; refine ⟨ret_int ?_, by (exact Lime.stp_)⟩; rw [HF.out, ← HU2.out]; split <;> omega)
          | false =>
            by_cases htk : tp = k
            · have htkb : (tp == (k : Int)) = true := by simpa using htk
              have HF := Lib.hid (show aimR t false tg k = -1 by rw [HR.out, HN.out, if_neg (by simpa using hof), if_pos ⟨hk3, rfl, htk⟩])
              clear HR HN HU2
              go_enter Tryz.func49, Tryz.ntmps49
              go_wp2_with (first | (go_at_call 48; first | (refine (show Calls Tryz.prog 48 #[_, .int .i64 (k : Int)] _ _ from c1 _ Lime.stp_).mono ?_; clear c1; rintro e w1 ⟨rfl, hb1⟩; have x1 := hb1.cell e1; have x5 := hb1.cell e5; clear e1 e5) | (refine (c2 _ Lime.stp_).mono ?_; clear c2; rintro e w2 ⟨rfl, hb2⟩; replace x1 := hb2.cell x1; replace x5 := hb2.cell x5)) | (go_at_call 68; refine (co _ Lime.stp_).mono ?_; rintro e w3 ⟨rfl, hb3⟩; replace x1 := hb3.cell x1; replace x5 := hb3.cell x5; have hs3 : Stp w w3 := Stp.trans Lime.stp_ hb3; replace z0 := hs3.cell z0; replace z2 := hs3.cell z2; replace z4 := hs3.cell z4) | (go_at_call 67; refine (ct _ Lime.stp_).mono ?_; rintro e w4 ⟨rfl, hb4⟩; replace z2 := hb4.cell z2; replace z4 := hb4.cell z4))
              go_ret
              exact ⟨ret_int (by rw [HF.out]), by (exact Lime.stp_)⟩
            · have htkb : (tp == (k : Int)) = false := by simpa using htk
              have HF := Lib.hid (show aimR t false tg k = up by rw [HR.out, HN.out, if_neg (by simpa using hof), if_neg (fun h => htk h.2.2)])
              clear HR HN
              go_enter Tryz.func49, Tryz.ntmps49
              go_wp2_with (first | (go_at_call 48; first | (refine (show Calls Tryz.prog 48 #[_, .int .i64 (k : Int)] _ _ from c1 _ Lime.stp_).mono ?_; clear c1; rintro e w1 ⟨rfl, hb1⟩; have x1 := hb1.cell e1; have x5 := hb1.cell e5; clear e1 e5) | (refine (c2 _ Lime.stp_).mono ?_; clear c2; rintro e w2 ⟨rfl, hb2⟩; replace x1 := hb2.cell x1; replace x5 := hb2.cell x5)) | (go_at_call 68; refine (co _ Lime.stp_).mono ?_; rintro e w3 ⟨rfl, hb3⟩; replace x1 := hb3.cell x1; replace x5 := hb3.cell x5; have hs3 : Stp w w3 := Stp.trans Lime.stp_ hb3; replace z0 := hs3.cell z0; replace z2 := hs3.cell z2; replace z4 := hs3.cell z4) | (go_at_call 67; refine (ct _ Lime.stp_).mono ?_; rintro e w4 ⟨rfl, hb4⟩; replace z2 := hb4.cell z2; replace z4 := hb4.cell z4))
              refine wp_region_plan (Plan.calm 0 (Plan.calm 1 (Plan.calm 2 (Plan.calm 3 (Plan.calm 4 (Plan.calm 5 (Plan.calm 6 (Plan.calm 7 (Plan.calm 8 (Plan.calm 9 (Plan.calm 10 (Plan.calm 11 Plan.done)))))))))))) (by kernel_rfl) (by kernel_rfl) (by kernel_rfl) ?_
              have hS : Stp w4 w4.drew := (Stp.refl _).drew
              iterate 4 ((first | (refine plan_calm (v := ?_) Lime.getop_ (by rfl) (fun W hW => ?_) ?_; rotate_left; (focus (exact Lime.calm_))) | (refine plan_calm_skip Lime.getop_ (by rfl) ?_)); (try simp only [Act.put, List.setIfInBounds_toArray, List.set_cons_zero, List.set_cons_succ]))
              (first | (refine plan_calm (v := ?_) Lime.getop_ (by rfl) (fun W hW => ?_) ?_; rotate_left; (focus (have q0_ := (hS.trans hW).cell z2; have q1_ := (hS.trans hW).cell z4; clear hW; (exact Lime.calm_)))) | (refine plan_calm_skip Lime.getop_ (by rfl) ?_)); (try simp only [Act.put, List.setIfInBounds_toArray, List.set_cons_zero, List.set_cons_succ])
              iterate 4 ((first | (refine plan_calm (v := ?_) Lime.getop_ (by rfl) (fun W hW => ?_) ?_; rotate_left; (focus (exact Lime.calm_))) | (refine plan_calm_skip Lime.getop_ (by rfl) ?_)); (try simp only [Act.put, List.setIfInBounds_toArray, List.set_cons_zero, List.set_cons_succ]))
              (first | (refine plan_calm (v := ?_) Lime.getop_ (by rfl) (fun W hW => ?_) ?_; rotate_left; (focus (have q0_ := (hS.trans hW).cell z2; have q1_ := (hS.trans hW).cell z4; clear hW; (exact Lime.calm_)))) | (refine plan_calm_skip Lime.getop_ (by rfl) ?_)); (try simp only [Act.put, List.setIfInBounds_toArray, List.set_cons_zero, List.set_cons_succ])
              iterate 2 ((first | (refine plan_calm (v := ?_) Lime.getop_ (by rfl) (fun W hW => ?_) ?_; rotate_left; (focus (exact Lime.calm_))) | (refine plan_calm_skip Lime.getop_ (by rfl) ?_)); (try simp only [Act.put, List.setIfInBounds_toArray, List.set_cons_zero, List.set_cons_succ]))
              refine plan_done ?_
              go_wp2
              all_goals (go_ret; refine ⟨ret_int ?_, by (exact Lime.stp_)⟩; rw [HF.out, ← HU2.out]; split <;> omega)
        · have hk3b : (kd == 3) = false := by simpa using hk3
          have HF := Lib.hid (show aimR t comp tg k = up by rw [HR.out, HN.out, if_neg (by simpa using hof), if_neg (fun h => hk3 h.1)])
          clear HR HN
          go_enter Tryz.func49, Tryz.ntmps49
          go_wp2_with (first | (go_at_call 48; first | (refine (show Calls Tryz.prog 48 #[_, .int .i64 (k : Int)] _ _ from c1 _ Lime.stp_).mono ?_; clear c1; rintro e w1 ⟨rfl, hb1⟩; have x1 := hb1.cell e1; have x5 := hb1.cell e5; clear e1 e5) | (refine (c2 _ Lime.stp_).mono ?_; clear c2; rintro e w2 ⟨rfl, hb2⟩; replace x1 := hb2.cell x1; replace x5 := hb2.cell x5)) | (go_at_call 68; refine (co _ Lime.stp_).mono ?_; rintro e w3 ⟨rfl, hb3⟩; replace x1 := hb3.cell x1; replace x5 := hb3.cell x5; have hs3 : Stp w w3 := Stp.trans Lime.stp_ hb3; replace z0 := hs3.cell z0; replace z2 := hs3.cell z2; replace z4 := hs3.cell z4) | (go_at_call 67; refine (ct _ Lime.stp_).mono ?_; rintro e w4 ⟨rfl, hb4⟩; replace z2 := hb4.cell z2; replace z4 := hb4.cell z4))
          refine wp_region_plan (Plan.calm 0 (Plan.calm 1 (Plan.calm 2 (Plan.calm 3 (Plan.calm 4 (Plan.calm 5 (Plan.calm 6 (Plan.calm 7 (Plan.calm 8 (Plan.calm 9 (Plan.calm 10 (Plan.calm 11 Plan.done)))))))))))) (by kernel_rfl) (by kernel_rfl) (by kernel_rfl) ?_
          have hS : Stp w3 w3.drew := (Stp.refl _).drew
          iterate 4 ((first | (refine plan_calm (v := ?_) Lime.getop_ (by rfl) (fun W hW => ?_) ?_; rotate_left; (focus (exact Lime.calm_))) | (refine plan_calm_skip Lime.getop_ (by rfl) ?_)); (try simp only [Act.put, List.setIfInBounds_toArray, List.set_cons_zero, List.set_cons_succ]))
          (first | (refine plan_calm (v := ?_) Lime.getop_ (by rfl) (fun W hW => ?_) ?_; rotate_left; (focus (have q0_ := (hS.trans hW).cell z2; have q1_ := (hS.trans hW).cell z4; clear hW; (exact Lime.calm_)))) | (refine plan_calm_skip Lime.getop_ (by rfl) ?_)); (try simp only [Act.put, List.setIfInBounds_toArray, List.set_cons_zero, List.set_cons_succ])
          iterate 4 ((first | (refine plan_calm (v := ?_) Lime.getop_ (by rfl) (fun W hW => ?_) ?_; rotate_left; (focus (exact Lime.calm_))) | (refine plan_calm_skip Lime.getop_ (by rfl) ?_)); (try simp only [Act.put, List.setIfInBounds_toArray, List.set_cons_zero, List.set_cons_succ]))
          (first | (refine plan_calm (v := ?_) Lime.getop_ (by rfl) (fun W hW => ?_) ?_; rotate_left; (focus (have q0_ := (hS.trans hW).cell z2; have q1_ := (hS.trans hW).cell z4; clear hW; (exact Lime.calm_)))) | (refine plan_calm_skip Lime.getop_ (by rfl) ?_)); (try simp only [Act.put, List.setIfInBounds_toArray, List.set_cons_zero, List.set_cons_succ])
          iterate 2 ((first | (refine plan_calm (v := ?_) Lime.getop_ (by rfl) (fun W hW => ?_) ?_; rotate_left; (focus (exact Lime.calm_))) | (refine plan_calm_skip Lime.getop_ (by rfl) ?_)); (try simp only [Act.put, List.setIfInBounds_toArray, List.set_cons_zero, List.set_cons_succ]))
          refine plan_done ?_
          go_wp2
          all_goals (go_ret; refine ⟨ret_int ?_, by (exact Lime.stp_)⟩; rw [HF.out, ← HU2.out]; split <;> omega)
      · have hofb : (of != -1) = true := by simpa using hof
        have HF := Lib.hid (show aimR t comp tg k = of by rw [HR.out, HN.out, if_pos hof])
        clear HR HN HU2
        go_enter Tryz.func49, Tryz.ntmps49
        go_wp2_with (first | (go_at_call 48; first | (refine (show Calls Tryz.prog 48 #[_, .int .i64 (k : Int)] _ _ from c1 _ Lime.stp_).mono ?_; clear c1; rintro e w1 ⟨rfl, hb1⟩; have x1 := hb1.cell e1; have x5 := hb1.cell e5; clear e1 e5) | (refine (c2 _ Lime.stp_).mono ?_; clear c2; rintro e w2 ⟨rfl, hb2⟩; replace x1 := hb2.cell x1; replace x5 := hb2.cell x5)) | (go_at_call 68; refine (co _ Lime.stp_).mono ?_; rintro e w3 ⟨rfl, hb3⟩; replace x1 := hb3.cell x1; replace x5 := hb3.cell x5; have hs3 : Stp w w3 := Stp.trans Lime.stp_ hb3; replace z0 := hs3.cell z0; replace z2 := hs3.cell z2; replace z4 := hs3.cell z4) | (go_at_call 67; refine (ct _ Lime.stp_).mono ?_; rintro e w4 ⟨rfl, hb4⟩; replace z2 := hb4.cell z2; replace z4 := hb4.cell z4))
        go_ret
        exact ⟨ret_int (by rw [HF.out]), by (exact Lime.stp_)⟩
    · rw [show (mayT t && isN t tg) = false by simp [ht]] at c2
      have HF := Lib.hid (show aimR t comp tg n = -1 from if_neg (by simp [ht]))
      clear hn ht
      go_enter Tryz.func49, Tryz.ntmps49
      go_wp2_with (go_at_call 48; first | (refine (show Calls Tryz.prog 48 #[_, .int .i64 n] _ _ from c1 _ Lime.stp_).mono ?_; clear c1; rintro e w1 ⟨rfl, hb1⟩; have x1 := hb1.cell e1) | (refine (c2 _ Lime.stp_).mono ?_; clear c2; rintro e w2 ⟨rfl, hb2⟩))
      go_ret
      exact ⟨ret_int (by rw [HF.out]), by (exact Lime.stp_)⟩
  · rw [Bool.eq_false_iff.2 hn] at c1
    have HF := Lib.hid (show aimR t comp tg n = -1 from if_neg (fun h => hn (by simp only [Bool.and_eq_true] at h ⊢; exact ⟨h.1, h.2.1⟩)))
    clear hn c2
    go_enter Tryz.func49, Tryz.ntmps49
    go_wp2_with (go_at_call 48; refine (c1 _ Lime.stp_).mono ?_; rintro e w1 ⟨rfl, hb1⟩)
    go_ret
    exact ⟨ret_int (by rw [HF.out]), by (exact Lime.stp_)⟩
end Go.Proofs.Lime
namespace Go.Proofs.Lime
open Go.RowKit
set_option linter.unusedVariables false
set_option linter.unusedSimpArgs false
attribute [local go_sem] Oper.semAt_some

theorem in_block {w : World} {B : Nat} {cs : Array Value} {t : TypeId} (h : w.heap[B]? = some (.cells cs t (0, 0))) (i : Nat) (u : Value) (hu : cs[i]? = some u) : w.cell? ⟨B, i, none⟩ = some u ∧ w.frozen? ⟨B, i, none⟩ = false := by
  refine ⟨by simp only [World.cell?, h]; simpa using hu, ?_⟩
  simp only [World.frozen?, h, Bool.and_eq_false_iff, decide_eq_false_iff_not]
  right; omega
theorem set_block {w : World} {B : Nat} {cs : Array Value} {t : TypeId} {fz : Nat × Nat} (h : w.heap[B]? = some (.cells cs t fz)) (i : Nat) (u : Value) : (w.setCell ⟨B, i, none⟩ u).heap[B]? = some (.cells (cs.setIfInBounds i u) t fz) := by
  unfold World.setCell
  simp only [Array.getElem?_modify, h]
  simp
theorem set3 {w : World} {B : Nat} {t : TypeId} {x y z a b c : Value} (h : w.heap[B]? = some (.cells #[x, y, z] t (0, 0))) : (((w.setCell ⟨B, 0, none⟩ a).setCell ⟨B, 1, none⟩ b).setCell ⟨B, 2, none⟩ c).heap[B]? = some (.cells #[a, b, c] t (0, 0)) := set_block (set_block (set_block h 0 a) 1 b) 2 c
theorem infoStp : (Tryz.prog.info? 37).map (fun i => (i.zero, i.size, i.bytes)) = some (some (.agg #[.int .i64 0, .int .i64 0, .int .i64 0]), 3, 24) := by kernel_rfl
set_option maxRecDepth 100000 in
set_option maxHeartbeats 2000000 in
theorem aimpath_r {S : Nat → Prop} {w : World} {v : Value} {t : List Nd} (hr : Row nodeK S w v t) (hks : KidsOk t) (et tg re : Int) (bub can comp : Bool) :
    Calls Tryz.prog 33 #[v, .agg #[.int .i64 et, .int .i64 tg, .int .i64 re, .bool bub, .bool can, .bool comp]] w fun e w' => ∃ u, e = .returned u ∧ Own stpK 37 (fun b => w.heap.size ≤ b) w' u (pathR t comp tg re) ∧ Stp w w' := by
  have hrb := hr.bound
  obtain ⟨A, c, rfl, hc, hm⟩ := hr.form
  have e0 : (w.alloc (.cells #[.int .i64 et, .int .i64 tg, .int .i64 re, .bool bub, .bool can, .bool comp] 25)).cell? ⟨w.heap.size, 0, none⟩ = some (.int .i64 et) := box_at w _ _ 0 _ rfl
  have e1 : (w.alloc (.cells #[.int .i64 et, .int .i64 tg, .int .i64 re, .bool bub, .bool can, .bool comp] 25)).cell? ⟨w.heap.size, 1, none⟩ = some (.int .i64 tg) := box_at w _ _ 1 _ rfl
  have e2 : (w.alloc (.cells #[.int .i64 et, .int .i64 tg, .int .i64 re, .bool bub, .bool can, .bool comp] 25)).cell? ⟨w.heap.size, 2, none⟩ = some (.int .i64 re) := box_at w _ _ 2 _ rfl
  have e3 : (w.alloc (.cells #[.int .i64 et, .int .i64 tg, .int .i64 re, .bool bub, .bool can, .bool comp] 25)).cell? ⟨w.heap.size, 3, none⟩ = some (.bool bub) := box_at w _ _ 3 _ rfl
  have e4 : (w.alloc (.cells #[.int .i64 et, .int .i64 tg, .int .i64 re, .bool bub, .bool can, .bool comp] 25)).cell? ⟨w.heap.size, 4, none⟩ = some (.bool can) := box_at w _ _ 4 _ rfl
  have e5 : (w.alloc (.cells #[.int .i64 et, .int .i64 tg, .int .i64 re, .bool bub, .bool can, .bool comp] 25)).cell? ⟨w.heap.size, 5, none⟩ = some (.bool comp) := box_at w _ _ 5 _ rfl
  have ci := fun W (hW : Stp w W) => aimis_r (hr.stp hW) hks tg
  by_cases ho : mayT t = true ∧ isN t tg = true
  · have M := May.of ho.1
    have HR := Lib.hid (show pathR t comp tg re = pathT t comp tg re tg from if_pos ho)
    rw [ho.1, ho.2] at ci
    have cr := fun W (hW : Stp w W) => sret_r (hr.stp hW) hks
    have cp := fun W (hW : Stp w W) n => aimpar_r (hr.stp hW) hks n et tg re bub can comp
    go_enter Tryz.func33, Tryz.ntmps33
    go_wp2_with (go_at_call 48; refine (ci _ Lime.stp_).mono ?_; rintro e w1 ⟨rfl, hb1⟩; replace e0 := hb1.cell e0; replace e1 := hb1.cell e1; replace e2 := hb1.cell e2; replace e3 := hb1.cell e3; replace e4 := hb1.cell e4; replace e5 := hb1.cell e5)
    have hs1 : Stp w w1 := Stp.trans Lime.stp_ hb1
    go_loopw [5, 6] (fun s5 s6 W => ∃ (acc : List Stp3) (n : Int), s6 = .int .i64 n ∧ Aside (Own stpK 37 (fun b => w1.heap.size ≤ b) W s5 acc ∧ Stp w1 W ∧ (n = -1 ∨ isN t n = true) ∧ acc ++ pathT t comp tg re n = pathT t comp tg re tg)) (fun _ s6 _ => if intOf s6 = -1 then 0 else rkS t (intOf s6) + 1)
    case atStart => exact ⟨[], tg, rfl, Own.nil _ _ _ _, Stp.refl _, .inr ho.2, rfl⟩
    case round =>
      obtain ⟨acc, n, rfl, HA⟩ := hrel
      obtain ⟨hO, hst, hn, hacc⟩ := HA.out
      obtain ⟨Ac, cc, rfl, _⟩ := hO.reads.form
      rcases hn with rfl | hn
      · rw [M.path_none', List.append_nil] at hacc
        go_wp2
        go_ret
        refine ⟨_, rfl, ?_, by (exact Lime.stp_)⟩
        rw [HR.out, ← hacc]
        exact hO.mono fun k hk _ => Nat.le_trans hs1.size hk
      · have hne : (n != -1) = true := by simpa using M.ne1 hn
        have hsw := hs1.trans hst
        have crT := fun W' (h : Stp wr W') => cr W' (hsw.trans h) tg n
        have crR := fun W' (h : Stp wr W') => cr W' (hsw.trans h) re n
        have cpn := fun W' (h : Stp w W') => cp W' h n
        rw [show aimR t comp tg n = aimN t comp tg n from if_pos (by rw [ho.1, hn, ho.2]; rfl)] at cpn
        have hstep := M.path_step comp tg re hn
        have hor := M.aim_or comp tg hn
        have hll : acc.length ≤ t.length := by
          have h1 := M.path_len comp tg re tg (.inr ho.2)
          have h2 := congrArg List.length hacc
          rw [List.length_append] at h2
          omega
        have h64 := M.len2
        generalize hT : retR t tg n = rT at crT
        generalize hRr : retR t re n = rR at crR
        go_wp2_with fail
        rename_i Kx ax
        have hF : ∀ (W9 : World) (B9 : Nat) (x21 x22 x23 x24 x25 x26 x27 x28 x29 x30 x31 x32 : Value), Stp wr W9 → W9.heap[B9]? = some (.cells #[.int .i64 n, .int .i64 rT, .int .i64 rR] 37 (0, 0)) → Kx { tmps := #[.slice A t.length c, .agg #[.int .i64 et, .int .i64 tg, .int .i64 re, .bool bub, .bool can, .bool comp], undef, .pointer (some ⟨w.heap.size, 0, none⟩), .slice none 0 0, .slice Ac acc.length cc, .int .i64 n, .pointer (some ⟨B9, 0, none⟩), .slice A t.length c, .pointer (some ⟨w.heap.size, 1, none⟩), .int .i64 tg, .bool true, .bool false, .pointer (some ⟨w.heap.size, 1, none⟩), .int .i64 tg, .int .i64 n, .bool true, u17, u18, u19, u20, x21, x22, x23, x24, x25, x26, x27, x28, x29, x30, x31, x32, u33, u34, u35, u36, u37, u38, u39, u40, u41, u42, u43, u44, u45, u46, u47, u48, undef], defers := [] } W9 := by
          intro W9 B9 x21 x22 x23 x24 x25 x26 x27 x28 x29 x30 x31 x32 hs9 hh9
          refine ax _ _ ?_
          obtain ⟨q0, _⟩ := in_block hh9 0 _ rfl
          obtain ⟨q1, _⟩ := in_block hh9 1 _ rfl
          obtain ⟨q2, _⟩ := in_block hh9 2 _ rfl
          have hs19 := hst.trans hs9
          have d1 := hs19.cell e1
          have d2 := hs19.cell e2
          by_cases he : endT t tg re n
          · rw [if_pos he] at hstep
            rw [hstep, List.append_nil] at hacc
            obtain ⟨h1, h2⟩ := he
            rw [hT, hRr] at h1
            have hb1' : (rT == rR) = true := by simpa using h1
            have hb2' : (tg != re) = true := by simpa using h2
            clear e0 e1 e2 e3 e4 e5
            go_wp2
            go_ret
            refine ⟨_, rfl, ?_, by (exact Lime.stp_)⟩
            rw [HR.out, ← hacc]
            exact (hO.stp hs9).mono fun k hk _ => Nat.le_trans hs1.size hk
          · skip
            have hb2' : (rT == rR && tg != re) = false := by
              by_cases h1 : rT = rR
              · have h2 : tg = re := Classical.byContradiction fun h => he ⟨by rw [hT, hRr]; exact h1, h⟩
                simp [h1, h2]
              · simp [h1]
            rw [if_neg he] at hstep
            have hN := aimN t comp tg n
            have hst9 := hs1.trans hs19
            have hbb : ((rT == rR) = false) ∨ ((rT == rR) = true ∧ (tg != re) = false) := by
              cases h1 : (rT == rR) with
              | false => exact .inl rfl
              | true => rw [h1] at hb2'; exact .inr ⟨rfl, by simpa using hb2'⟩
            have d0 := hs19.cell e0
            have d3 := hs19.cell e3
            have d4 := hs19.cell e4
            have d5 := hs19.cell e5
            have hO9 := hO.stp hs9
            have hz19 := hs19.size
            clear hb2' he
            rcases hbb with hc1 | ⟨hc1, hc2⟩
            all_goals (
              go_wp2_with (first | (at_builtin; go_loud (refine wpl_append1 (d := stpK) (S := fun b => w1.heap.size ≤ b) (T := fun _ => False) rfl (.tmp 45) (.tmp 47) 82 37 _ 24 rfl Tryz.underlying82 infoStp rfl (by decide) (by decide) (.slice Ac acc.length cc) acc ⟨n, rT, rR⟩ [.int .i64 n, .int .i64 rT, .int .i64 rR] rfl (by first | (go_simp; done) | (go_simp; rfl)) rfl (fun _ h => h.elim) hO9 (fun k hk => Nat.le_trans hz19 hk) (by omega) ?_; intro v1 w2 ho2 hg2; have hst2 : Stp w1 w2 := Stp.grown hs19 hg2 hO9.blk; obtain ⟨A2, c2, e2'⟩ : ∃ A2 c2, v1 = .slice A2 (acc ++ [(⟨n, rT, rR⟩ : Stp3)]).length c2 := ho2.reads.slice; subst e2'; replace d0 := hst2.cell e0; replace d1 := hst2.cell e1; replace d2 := hst2.cell e2; replace d3 := hst2.cell e3; replace d4 := hst2.cell e4; replace d5 := hst2.cell e5)) | (go_at_call 49; refine (cpn _ (hs1.trans hst2)).mono ?_; rintro e w3 ⟨rfl, hb3⟩))
              go_roundw
              case rel =>
                refine ⟨acc ++ [⟨n, rT, rR⟩], aimN t comp tg n, rfl, ?_⟩
                have ho3 := ho2.stp hb3
                rw [List.length_append] at ho3
                exact ⟨ho3, hst2.trans Lime.stp_, hor.imp id And.left, by rw [List.append_assoc, ← hacc, hstep, ← hT, ← hRr]; rfl⟩
              case measure =>
                have e1 : n ≠ -1 := M.ne1 hn
                show (if aimN t comp tg n = -1 then 0 else rkS t (aimN t comp tg n) + 1) < (if n = -1 then 0 else rkS t n + 1)
                rw [if_neg e1]
                rcases hor with h | ⟨h1, h2⟩
                · rw [h]; simp
                · rw [if_neg (M.ne1 h1)]; omega)
        clear ax
        have HF := Lib.hid hF
        clear hF
        have e1' := hst.cell e1
        have e2' := hst.cell e2
        refine wp_region_noPanic ?_
        refine Go.Proofs.YtaggmjnpocndkaaGreatW.PrintLast.start_ (n := 14) (S := fun W_ => Stp wr W_) (ds := [13]) #[false, false, false, false, false, false, false, false, false, false, false, false, false, false] (by kernel_rfl) rfl (by kernel_rfl) (Stp.refl _).drew (fun hS => ?_)
        refine Go.Proofs.YtaggmjnpocndkaaGreatW.PrintLast.pure_ (i := 0) (v := ?_) (a' := ?_) #[true, false, false, false, false, false, false, false, false, false, false, false, false, false] Lime.getop_ rfl (by kernel_rfl) (fun _ _ _ h => h) (Or.inl ⟨by rfl, ?_⟩) ?_ ?_
        rotate_left
        focus (intro w_; (exact Lime.calm_))
        rotate_left
        focus (simp only [Act.put, List.setIfInBounds_toArray, List.set_cons_zero, List.set_cons_succ]; first | done | rfl)
        refine Go.Proofs.YtaggmjnpocndkaaGreatW.PrintLast.pure_ (i := 1) (v := ?_) (a' := ?_) #[true, true, false, false, false, false, false, false, false, false, false, false, false, false] Lime.getop_ rfl (by kernel_rfl) (fun _ _ _ h => h) (Or.inl ⟨by rfl, ?_⟩) ?_ ?_
        rotate_left
        focus (intro w_; (exact Lime.calm_))
        rotate_left
        focus (simp only [Act.put, List.setIfInBounds_toArray, List.set_cons_zero, List.set_cons_succ]; first | done | rfl)
        refine Go.Proofs.YtaggmjnpocndkaaGreatW.PrintLast.pure_ (i := 2) (v := ?_) (a' := ?_) #[true, true, true, false, false, false, false, false, false, false, false, false, false, false] Lime.getop_ rfl (by kernel_rfl) (fun _ _ _ h => h) (Or.inl ⟨by rfl, ?_⟩) ?_ ?_
        rotate_left
        focus (intro w_; (exact Lime.calm_))
        rotate_left
        focus (simp only [Act.put, List.setIfInBounds_toArray, List.set_cons_zero, List.set_cons_succ]; first | done | rfl)
        refine Go.Proofs.YtaggmjnpocndkaaGreatW.PrintLast.pure_ (i := 4) (v := ?_) (a' := ?_) #[true, true, true, false, true, false, false, false, false, false, false, false, false, false] Lime.getop_ rfl (by kernel_rfl) (fun _ _ _ h => h) (Or.inl ⟨by rfl, ?_⟩) ?_ ?_
        rotate_left
        focus (intro w_; (exact Lime.calm_))
        rotate_left
        focus (simp only [Act.put, List.setIfInBounds_toArray, List.set_cons_zero, List.set_cons_succ]; first | done | rfl)
        refine Go.Proofs.YtaggmjnpocndkaaGreatW.PrintLast.pure_ (i := 6) (v := ?_) (a' := ?_) #[true, true, true, false, true, false, true, false, false, false, false, false, false, false] Lime.getop_ rfl (by kernel_rfl) (fun _ _ _ h => h) (Or.inl ⟨by rfl, ?_⟩) ?_ ?_
        rotate_left
        focus (intro w_; (exact Lime.calm_))
        rotate_left
        focus (simp only [Act.put, List.setIfInBounds_toArray, List.set_cons_zero, List.set_cons_succ]; first | done | rfl)
        refine Go.Proofs.YtaggmjnpocndkaaGreatW.PrintLast.pure_ (i := 7) (v := ?_) (a' := ?_) #[true, true, true, false, true, false, true, true, false, false, false, false, false, false] Lime.getop_ rfl (by kernel_rfl) (fun _ _ _ h => h) (Or.inl ⟨by rfl, ?_⟩) ?_ ?_
        rotate_left
        focus (intro w_; (exact Lime.calm_))
        rotate_left
        focus (simp only [Act.put, List.setIfInBounds_toArray, List.set_cons_zero, List.set_cons_succ]; first | done | rfl)
        refine Go.Proofs.YtaggmjnpocndkaaGreatW.PrintLast.pure_ (i := 9) (v := ?_) (a' := ?_) #[true, true, true, false, true, false, true, true, false, true, false, false, false, false] Lime.getop_ rfl (by kernel_rfl) (fun _ _ _ h => h) (Or.inl ⟨by rfl, ?_⟩) ?_ ?_
        rotate_left
        focus (intro w_; (exact Lime.calm_))
        rotate_left
        focus (simp only [Act.put, List.setIfInBounds_toArray, List.set_cons_zero, List.set_cons_succ]; first | done | rfl)
        refine Go.Proofs.YtaggmjnpocndkaaGreatW.PrintLast.take_ (i := 3) (v := ?_) (a' := ?_) #[true, true, true, true, true, false, true, true, false, true, false, false, false, false] Lime.getop_ rfl (by kernel_rfl) (fun _ _ _ h => h) (Or.inl ⟨by rfl, ?_⟩) hS ?_ ?_
        rotate_left
        focus (intro w_ hw_; have q0_ := hw_.cell e1'; have q1_ := hw_.cell e2'; (exact Lime.calm_))
        rotate_left
        focus (simp only [Act.put, List.setIfInBounds_toArray, List.set_cons_zero, List.set_cons_succ]; first | done | rfl)
        refine Go.Proofs.YtaggmjnpocndkaaGreatW.PrintLast.take_ (i := 8) (v := ?_) (a' := ?_) #[true, true, true, true, true, false, true, true, true, true, false, false, false, false] Lime.getop_ rfl (by kernel_rfl) (fun _ _ _ h => h) (Or.inl ⟨by rfl, ?_⟩) hS ?_ ?_
        rotate_left
        focus (intro w_ hw_; have q0_ := hw_.cell e1'; have q1_ := hw_.cell e2'; (exact Lime.calm_))
        rotate_left
        focus (simp only [Act.put, List.setIfInBounds_toArray, List.set_cons_zero, List.set_cons_succ]; first | done | rfl)
        refine Go.Proofs.YtaggmjnpocndkaaGreatW.PrintLast.two_ (i := 5) (j := 12) #[true, true, true, true, true, true, true, true, true, true, false, false, false, false] #[true, true, true, true, true, false, true, true, true, true, false, false, true, false] Lime.getop_ Lime.getop_ rfl rfl (by kernel_rfl) (by decide) (by decide) (fun K hK => ?_) (fun K hK => ?_)
        · skip
          rw [if_pos (by rfl)]; go_simp; refine (show Calls Tryz.prog 50 _ _ _ from crT _ Lime.stp_).mono ?_; rintro e w5 ⟨rfl, hb5⟩
          refine hK.out _ _ Lime.stp_ (fun hst => ?_); replace hS := hst
          clear hK K
          (try simp only [Act.put, List.setIfInBounds_toArray, List.set_cons_zero, List.set_cons_succ])
          refine Go.Proofs.YtaggmjnpocndkaaGreatW.PrintLast.two_ (i := 10) (j := 12) #[true, true, true, true, true, true, true, true, true, true, true, false, false, false] #[true, true, true, true, true, true, true, true, true, true, false, false, true, false] Lime.getop_ Lime.getop_ rfl rfl (by kernel_rfl) (by decide) (by decide) (fun K hK => ?_) (fun K hK => ?_)
          · skip
            rw [if_pos (by rfl)]; go_simp; refine (show Calls Tryz.prog 50 _ _ _ from crR _ Lime.stp_).mono ?_; rintro e w6 ⟨rfl, hb6⟩
            refine hK.out _ _ Lime.stp_ (fun hst => ?_); replace hS := hst
            clear hK K
            (try simp only [Act.put, List.setIfInBounds_toArray, List.set_cons_zero, List.set_cons_succ])
            refine Go.Proofs.YtaggmjnpocndkaaGreatW.PrintLast.pure_ (i := 11) (v := ?_) (a' := ?_) #[true, true, true, true, true, true, true, true, true, true, true, true, false, false] Lime.getop_ rfl (by kernel_rfl) (fun _ _ _ h => h) (Or.inl ⟨by rfl, ?_⟩) ?_ ?_
            rotate_left
            focus (intro w_; (exact Lime.calm_))
            rotate_left
            focus (simp only [Act.put, List.setIfInBounds_toArray, List.set_cons_zero, List.set_cons_succ]; first | done | rfl)
            refine Go.Proofs.YtaggmjnpocndkaaGreatW.PrintLast.one_ (i := 12) #[true, true, true, true, true, true, true, true, true, true, true, true, true, false] Lime.getop_ rfl (by kernel_rfl) (by decide) (fun K hK => ?_)
            rw [if_pos (by rfl)]; go_simp
            refine hK.out _ _ Lime.stp_ (fun hst => ?_); replace hS := hst
            clear hK K
            (try simp only [Act.put, List.setIfInBounds_toArray, List.set_cons_zero, List.set_cons_succ])
            refine Go.Proofs.YtaggmjnpocndkaaGreatW.PrintLast.last_ (i := 13) #[true, true, true, true, true, true, true, true, true, true, true, true, true, true] Lime.getop_ rfl (by kernel_rfl) (by decide) (fun K hK => ?_)
            rw [if_pos (by rfl)]; first | (have hh := hb6.heap (World.alloc_heap_new w5 (.cells #[.int .i64 0, .int .i64 0, .int .i64 0] 37)); obtain ⟨q0, f0⟩ := in_block hh 0 _ rfl; obtain ⟨q1, f1⟩ := in_block hh 1 _ rfl; obtain ⟨q2, f2⟩ := in_block hh 2 _ rfl; go_simp) | (have hh : w6.heap[wr.heap.size]? = _ := hb6.heap (hb5.heap (World.alloc_heap_new wr.drew (.cells #[.int .i64 0, .int .i64 0, .int .i64 0] 37))); obtain ⟨q0, f0⟩ := in_block hh 0 _ rfl; obtain ⟨q1, f1⟩ := in_block hh 1 _ rfl; obtain ⟨q2, f2⟩ := in_block hh 2 _ rfl; go_simp) | go_simp
            refine hK.out _ _ ?_
            clear hK K
            (try simp only [Act.put, List.setIfInBounds_toArray, List.set_cons_zero, List.set_cons_succ])
            refine Go.Proofs.YtaggmjnpocndkaaGreatW.PrintLast.done_ (by kernel_rfl) (noPanic_n ?_)
            first | (have hz5 := (show Stp wr w5 by (exact Lime.stp_)).size; exact HF.out _ _ _ _ _ _ _ _ _ _ _ _ _ _ Lime.stp_ (set3 hh)) | exact HF.out _ _ _ _ _ _ _ _ _ _ _ _ _ _ Lime.stp_ (World.alloc_heap_new _ _)
          · skip
            rw [if_pos (by rfl)]; go_simp
            refine hK.out _ _ Lime.stp_ (fun hst => ?_); replace hS := hst
            clear hK K
            (try simp only [Act.put, List.setIfInBounds_toArray, List.set_cons_zero, List.set_cons_succ])
            refine Go.Proofs.YtaggmjnpocndkaaGreatW.PrintLast.one_ (i := 10) #[true, true, true, true, true, true, true, true, true, true, true, false, true, false] Lime.getop_ rfl (by kernel_rfl) (by decide) (fun K hK => ?_)
            rw [if_pos (by rfl)]; go_simp; refine (show Calls Tryz.prog 50 _ _ _ from crR _ Lime.stp_).mono ?_; rintro e w6 ⟨rfl, hb6⟩
            refine hK.out _ _ Lime.stp_ (fun hst => ?_); replace hS := hst
            clear hK K
            (try simp only [Act.put, List.setIfInBounds_toArray, List.set_cons_zero, List.set_cons_succ])
            refine Go.Proofs.YtaggmjnpocndkaaGreatW.PrintLast.pure_ (i := 11) (v := ?_) (a' := ?_) #[true, true, true, true, true, true, true, true, true, true, true, true, true, false] Lime.getop_ rfl (by kernel_rfl) (fun _ _ _ h => h) (Or.inl ⟨by rfl, ?_⟩) ?_ ?_
            rotate_left
            focus (intro w_; (exact Lime.calm_))
            rotate_left
            focus (simp only [Act.put, List.setIfInBounds_toArray, List.set_cons_zero, List.set_cons_succ]; first | done | rfl)
            refine Go.Proofs.YtaggmjnpocndkaaGreatW.PrintLast.last_ (i := 13) #[true, true, true, true, true, true, true, true, true, true, true, true, true, true] Lime.getop_ rfl (by kernel_rfl) (by decide) (fun K hK => ?_)
            rw [if_pos (by rfl)]; first | (have hh := hb6.heap (World.alloc_heap_new w5 (.cells #[.int .i64 0, .int .i64 0, .int .i64 0] 37)); obtain ⟨q0, f0⟩ := in_block hh 0 _ rfl; obtain ⟨q1, f1⟩ := in_block hh 1 _ rfl; obtain ⟨q2, f2⟩ := in_block hh 2 _ rfl; go_simp) | (have hh : w6.heap[wr.heap.size]? = _ := hb6.heap (hb5.heap (World.alloc_heap_new wr.drew (.cells #[.int .i64 0, .int .i64 0, .int .i64 0] 37))); obtain ⟨q0, f0⟩ := in_block hh 0 _ rfl; obtain ⟨q1, f1⟩ := in_block hh 1 _ rfl; obtain ⟨q2, f2⟩ := in_block hh 2 _ rfl; go_simp) | go_simp
            refine hK.out _ _ ?_
            clear hK K
            (try simp only [Act.put, List.setIfInBounds_toArray, List.set_cons_zero, List.set_cons_succ])
            refine Go.Proofs.YtaggmjnpocndkaaGreatW.PrintLast.done_ (by kernel_rfl) (noPanic_n ?_)
            first | (have hz5 := (show Stp wr w5 by (exact Lime.stp_)).size; exact HF.out _ _ _ _ _ _ _ _ _ _ _ _ _ _ Lime.stp_ (set3 hh)) | exact HF.out _ _ _ _ _ _ _ _ _ _ _ _ _ _ Lime.stp_ (World.alloc_heap_new _ _)
        · skip
          rw [if_pos (by rfl)]; go_simp
          refine hK.out _ _ Lime.stp_ (fun hst => ?_); replace hS := hst
          clear hK K
          (try simp only [Act.put, List.setIfInBounds_toArray, List.set_cons_zero, List.set_cons_succ])
          refine Go.Proofs.YtaggmjnpocndkaaGreatW.PrintLast.one_ (i := 5) #[true, true, true, true, true, true, true, true, true, true, false, false, true, false] Lime.getop_ rfl (by kernel_rfl) (by decide) (fun K hK => ?_)
          rw [if_pos (by rfl)]; go_simp; refine (show Calls Tryz.prog 50 _ _ _ from crT _ Lime.stp_).mono ?_; rintro e w5 ⟨rfl, hb5⟩
          refine hK.out _ _ Lime.stp_ (fun hst => ?_); replace hS := hst
          clear hK K
          (try simp only [Act.put, List.setIfInBounds_toArray, List.set_cons_zero, List.set_cons_succ])
          refine Go.Proofs.YtaggmjnpocndkaaGreatW.PrintLast.one_ (i := 10) #[true, true, true, true, true, true, true, true, true, true, true, false, true, false] Lime.getop_ rfl (by kernel_rfl) (by decide) (fun K hK => ?_)
          rw [if_pos (by rfl)]; go_simp; refine (show Calls Tryz.prog 50 _ _ _ from crR _ Lime.stp_).mono ?_; rintro e w6 ⟨rfl, hb6⟩
          refine hK.out _ _ Lime.stp_ (fun hst => ?_); replace hS := hst
          clear hK K
          (try simp only [Act.put, List.setIfInBounds_toArray, List.set_cons_zero, List.set_cons_succ])
          refine Go.Proofs.YtaggmjnpocndkaaGreatW.PrintLast.pure_ (i := 11) (v := ?_) (a' := ?_) #[true, true, true, true, true, true, true, true, true, true, true, true, true, false] Lime.getop_ rfl (by kernel_rfl) (fun _ _ _ h => h) (Or.inl ⟨by rfl, ?_⟩) ?_ ?_
          rotate_left
          focus (intro w_; (exact Lime.calm_))
          rotate_left
          focus (simp only [Act.put, List.setIfInBounds_toArray, List.set_cons_zero, List.set_cons_succ]; first | done | rfl)
          refine Go.Proofs.YtaggmjnpocndkaaGreatW.PrintLast.last_ (i := 13) #[true, true, true, true, true, true, true, true, true, true, true, true, true, true] Lime.getop_ rfl (by kernel_rfl) (by decide) (fun K hK => ?_)
          rw [if_pos (by rfl)]; first | (have hh := hb6.heap (World.alloc_heap_new w5 (.cells #[.int .i64 0, .int .i64 0, .int .i64 0] 37)); obtain ⟨q0, f0⟩ := in_block hh 0 _ rfl; obtain ⟨q1, f1⟩ := in_block hh 1 _ rfl; obtain ⟨q2, f2⟩ := in_block hh 2 _ rfl; go_simp) | (have hh : w6.heap[wr.heap.size]? = _ := hb6.heap (hb5.heap (World.alloc_heap_new wr.drew (.cells #[.int .i64 0, .int .i64 0, .int .i64 0] 37))); obtain ⟨q0, f0⟩ := in_block hh 0 _ rfl; obtain ⟨q1, f1⟩ := in_block hh 1 _ rfl; obtain ⟨q2, f2⟩ := in_block hh 2 _ rfl; go_simp) | go_simp
          refine hK.out _ _ ?_
          clear hK K
          (try simp only [Act.put, List.setIfInBounds_toArray, List.set_cons_zero, List.set_cons_succ])
          refine Go.Proofs.YtaggmjnpocndkaaGreatW.PrintLast.done_ (by kernel_rfl) (noPanic_n ?_)
          first | (have hz5 := (show Stp wr w5 by (exact Lime.stp_)).size; exact HF.out _ _ _ _ _ _ _ _ _ _ _ _ _ _ Lime.stp_ (set3 hh)) | exact HF.out _ _ _ _ _ _ _ _ _ _ _ _ _ _ Lime.stp_ (World.alloc_heap_new _ _)
  · have HR := Lib.hid (show pathR t comp tg re = [] from if_neg ho)
    rw [show (mayT t && isN t tg) = false by rw [← Bool.not_eq_true]; simpa using ho] at ci
    clear ho
    go_enter Tryz.func33, Tryz.ntmps33
    go_wp2_with (go_at_call 48; refine (ci _ Lime.stp_).mono ?_; rintro e w1 ⟨rfl, hb1⟩)
    go_ret
    exact ⟨_, rfl, by rw [HR.out]; exact Own.nil _ _ _ _, by (exact Lime.stp_)⟩
end Go.Proofs.Lime
namespace Go.Proofs.Lime
open Go.RowKit
set_option linter.unusedVariables false
set_option linter.unusedSimpArgs false
attribute [local go_sem] Oper.semAt_some

section
variable {P : Program} {o : Oper} {a : Act} {K : Act → World → Prop} {Q : Exit → Act → World → Prop} {W : World} {α : Type} {d : Kd α} {S : Nat → Prop}
/-- append(v, ys...), as an operation. -/
theorem oper_appendrow {T T' : Nat → Prop} (s x : Operand) (t e : TypeId) (z : Value) (bytes : Nat)
    (ho : o.op = .call { callee := .builtin .append, args := #[s, x], argTypes := #[t, t] })
    (ht : P.underlying t = some (.slice e)) (hinfo : (P.info? e).map (fun i => (i.zero, i.size, i.bytes)) = some (some z, d.sz, bytes)) (hz : z.cells.size = d.sz) (hs0 : 0 < d.sz) (hb0 : 0 < bytes)
    (v : Value) (xs : List α) (u : Value) (ys : List α) (hs : a.eval s = v) (hx : a.eval x = u) (HR : Row d T W u ys) (hTT : ∀ x cs, d.K T W x cs → d.K T' W x cs) (hT : ∀ k, T' k → k < W.heap.size → S k ∧ some k ≠ v.ownBlock)
    (HO : Own d e S W v xs) (hfresh : ∀ k, W.heap.size ≤ k → S k) (hl : (xs.length + ys.length) * bytes ≤ 140737488355328)
    (h : ∀ v1 w1, Own d e S w1 v1 (xs ++ ys) → W.grownBy w1 v.ownBlock → K (a.put o.dst v1) w1) : Oper.wp P o a W K Q := by
  obtain ⟨v1, w1, hr, h1, h2, h3⟩ := run_appendrow (P := P) t o.type e z bytes ht hinfo hz hs0 hb0 v xs u ys HR hTT hT HO hfresh hl
  unfold Oper.wp
  simp [execOp, ho, resolve, invoke, builtin, hs, hx, hr, Result.andThen, Oper.upon]
  exact h v1 w1 h1 h2
end
section
variable {P : Program} {ops : Array Oper} {Q : Exit → Act → World → Prop} {l : Nat}
/-- The printed words' 'start_', in a round of a range. -/
theorem start_in {S : World → Prop} {ds : List Nat} {id n : Nat} {a : Act} {w : World} (li : Array Bool) (hm : P.follows .mixedOrders = true) (hn : ops.size = n) (hl : Array.replicate n false = li) (hd : noDefer ops = true) (hout : ¬ LetsOut Q) (hS : S w.drew)
    (h : S w.drew → Go.Proofs.YtaggmjnpocndkaaGreatW.PrintLast.wpAnyLast P .any ops (NoPanic Q) S ds n li a w.drew) : (Code.region id ops true).wpIn (Fence.wide.inRound l) 0 P Q a w := by
  subst hn
  subst hl
  exact wpIn_mono (wpIn_region_any hm (wpAnyIn_round (Q := NoPanic Q) (noDefer_spec hd) (fun ⟨a, w, h⟩ => hout ⟨a, w, h⟩) _ _ _ _ (Go.Proofs.YtaggmjnpocndkaaGreatW.PrintLast.wpAny_of_last _ _ _ _ (h hS)))) NoPanic.imp
end
/-- What is held between two rounds: B the cell of the list's variable, w0 where the first range began. -/
structure VisO (B : Nat) (w0 : World) (ls : List Vis) (O : Nat → Prop) (W : World) : Prop where mk ::
  ob : O B
  new : ∀ b, O b → b = B ∨ w0.heap.size ≤ b
  kp : Kpt (· = B) w0 W
  own : ∃ v, Boxed W B 67 v ∧ Own visK 39 (fun b => O b ∧ b ≠ B) W v ls
theorem VisO.step {B : Nat} {w0 W w5 w6 : World} {ls ys : List Vis} {O : Nat → Prop} {v v1 : Value} (h1 : O B) (h2 : ∀ b, O b → b = B ∨ w0.heap.size ≤ b) (h3 : Kpt (· = B) w0 W) (h4 : Boxed W B 67 v)
    (h5 : Own visK 39 (fun b => O b ∧ b ≠ B) W v ls) (hb5 : Stp W w5) (hg : w5.grownBy w6 v.ownBlock) (ho : Own visK 39 (fun b => b ≠ B ∧ (O b ∨ W.heap.size ≤ b)) w6 v1 (ls ++ ys)) :
    (∀ b, (O b ∨ (W.heap.size ≤ b ∧ b < w6.heap.size)) → O b ∨ W.heap.size ≤ b) ∧ Kpt O W (w6.setCell ⟨B, 0, none⟩ v1) ∧ VisO B w0 (ls ++ ys) (fun b => O b ∨ (W.heap.size ≤ b ∧ b < w6.heap.size)) (w6.setCell ⟨B, 0, none⟩ v1) := by
  have hBW := h4.lt
  have hnB : v.ownBlock ≠ some B := fun e => (h5.blk B e).2 rfl
  have hb6 : Boxed w6 B 67 v := Boxed.grown (Boxed.stp h4 hb5) hg hnB
  have hkp : Kpt O W (w6.setCell ⟨B, 0, none⟩ v1) := kpt_store ((Kpt.of_stp (O := O) hb5).trans (Kpt.of_grown (O := O) hg fun k e => (h5.blk k e).1) fun x hx => .inl hx) h1
  have hz := h3.size
  refine ⟨fun b hb => hb.imp id And.left, hkp, .inl h1, fun b hb => hb.elim (h2 b) (fun h => .inr (by omega)), h3.trans hkp fun b hb => h2 b hb, _, Boxed.set _ hb6, ?_⟩
  have ho2 := ho.mono (S' := fun b => (O b ∨ (W.heap.size ≤ b ∧ b < w6.heap.size)) ∧ b ≠ B) fun k hk hl => ⟨hk.2.imp id (fun h => ⟨h, hl⟩), hk.1⟩
  exact ho2.move fun k hk _ => Below.heap_setCell w6 ⟨B, 0, none⟩ _ k hk.2
theorem VisO.mono {B : Nat} {w0 W : World} {ls : List Vis} {O O' : Nat → Prop} (h : VisO B w0 ls O W) (h1 : ∀ b, O b → O' b) (h2 : ∀ b, O' b → b = B ∨ w0.heap.size ≤ b) : VisO B w0 ls O' W := by
  obtain ⟨g1, g2, g3, v, g4, g5⟩ := h
  exact ⟨h1 _ g1, h2, g3, v, g4, g5.mono fun k hk _ => ⟨h1 _ hk.1, hk.2⟩⟩
theorem VisO.abide {B : Nat} {w0 : World} (f : Nat → List Vis) : Abide (fun _ => False) w0.heap.size (fun k O W => VisO B w0 (f k) O W) := by
  intro k O A W h hk
  obtain ⟨h1, h2, h3, v, h4, h5⟩ := h
  exact ⟨h1, h2, h3.trans hk (fun x hx => .inr (hx.2.resolve_left id)), v, Boxed.keep h4 hk (fun h => h.1 h1), h5.kpt hk (fun x hx _ h => h.1 hx.1)⟩
set_option maxRecDepth 100000 in
set_option maxHeartbeats 4000000 in
theorem visits_w {w : World} {v : Value} {et tg re : Int} {bub can comp : Bool} {p : List Stp3}
    (hcp : ∀ W, Stp w W → Calls Tryz.prog 33 #[v, .agg #[.int .i64 et, .int .i64 tg, .int .i64 re, .bool bub, .bool can, .bool comp]] W fun e w' => ∃ u, e = .returned u ∧ Row stpK (fun b => W.heap.size ≤ b) w' u p ∧ Stp W w') (hp : p.length ≤ 1000) :
    Calls Tryz.prog 19 #[v, .agg #[.int .i64 et, .int .i64 tg, .int .i64 re, .bool bub, .bool can, .bool comp]] w fun e w' => ∃ u, e = .returned u ∧ Own visK 39 (fun b => w.heap.size ≤ b) w' u (visL p bub) ∧ Stp w w' := by
  have eg := (enters_of Tryz.func51 (by kernel_rfl) rfl)
  refine (callsIn_wide (n := 0)).1 (callsIn_of_wp_marks Tryz.func19 rfl trivial (wpIn_wide.2 ?_) rfl); simp only [Tryz.ntmps19, List.size_toArray, List.length_cons, List.length_nil, Nat.reduceAdd, Nat.reduceSub, Array.replicate_succ, Array.replicate_zero, List.push_toArray, List.append_toArray, List.nil_append, List.cons_append]
  go_wp2_with (first | (go_at_call 33; have x3 := Stp.cell (show Stp (w.alloc (.cells #[.int .i64 et, .int .i64 tg, .int .i64 re, .bool bub, .bool can, .bool comp] 25)) _ by (exact Lime.stp_)) (box_at w _ 25 3 _ rfl); have hB0 := Boxed.new (w.alloc (.cells #[.int .i64 et, .int .i64 tg, .int .i64 re, .bool bub, .bool can, .bool comp] 25)) 67 (.slice none 0 0); refine (hcp _ Lime.stp_).mono ?_; rintro e w1 ⟨u1, rfl, r1, hb1⟩; obtain ⟨A1, c1, rfl, hc1, hm1⟩ := r1.form) | (go_at_call 34; refine (sback_c _ _ _ _).mono ?_; rintro e w2 ⟨rfl, rfl⟩))
  have x3w : w1.cell? ⟨w.heap.size, 3, none⟩ = some (.bool bub) := hb1.cell (Stp.cell ((Stp.refl _).alloc _) (box_at w #[.int .i64 et, .int .i64 tg, .int .i64 re, .bool bub, .bool can, .bool comp] 25 3 _ rfl))
  obtain ⟨B, hB⟩ : ∃ B, w.heap.size + 1 = B := ⟨_, rfl⟩
  have hB1 : Boxed w1 B 67 (.slice none 0 0) := Boxed.stp (by rw [World.size_alloc, hB] at hB0; exact hB0) hb1
  have hsw1 : Stp w w1 := Stp.trans Lime.stp_ hb1
  have hz1 : B + 1 ≤ w1.heap.size := by have := hb1.size; simp at this; omega
  have r1' : Row stpK (fun b => B + 1 ≤ b ∧ b < w1.heap.size) w1 (.slice A1 p.length c1) p := r1.bound.mono fun k hk => ⟨by have := hk.1; simp at this; omega, hk.2⟩
  obtain ⟨w2, hw2, hs2, hz2, bBk⟩ := one_box w1 82 (.slice A1 p.length c1)
  rw [hw2, hB]
  have r2 := r1'.stp hs2
  have hit := sback1_it r2 (Boxed.cell bBk)
  have hsl := sbacks_length p
  have hsr := Lib.hid (sbacks_snd p)
  have x32 := hs2.cell x3w
  have E0 : VisO B w2 [] (fun b => b = B) w2 := ⟨rfl, fun b hb => .inl hb, Kpt.refl _ _, _, Boxed.stp hB1 hs2, Own.nil _ _ _ _⟩
  clear hw2 x3 hB0 hb1 r1 x3w r1' hB1 hcp
  refine wp_range2 (gf := 51) (lb := #[.pointer (some ⟨w1.heap.size, 0, none⟩)]) rfl eg hit (fun _ => rfl) (fun _ h => h.elim) (fun b => b = B) (fun b hb => ⟨by omega, id, fun h => by rcases h with h | h <;> omega⟩) (fun k O W => VisO B w2 (((sbacks p).take k).map (fun y => visOf y.2 1)) O W) (fun _ _ _ _ => False) (VisO.abide _) (fun _ _ _ _ _ h _ => h) (by simpa using E0)
    (fun a' k O W => ∃ (hk : k < (sbacks p).length) (bx : Nat), a' = { tmps := #[v, .agg #[.int .i64 et, .int .i64 tg, .int .i64 re, .bool bub, .bool can, .bool comp], undef, .pointer (some ⟨w.heap.size, 0, none⟩), .slice none 0 0, .pointer (some ⟨B, 0, none⟩), .slice A1 p.length c1, undef, .pointer (some ⟨bx, 0, none⟩), undef, undef, undef, v, .agg #[.int .i64 et, .int .i64 tg, .int .i64 re, .bool bub, .bool can, .bool comp], .slice A1 p.length c1, .slice A1 p.length c1, .func (.func 51) #[] #[.pointer (some ⟨w1.heap.size, 0, none⟩)], .int .i64 (sbacks p)[k].1, .agg #[.int .i64 (sbacks p)[k].2.node, .int .i64 (sbacks p)[k].2.target, .int .i64 (sbacks p)[k].2.related], undef, undef, undef, undef, undef, undef, undef, undef, undef, undef, undef, undef, undef, undef, undef, undef, undef, undef, undef, undef, undef, undef, undef, undef, undef, undef], defers := [] } ∧ O bx ∧ W.heap[bx]? = some (.cells #[.int .i64 (sbacks p)[k].2.node, .int .i64 (sbacks p)[k].2.target, .int .i64 (sbacks p)[k].2.related] 37 (0, 0)) ∧ VisO B w2 (((sbacks p).take k).map (fun y => visOf y.2 1)) O W) ?hAa ?hassign ?hbody ?hdone ?hstop
  case hAa =>
    rintro a' k O A W ⟨hk', bx, ha, hO, hh, hV⟩ hK
    exact ⟨hk', bx, ha, hO, (hK.block bx (Array.getElem?_eq_some_iff.1 hh).1 (fun h => h.1 hO)).trans hh, VisO.abide (fun k => ((sbacks p).take k).map (fun y => visOf y.2 1)) k O A W hV hK⟩
  case hassign =>
    intro l k hk O W K hI hK
    gi_wp2
    refine hK _ (fun b => O b ∨ b = W.heap.size) _ (fun b hb => hb.imp id (fun h => by omega)) (Kpt.of_stp Lime.stp_) ⟨hk, W.heap.size, rfl, .inr rfl, World.alloc_heap_new W _, ?_⟩
    have hz := hI.kp.size
    refine VisO.mono (O := O) ?_ (fun b hb => Or.inl hb) (fun b hb => Or.elim hb (hI.new b) (fun h => .inr (by omega)))
    exact VisO.abide (fun k => ((sbacks p).take k).map (fun y => visOf y.2 1)) k O W _ hI (Kpt.of_stp ((Stp.refl W).alloc _))
  case hbody =>
    rintro l k hk a' O W ⟨hk', bx, rfl, hO, hh, hV⟩
    obtain ⟨h1, h2, h3, v', h4, h5⟩ := hV
    have hxk := Lib.hid (List.take_succ_eq_append_getElem hk)
    have hll := Lib.hid (show ((((sbacks p).take k).map (fun y => visOf y.2 1)).length + 1) * 40 ≤ 140737488355328 by rw [List.length_map, List.length_take]; omega)
    generalize (sbacks p)[k] = y at hxk hh ⊢
    obtain ⟨i, ⟨n, g, r⟩⟩ := y
    have y0 : W.cell? ⟨bx, 0, none⟩ = some (.int .i64 n) := by simp [World.cell?, hh]
    have y1 : W.cell? ⟨bx, 1, none⟩ = some (.int .i64 g) := by simp [World.cell?, hh]
    have y2 : W.cell? ⟨bx, 2, none⟩ = some (.int .i64 r) := by simp [World.cell?, hh]
    have hx0 := Lib.hid (show (((sbacks p).take (k + 1)).map (fun y => visOf y.2 1)) = ((sbacks p).take k).map (fun y => visOf y.2 1) ++ [visOf ⟨n, g, r⟩ 1] by rw [hxk.out, List.map_append]; rfl)
    obtain ⟨x, hx⟩ : ∃ x, visOf ⟨n, g, r⟩ 1 = x := ⟨_, rfl⟩
    rw [hx] at hx0
    generalize ((sbacks p).take k).map (fun y => visOf y.2 1) = ls at h5 hll hx0
    obtain ⟨Av, cv, rfl, _⟩ := h5.reads.form
    have hcB := Boxed.cell h4
    have hfB := Boxed.frozen h4
    have hnB : (Value.slice Av ls.length cv).ownBlock ≠ some B := fun e => (h5.blk B e).2 rfl
    have hBW := h4.lt
    clear hh hxk
    refine wpIn_block ?_
    refine start_in (n := 6) (S := fun W_ => Stp W W_) (ds := [4, 5]) #[false, false, false, false, false, false] (by kernel_rfl) rfl (by kernel_rfl) (by kernel_rfl) (by rintro ⟨_, _, h⟩; exact h) (Stp.refl _).drew (fun hS => ?_)
    refine Go.Proofs.YtaggmjnpocndkaaGreatW.PrintLast.take_ (i := 0) (v := ?_) (a' := ?_) #[true, false, false, false, false, false] Lime.getop_ rfl (by kernel_rfl) (fun _ _ _ h => h) (Or.inl ⟨by rfl, ?_⟩) hS ?_ ?_
    rotate_left
    focus (intro w_ hw_; have q0_ := hw_.cell hcB; have q1_ := hw_.cell y0; have q2_ := hw_.cell y1; have q3_ := hw_.cell y2; (exact Lime.calm_))
    rotate_left
    focus (simp only [Act.put, List.setIfInBounds_toArray, List.set_cons_zero, List.set_cons_succ]; first | done | rfl)
    refine Go.Proofs.YtaggmjnpocndkaaGreatW.PrintLast.take_ (i := 1) (v := ?_) (a' := ?_) #[true, true, false, false, false, false] Lime.getop_ rfl (by kernel_rfl) (fun _ _ _ h => h) (Or.inl ⟨by rfl, ?_⟩) hS ?_ ?_
    rotate_left
    focus (intro w_ hw_; have q0_ := hw_.cell hcB; have q1_ := hw_.cell y0; have q2_ := hw_.cell y1; have q3_ := hw_.cell y2; (exact Lime.calm_))
    rotate_left
    focus (simp only [Act.put, List.setIfInBounds_toArray, List.set_cons_zero, List.set_cons_succ]; first | done | rfl)
    refine Go.Proofs.YtaggmjnpocndkaaGreatW.PrintLast.one_ (i := 2) #[true, true, true, false, false, false] Lime.getop_ rfl (by kernel_rfl) (by decide) (fun K hK => ?_)
    rw [if_pos (by rfl)]; go_simp; refine (visit_x _ ⟨n, g, r⟩ 1 x hx).mono ?_; rintro e w8 ⟨rfl, hb8⟩
    refine hK.out _ _ Lime.stp_ (fun hst => ?_); replace hS := hst
    clear hK K
    (try simp only [Act.put, List.setIfInBounds_toArray, List.set_cons_zero, List.set_cons_succ])
    refine Go.Proofs.YtaggmjnpocndkaaGreatW.PrintLast.one_ (i := 3) #[true, true, true, true, false, false] Lime.getop_ rfl (by kernel_rfl) (by decide) (fun K hK => ?_)
    rw [if_pos (by rfl)]; go_simp
    refine hK.out _ _ Lime.stp_ (fun hst => ?_); replace hS := hst
    clear hK K
    (try simp only [Act.put, List.setIfInBounds_toArray, List.set_cons_zero, List.set_cons_succ])
    refine Go.Proofs.YtaggmjnpocndkaaGreatW.PrintLast.last_ (i := 4) #[true, true, true, true, true, false] Lime.getop_ rfl (by kernel_rfl) (by decide) (fun K hK => ?_)
    rw [if_pos (by rfl)]; refine oper_appendrow (d := visK) (S := fun b_ => b_ ≠ B ∧ (O b_ ∨ W.heap.size ≤ b_)) (T := fun b_ => b_ = w8.heap.size) (T' := fun _ => False) (.tmp 19) (.tmp 22) 67 39 (.agg #[.int .i64 0, .int .i64 0, .int .i64 0, .int .i64 0, .bool false]) 40 rfl Tryz.underlying67 infoVis rfl (by decide) (by decide) _ ls _ [x] rfl rfl (Row.box (cs := Vis.cells x) (World.alloc_heap_new w8 _) rfl (vis_K _ _ x)) (fun _ _ h => h) (fun _ h => h.elim) ((h5.stp hS).mono fun k hk _ => ⟨hk.2, .inl hk.1⟩) (fun k hk => by have := hS.size; exact ⟨by omega, .inr (by omega)⟩) hll.out ?_; intro v9 w9 ho9 hg9
    refine hK.out _ _ ?_
    clear hK K
    (try simp only [Act.put, List.setIfInBounds_toArray, List.set_cons_zero, List.set_cons_succ])
    refine Go.Proofs.YtaggmjnpocndkaaGreatW.PrintLast.last_ (i := 5) #[true, true, true, true, true, true] Lime.getop_ rfl (by kernel_rfl) (by decide) (fun K hK => ?_)
    rw [if_pos (by rfl)]; obtain ⟨A9, c9, rfl, _⟩ := ho9.reads.form; have hb9 := Boxed.grown (Boxed.stp h4 hS) hg9 hnB; have h9c := Boxed.cell hb9; have h9f := Boxed.frozen hb9; go_simp
    refine hK.out _ _ ?_
    clear hK K
    (try simp only [Act.put, List.setIfInBounds_toArray, List.set_cons_zero, List.set_cons_succ])
    refine Go.Proofs.YtaggmjnpocndkaaGreatW.PrintLast.done_ (by kernel_rfl) (noPanic_n ?_)
    have hE := VisO.step h1 h2 h3 h4 h5 hS hg9 ho9
    rw [List.length_append] at hE
    refine ⟨_, hE.1, hE.2.1, ?_⟩
    show VisO B w2 (((sbacks p).take (k + 1)).map (fun y => visOf y.2 1)) _ _
    rw [hx0.out]
    exact hE.2.2
  case hdone =>
    intro D O W hD hn hI hWD
    have hm : (sbacks p).map (fun y => visOf y.2 1) = p.reverse.map (visOf · 1) := by rw [← hsr.out, List.map_map]; rfl
    rw [List.take_of_length_le (Nat.le_refl _), hm] at hI
    have HR := Lib.hid (show visL p bub = p.reverse.map (visOf · 1) ++ (p.map (visOf · 3)).filter (fun x => bub || x.phase == 2) from rfl)
    have hl0 : (p.reverse.map (visOf · 1)).length = p.length := by simp
    generalize p.reverse.map (visOf · 1) = l0 at hI HR hl0
    have hsw2 := Lib.hid (hsw1.trans hs2)
    have hwB := Lib.hid hB
    clear hm hit E0 hsl hsr bBk hsw1 hs2 hB
    go_wp2
    go_loopw [26] (fun s26 W' => ∃ (k : Nat) (O' : Nat → Prop), s26 = .int .i64 k ∧ k ≤ p.length ∧ Aside (¬ O' D ∧ VisO B w2 (l0 ++ ((p.take k).map (visOf · 3)).filter (fun x => bub || x.phase == 2)) O' W' ∧ W'.heap[D]? = some (.deferred (some [])))) (fun s26 _ => p.length - (intOf s26).toNat)
    case atStart => exact ⟨0, O, rfl, Nat.zero_le _, hn, by simpa using hI, hWD⟩
    case round =>
      obtain ⟨k, O', rfl, hk, HA⟩ := hrel
      obtain ⟨hnD, ⟨g1, g2, g3, v', g4, g5⟩, hDW⟩ := HA.out
      have hpW := r2.kpt g3 fun x hx _ h => by have h1 := hx.1; have h2 : x = B := h; omega
      have x3W := g3.cell (p := ⟨w.heap.size, 3, none⟩) (fun h => by have h2 : w.heap.size = B := h; have := hwB.out; omega) x32
      by_cases hlt : k < p.length
      · have hltz : (k : Int) < (p.length : Int) := by omega
        have hxk := Lib.hid (List.take_succ_eq_append_getElem hlt)
        have hfl := List.length_filter_le (fun x => bub || x.phase == 2) ((p.take k).map (visOf · 3))
        have hll := Lib.hid (show ((l0 ++ ((p.take k).map (visOf · 3)).filter (fun x => bub || x.phase == 2)).length + 1) * 40 ≤ 140737488355328 by rw [List.length_append]; rw [List.length_map, List.length_take] at hfl; omega)
        obtain ⟨b1, o1, rfl, _, _, y0, y1, y2⟩ := stp_at hpW k hlt
        generalize p[k] = s at y0 y1 y2 hxk
        obtain ⟨n, g, r⟩ := s
        obtain ⟨x, hx⟩ : ∃ x, visOf ⟨n, g, r⟩ 3 = x := ⟨_, rfl⟩
        have hx0 := Lib.hid (show l0 ++ ((p.take (k + 1)).map (visOf · 3)).filter (fun x => bub || x.phase == 2) = (l0 ++ ((p.take k).map (visOf · 3)).filter (fun x => bub || x.phase == 2)) ++ (if (bub || x.phase == 2) = true then [x] else []) by
          rw [hxk.out, List.map_append, List.filter_append, List.append_assoc, List.map_cons, List.map_nil, hx, List.filter_cons, List.filter_nil])
        generalize l0 ++ ((p.take k).map (visOf · 3)).filter (fun x => bub || x.phase == 2) = ls at g5 hll hx0
        obtain ⟨Av, cv, rfl, _⟩ := g5.reads.form
        have hnB : (Value.slice Av ls.length cv).ownBlock ≠ some B := fun e => (g5.blk B e).2 rfl
        have hBW := g4.lt
        have hg3z := g3.size
        have HD := Lib.hid hDW
        clear hxk hfl HA hDW hpW hI
        by_cases hb : (bub || x.phase == 2) = true
        · have hx1 := Lib.hid (show l0 ++ ((p.take (k + 1)).map (visOf · 3)).filter (fun x => bub || x.phase == 2) = ls ++ [x] by rw [hx0.out, if_pos hb])
          have fin : ∀ (w7 w9 : World) (A9 : Option Addr) (c9 : Nat), Stp wr w7 → w7.grownBy w9 (Value.slice Av ls.length cv).ownBlock → Own visK 39 (fun b => b ≠ B ∧ (O' b ∨ wr.heap.size ≤ b)) w9 (.slice A9 (ls ++ [x]).length c9) (ls ++ [x]) →
              ∃ (k' : Nat) (O'' : Nat → Prop), Value.int .i64 ((k : Int) + 1) = .int .i64 k' ∧ k' ≤ p.length ∧ Aside (¬ O'' D ∧ VisO B w2 (l0 ++ ((p.take k').map (visOf · 3)).filter (fun x => bub || x.phase == 2)) O'' (w9.setCell ⟨B, 0, none⟩ (.slice A9 (ls ++ [x]).length c9)) ∧ (w9.setCell ⟨B, 0, none⟩ (.slice A9 (ls ++ [x]).length c9)).heap[D]? = some (.deferred (some []))) := by
            intro w7 w9 A9 c9 hs7 hg9 ho9
            obtain ⟨e1, e2, e3⟩ := VisO.step g1 g2 g3 g4 g5 hs7 hg9 ho9
            have hDlt := (Array.getElem?_eq_some_iff.1 HD.out).1
            refine ⟨k + 1, fun b => O' b ∨ (wr.heap.size ≤ b ∧ b < w9.heap.size), by simp, hlt, fun h => Or.elim h hnD (fun h => by omega), by rw [hx1.out]; exact e3, (e2.block D hDlt hnD).trans HD.out⟩
          have HF := Lib.hid fin
          clear fin hx0 hx1
          cases bub with
          | true =>
            go_wp2_with (first | (at_builtin; go_loud (refine wpl_append1 (d := visK) (S := fun b_ => b_ ≠ B ∧ (O' b_ ∨ wr.heap.size ≤ b_)) (T := fun _ => False) rfl (.tmp 39) (.tmp 41) 67 39 _ 40 rfl Tryz.underlying67 infoVis rfl (by decide) (by decide) (.slice Av ls.length cv) ls x [.int .i64 x.stop.node, .int .i64 x.stop.target, .int .i64 x.stop.related, .int .i64 x.phase, .bool x.cap] rfl (by first | (go_simp; done) | (go_simp; rfl)) rfl (fun _ h => h.elim) ((g5.stp Lime.stp_).mono fun k hk _ => ⟨hk.2, .inl hk.1⟩) (fun k hk => by have := hs8a.size; exact ⟨by omega, .inr (by omega)⟩) hll.out ?_; intro v9 w9 ho9 hg9; obtain ⟨A9, c9, e9⟩ : ∃ A1 c1, v9 = .slice A1 (ls ++ [x]).length c1 := ho9.reads.slice; subst e9; have hf9 := Lib.hid (HF.out _ w9 A9 c9 Lime.stp_ hg9 ho9); have hb9 := Boxed.grown (Boxed.stp g4 Lime.stp_) hg9 hnB; have c9' := Boxed.cell hb9; have f9 := Boxed.frozen hb9)) | (go_at_call 35; refine (visit_x _ ⟨n, g, r⟩ 3 x hx).mono ?_; rintro e w8 ⟨rfl, hb8⟩; have hs8 : Stp wr w8 := Stp.trans Lime.stp_ hb8; have hs8a : Stp wr (w8.alloc (.cells #[.int .i64 x.stop.node, .int .i64 x.stop.target, .int .i64 x.stop.related, .int .i64 x.phase, .bool x.cap] 39)) := hs8.alloc _; have x38 := hs8a.cell x3W; have hB8 := Boxed.stp g4 hs8a; have c8 := Boxed.cell hB8; have f8 := Boxed.frozen hB8))
            go_roundw
            case rel =>
              have h9 := hf9.out
              rw [show (ls ++ [x]).length = ls.length + 1 by simp] at h9
              exact h9
            case measure => simp [intOf]; omega
          | false =>
            have hph : (x.phase == 2) = true := by simpa using hb
            go_wp2_with (first | (at_builtin; go_loud (refine wpl_append1 (d := visK) (S := fun b_ => b_ ≠ B ∧ (O' b_ ∨ wr.heap.size ≤ b_)) (T := fun _ => False) rfl (.tmp 39) (.tmp 41) 67 39 _ 40 rfl Tryz.underlying67 infoVis rfl (by decide) (by decide) (.slice Av ls.length cv) ls x [.int .i64 x.stop.node, .int .i64 x.stop.target, .int .i64 x.stop.related, .int .i64 x.phase, .bool x.cap] rfl (by first | (go_simp; done) | (go_simp; rfl)) rfl (fun _ h => h.elim) ((g5.stp Lime.stp_).mono fun k hk _ => ⟨hk.2, .inl hk.1⟩) (fun k hk => by have := hs8a.size; exact ⟨by omega, .inr (by omega)⟩) hll.out ?_; intro v9 w9 ho9 hg9; obtain ⟨A9, c9, e9⟩ : ∃ A1 c1, v9 = .slice A1 (ls ++ [x]).length c1 := ho9.reads.slice; subst e9; have hf9 := Lib.hid (HF.out _ w9 A9 c9 Lime.stp_ hg9 ho9); have hb9 := Boxed.grown (Boxed.stp g4 Lime.stp_) hg9 hnB; have c9' := Boxed.cell hb9; have f9 := Boxed.frozen hb9)) | (go_at_call 35; refine (visit_x _ ⟨n, g, r⟩ 3 x hx).mono ?_; rintro e w8 ⟨rfl, hb8⟩; have hs8 : Stp wr w8 := Stp.trans Lime.stp_ hb8; have hs8a : Stp wr (w8.alloc (.cells #[.int .i64 x.stop.node, .int .i64 x.stop.target, .int .i64 x.stop.related, .int .i64 x.phase, .bool x.cap] 39)) := hs8.alloc _; have x38 := hs8a.cell x3W; have hB8 := Boxed.stp g4 hs8a; have c8 := Boxed.cell hB8; have f8 := Boxed.frozen hB8))
            go_roundw
            case rel =>
              have h9 := hf9.out
              rw [show (ls ++ [x]).length = ls.length + 1 by simp] at h9
              exact h9
            case measure => simp [intOf]; omega
        · have hx1 := Lib.hid (show l0 ++ ((p.take (k + 1)).map (visOf · 3)).filter (fun x => bub || x.phase == 2) = ls by rw [hx0.out, if_neg hb, List.append_nil])
          obtain rfl : bub = false := by cases bub <;> simp_all
          have hph : (x.phase == 2) = false := by simpa using hb
          go_wp2_with (go_at_call 35; refine (visit_x _ ⟨n, g, r⟩ 3 x hx).mono ?_; rintro e w8 ⟨rfl, hb8⟩; have hs8 : Stp wr w8 := Stp.trans Lime.stp_ hb8; have hs8a : Stp wr (w8.alloc (.cells #[.int .i64 x.stop.node, .int .i64 x.stop.target, .int .i64 x.stop.related, .int .i64 x.phase, .bool x.cap] 39)) := hs8.alloc _; have x38 := hs8a.cell x3W; have hB8 := Boxed.stp g4 hs8a; have c8 := Boxed.cell hB8; have f8 := Boxed.frozen hB8)
          go_roundw
          case rel =>
            refine ⟨k + 1, O', by simp, hlt, hnD, ?_, Stp.heap Lime.stp_ HD.out⟩
            rw [hx1.out]
            exact VisO.abide (fun _ => ls) 0 O' wr _ ⟨g1, g2, g3, _, g4, g5⟩ (Kpt.of_stp Lime.stp_)
          case measure => simp [intOf]; omega
      · have hltz : ¬ (k : Int) < (p.length : Int) := by omega
        obtain rfl : k = p.length := by omega
        rw [List.take_of_length_le (Nat.le_refl _), ← HR.out] at g5
        obtain ⟨Av, cv, rfl, _⟩ := g5.reads.form
        have hcB := Boxed.cell g4
        have hfB := Boxed.frozen g4
        go_wp2
        refine leaves_mark hDW (results_tmp rfl _ _ _) ⟨_, rfl, ?_, ?_⟩
        · exact (g5.move fun k hk _ => World.putObj_heap_other (fun e => hnD (by first | (rw [← e]; exact hk.1) | (rw [e]; exact hk.1)))).mono (S' := fun b => w.heap.size ≤ b) fun k hk _ => by
            have h1 := hwB.out
            have h2 := hsw2.out.size
            rcases g2 k hk.1 with h | h <;> omega
        · exact (((Kpt.of_stp (O := fun _ => False) hsw2.out).trans g3 fun x hx => .inr (by have h1 := hwB.out; have h2 : x = B := hx; omega)).trans (Kpt.put (O := fun b => b = D) wr _ rfl) fun x hx => .inr (by have h2 := hsw2.out.size; have h3 : x = D := hx; omega)).stp fun x h => h.elim
  case hstop =>
    intro D c k O W _ _ h
    exact h.elim
end Go.Proofs.Lime
