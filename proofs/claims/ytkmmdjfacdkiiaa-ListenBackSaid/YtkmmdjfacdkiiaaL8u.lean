/- Walk: who is added, and was not there, is the last one; dropped again, all is as it was. -/
import Derived.Test.YtkmmdjfacdkiiaaL8t
import Derived.Test.YtkmmdjfacdkiiaaHearPure
namespace Go.Proofs.Lime
open Go.RowKit
set_option linter.unusedVariables false
set_option linter.unusedSimpArgs false

section
attribute [local go_sem high] eqHear
set_option maxHeartbeats 2000000 in
theorem back_c {S : Nat → Prop} {w : World} {v : Value} {xs : List Hear} (hr : Row hearK S w v xs) (h : Hear) :
    Calls Try.prog 7 #[v, h.val] w fun e w' => e = .returned (.bool true) ∧ Stp w w' := by
  obtain ⟨A, c, rfl, hc, hm⟩ := hr.form
  by_cases h100 : 100 < xs.length
  · have hz : (100 : Int) < (xs.length : Int) := by omega
    go_enter Try.func7, Try.ntmps7
    go_wp2_with ((go_at_call 8; refine (live_c _).mono ?_; rintro e w1 ⟨rfl, hb1⟩; obtain ⟨hc1, hf1⟩ := hb1.bc; have hz1 := hb1.size; (try simp only [World.size_alloc] at hz1 hc1 hf1)))
    go_ret
    exact ⟨rfl, by (repeat (first | exact Stp.refl _ | assumption | refine Stp.drew ?_ | refine Stp.drewN ?_ _ | refine Stp.alloc ?_ _ | refine Stp.setCell ?_ (by first | omega | (simp; omega) | simp) _ | refine Stp.trans ?_ (by assumption)))⟩
  · have hz : ¬ (100 : Int) < (xs.length : Int) := by omega
    have hl : xs.length ≤ 1000 := by omega
    clear h100
    rcases add_cases xs h with h1 | ⟨h1, h2, h3, h4⟩
    · have ca := fun W (hW : Stp w W) => add_c (hr.stp hW) hl h
      rw [h1] at ca
      clear h1
      generalize hearAddErr xs h = er at ca
      go_enter Try.func7, Try.ntmps7
      go_wp2_with fail
      refine (show Calls Try.prog 9 _ _ _ from ca _ (by (repeat (first | exact Stp.refl _ | assumption | refine Stp.drew ?_ | refine Stp.drewN ?_ _ | refine Stp.alloc ?_ _ | refine Stp.setCell ?_ (by first | omega | (simp; omega) | simp) _ | refine Stp.trans ?_ (by assumption))))).mono ?_
      rintro e w1 ⟨v1, rfl, r1, hb1⟩
      obtain ⟨A1, c1, rfl⟩ := r1.slice
      clear ca
      go_wp2_with fail
      all_goals
        refine (show Calls Try.prog 15 _ _ _ from rsame_yes (r1.stp (by (repeat (first | exact Stp.refl _ | assumption | refine Stp.drew ?_ | refine Stp.drewN ?_ _ | refine Stp.alloc ?_ _ | refine Stp.setCell ?_ (by first | omega | (simp; omega) | simp) _ | refine Stp.trans ?_ (by assumption))))) (hr.stp (by (repeat (first | exact Stp.refl _ | assumption | refine Stp.drew ?_ | refine Stp.drewN ?_ _ | refine Stp.alloc ?_ _ | refine Stp.setCell ?_ (by first | omega | (simp; omega) | simp) _ | refine Stp.trans ?_ (by assumption)))))).mono ?_
        rintro e w2 ⟨rfl, hb2⟩
        go_wp2_with ((go_at_call 8; refine (live_c _).mono ?_; rintro e w3 ⟨rfl, hb3⟩; obtain ⟨hc3, hf3⟩ := hb3.bc; have hz3 := hb3.size; (try simp only [World.size_alloc] at hz3 hc3 hf3)))
        go_ret
        exact ⟨rfl, by (repeat (first | exact Stp.refl _ | assumption | refine Stp.drew ?_ | refine Stp.drewN ?_ _ | refine Stp.alloc ?_ _ | refine Stp.setCell ?_ (by first | omega | (simp; omega) | simp) _ | refine Stp.trans ?_ (by assumption)))⟩
    · have ca := fun W (hW : Stp w W) => add_c (hr.stp hW) hl h
      rw [h3, h4] at ca
      have hd := Lib.hid (drop_back h1 h2)
      clear h1 h2 h3 h4
      go_enter Try.func7, Try.ntmps7
      go_wp2_with fail
      have p0 := box_at w #[.int .i64 h.node, .int .i64 h.type, .bool h.cap, .bool h.once, .int .i64 h.prog] 24 0 _ rfl
      have p1 := box_at w #[.int .i64 h.node, .int .i64 h.type, .bool h.cap, .bool h.once, .int .i64 h.prog] 24 1 _ rfl
      have p2 := box_at w #[.int .i64 h.node, .int .i64 h.type, .bool h.cap, .bool h.once, .int .i64 h.prog] 24 2 _ rfl
      have p3 := box_at w #[.int .i64 h.node, .int .i64 h.type, .bool h.cap, .bool h.once, .int .i64 h.prog] 24 3 _ rfl
      have p4 := box_at w #[.int .i64 h.node, .int .i64 h.type, .bool h.cap, .bool h.once, .int .i64 h.prog] 24 4 _ rfl
      refine (show Calls Try.prog 9 _ _ _ from ca _ (by (repeat (first | exact Stp.refl _ | assumption | refine Stp.drew ?_ | refine Stp.drewN ?_ _ | refine Stp.alloc ?_ _ | refine Stp.setCell ?_ (by first | omega | (simp; omega) | simp) _ | refine Stp.trans ?_ (by assumption))))).mono ?_
      rintro e w1 ⟨v1, rfl, r1, hb1⟩
      clear ca
      obtain ⟨A1, c1, rfl, hc1, hm1⟩ := r1.form
      have r1' := r1
      have e1 : (xs ++ [h]).length = xs.length + 1 := by simp
      rw [e1] at r1 hc1 ⊢
      replace p0 := hb1.cell p0
      replace p1 := hb1.cell p1
      replace p2 := hb1.cell p2
      replace p3 := hb1.cell p3
      replace p4 := hb1.cell p4
      have ht := r1.take xs.length (by omega)
      rw [List.take_left] at ht
      obtain ⟨b, o, rfl, _, hbw, x0, x1, x2, x3, x4⟩ := hear_at r1' xs.length (by omega)
      have e2 : (xs ++ [h])[xs.length]'(by omega) = h := by simp
      rw [e2] at x0 x1 x2 x3 x4
      clear e1 e2 r1'
      have hx1 : xs.length ≤ c1 := by omega
      have hne : ((xs.length : Int) + 1 == (xs.length : Int)) = false := beq_eq_false_iff_ne.2 (by omega)
      go_wp2_with fail
      refine wp_region_plan (Plan.calm 0 (Plan.calm 1 (Plan.calm 2 (Plan.calm 3 (Plan.calm 4 (Plan.calm 5 (Plan.calm 6 (Plan.calm 7 (Plan.calm 8 (Plan.calm 9 (Plan.calm 10 (Plan.calm 11 (Plan.calm 12 (Plan.calm 13 (Plan.calm 14 (Plan.calm 15 (Plan.calm 16 (Plan.calm 17 (Plan.calm 18 (Plan.calm 19 (Plan.calm 20 (Plan.alt 21 (Plan.calm 22 (Plan.calm 23 Plan.done)) Plan.stop)))))))))))))))))))))) (by kernel_rfl) (by kernel_rfl) (by kernel_rfl) ?_
      have hS : Stp w1 w1.drew := (Stp.refl _).drew
      iterate 11 ((first | (refine plan_calm (v := ?_) (by simp only [List.getElem?_toArray, List.getElem?_cons_succ, List.getElem?_cons_zero]; rfl) (by rfl) (fun W hW => ?_) ?_; rotate_left; (focus (first | (go_simp; done) | (go_simp; go_bits; (first | done | with_reducible rfl)) | (go_simp; (repeat rw [if_pos (by omega)]); (first | done | with_reducible rfl)) | (go_simp; with_reducible rfl)))) | (refine plan_calm_skip (by simp only [List.getElem?_toArray, List.getElem?_cons_succ, List.getElem?_cons_zero]; rfl) (by rfl) ?_)); (try simp only [Act.put, List.setIfInBounds_toArray, List.set_cons_zero, List.set_cons_succ]))
      (first | (refine plan_calm (v := ?_) (by simp only [List.getElem?_toArray, List.getElem?_cons_succ, List.getElem?_cons_zero]; rfl) (by rfl) (fun W hW => ?_) ?_; rotate_left; (focus (have q0_ := (hS.trans hW).cell p0; have q1_ := (hS.trans hW).cell p1; have q2_ := (hS.trans hW).cell p2; have q3_ := (hS.trans hW).cell p3; have q4_ := (hS.trans hW).cell p4; have q5_ := (hS.trans hW).cell x0; have q6_ := (hS.trans hW).cell x1; have q7_ := (hS.trans hW).cell x2; have q8_ := (hS.trans hW).cell x3; have q9_ := (hS.trans hW).cell x4; clear hW; (first | (go_simp; done) | (go_simp; go_bits; (first | done | with_reducible rfl)) | (go_simp; (repeat rw [if_pos (by omega)]); (first | done | with_reducible rfl)) | (go_simp; with_reducible rfl))))) | (refine plan_calm_skip (by simp only [List.getElem?_toArray, List.getElem?_cons_succ, List.getElem?_cons_zero]; rfl) (by rfl) ?_)); (try simp only [Act.put, List.setIfInBounds_toArray, List.set_cons_zero, List.set_cons_succ])
      (first | (refine plan_calm (v := ?_) (by simp only [List.getElem?_toArray, List.getElem?_cons_succ, List.getElem?_cons_zero]; rfl) (by rfl) (fun W hW => ?_) ?_; rotate_left; (focus (have q0_ := (hS.trans hW).cell p0; have q1_ := (hS.trans hW).cell p1; have q2_ := (hS.trans hW).cell p2; have q3_ := (hS.trans hW).cell p3; have q4_ := (hS.trans hW).cell p4; have q5_ := (hS.trans hW).cell x0; have q6_ := (hS.trans hW).cell x1; have q7_ := (hS.trans hW).cell x2; have q8_ := (hS.trans hW).cell x3; have q9_ := (hS.trans hW).cell x4; clear hW; (first | (go_simp; done) | (go_simp; go_bits; (first | done | with_reducible rfl)) | (go_simp; (repeat rw [if_pos (by omega)]); (first | done | with_reducible rfl)) | (go_simp; with_reducible rfl))))) | (refine plan_calm_skip (by simp only [List.getElem?_toArray, List.getElem?_cons_succ, List.getElem?_cons_zero]; rfl) (by rfl) ?_)); (try simp only [Act.put, List.setIfInBounds_toArray, List.set_cons_zero, List.set_cons_succ])
      iterate 8 ((first | (refine plan_calm (v := ?_) (by simp only [List.getElem?_toArray, List.getElem?_cons_succ, List.getElem?_cons_zero]; rfl) (by rfl) (fun W hW => ?_) ?_; rotate_left; (focus (first | (go_simp; done) | (go_simp; go_bits; (first | done | with_reducible rfl)) | (go_simp; (repeat rw [if_pos (by omega)]); (first | done | with_reducible rfl)) | (go_simp; with_reducible rfl)))) | (refine plan_calm_skip (by simp only [List.getElem?_toArray, List.getElem?_cons_succ, List.getElem?_cons_zero]; rfl) (by rfl) ?_)); (try simp only [Act.put, List.setIfInBounds_toArray, List.set_cons_zero, List.set_cons_succ]))
      (first | (refine plan_event (by simp only [List.getElem?_toArray, List.getElem?_cons_succ, List.getElem?_cons_zero]; rfl) (by rfl) (fun K hK => ?_) plan_stop; go_simp; refine (rsame_yes (ht.stp (by (repeat (first | exact Stp.refl _ | assumption | refine Stp.drew ?_ | refine Stp.drewN ?_ _ | refine Stp.alloc ?_ _ | refine Stp.setCell ?_ (by first | omega | (simp; omega) | simp) _ | refine Stp.trans ?_ (by assumption))))) (hr.stp (by (repeat (first | exact Stp.refl _ | assumption | refine Stp.drew ?_ | refine Stp.drewN ?_ _ | refine Stp.alloc ?_ _ | refine Stp.setCell ?_ (by first | omega | (simp; omega) | simp) _ | refine Stp.trans ?_ (by assumption)))))).mono ?_; rintro e w2 ⟨rfl, hb2⟩; refine hK _ _ ?_ (fun hst => ?_); (focus (repeat (first | exact Stp.refl _ | assumption | refine Stp.drew ?_ | refine Stp.drewN ?_ _ | refine Stp.alloc ?_ _ | refine Stp.setCell ?_ (by first | omega | (simp; omega) | simp) _ | refine Stp.trans ?_ (by assumption)))); replace hS := hS.trans hst; clear hst hK K) | refine plan_event_skip (by simp only [List.getElem?_toArray, List.getElem?_cons_succ, List.getElem?_cons_zero]; rfl) (by rfl) ?_ plan_stop); (try simp only [Act.put, List.setIfInBounds_toArray, List.set_cons_zero, List.set_cons_succ])
      iterate 2 ((first | (refine plan_calm (v := ?_) (by simp only [List.getElem?_toArray, List.getElem?_cons_succ, List.getElem?_cons_zero]; rfl) (by rfl) (fun W hW => ?_) ?_; rotate_left; (focus (first | (go_simp; done) | (go_simp; go_bits; (first | done | with_reducible rfl)) | (go_simp; (repeat rw [if_pos (by omega)]); (first | done | with_reducible rfl)) | (go_simp; with_reducible rfl)))) | (refine plan_calm_skip (by simp only [List.getElem?_toArray, List.getElem?_cons_succ, List.getElem?_cons_zero]; rfl) (by rfl) ?_)); (try simp only [Act.put, List.setIfInBounds_toArray, List.set_cons_zero, List.set_cons_succ]))
      refine plan_done ?_
      replace p0 := hS.cell p0
      replace p1 := hS.cell p1
      replace p2 := hS.cell p2
      replace p3 := hS.cell p3
      replace p4 := hS.cell p4
      clear x0 x1 x2 x3 x4
      have r1' := r1.stp hS
      clear r1
      go_wp2_with fail
      refine (show Calls Try.prog 11 _ _ _ from drop_c (r1'.stp (by (repeat (first | exact Stp.refl _ | assumption | refine Stp.drew ?_ | refine Stp.drewN ?_ _ | refine Stp.alloc ?_ _ | refine Stp.setCell ?_ (by first | omega | (simp; omega) | simp) _ | refine Stp.trans ?_ (by assumption))))) (by simp; omega) h).mono ?_
      rintro e w3 ⟨v3, rfl, r3, hb3⟩
      rw [hd.out.1] at r3
      rw [hd.out.2]
      obtain ⟨A3, c3, rfl⟩ := r3.slice
      go_wp2_with fail
      refine (show Calls Try.prog 15 _ _ _ from rsame_yes (r3.stp (by (repeat (first | exact Stp.refl _ | assumption | refine Stp.drew ?_ | refine Stp.drewN ?_ _ | refine Stp.alloc ?_ _ | refine Stp.setCell ?_ (by first | omega | (simp; omega) | simp) _ | refine Stp.trans ?_ (by assumption))))) (hr.stp (by (repeat (first | exact Stp.refl _ | assumption | refine Stp.drew ?_ | refine Stp.drewN ?_ _ | refine Stp.alloc ?_ _ | refine Stp.setCell ?_ (by first | omega | (simp; omega) | simp) _ | refine Stp.trans ?_ (by assumption)))))).mono ?_
      rintro e w4 ⟨rfl, hb4⟩
      go_wp2_with ((go_at_call 8; refine (live_c _).mono ?_; rintro e w5 ⟨rfl, hb5⟩; obtain ⟨hc5, hf5⟩ := hb5.bc; have hz5 := hb5.size; (try simp only [World.size_alloc] at hz5 hc5 hf5)))
      go_ret
      exact ⟨rfl, by (repeat (first | exact Stp.refl _ | assumption | refine Stp.drew ?_ | refine Stp.drewN ?_ _ | refine Stp.alloc ?_ _ | refine Stp.setCell ?_ (by first | omega | (simp; omega) | simp) _ | refine Stp.trans ?_ (by assumption)))⟩
end
end Go.Proofs.Lime
