/- Walks: the laws that hold the program's listeners against the document's. -/
import Derived.Test.YtkmmdjfacdkiiaaL8live
namespace Go.Proofs.Lime
open Go.RowKit
set_option linter.unusedVariables false
set_option linter.unusedSimpArgs false

theorem box_at (w : World) (cs : Array Value) (t : TypeId) (i : Nat) (u : Value) (h : cs[i]? = some u) : (w.alloc (.cells cs t)).cell? ⟨w.heap.size, i, none⟩ = some u := (box_cell w cs t i).trans h
theorem sameFrom_refl (xs : List Hear) : (xs.length == xs.length && sameFrom xs xs) = true := by
  rw [beq_self_eq_true, Bool.true_and]
  induction xs with
  | nil => rfl
  | cons x xs ih => simp [sameFrom, Hear.same, ih]
theorem rsame_yes {S T : Nat → Prop} {w : World} {v u : Value} {xs : List Hear} (hr : Row hearK S w v xs) (hu : Row hearK T w u xs) :
    Calls Try.prog 15 #[v, u] w fun e w' => e = .returned (.bool true) ∧ Stp w w' :=
  (rsame_c hr hu).mono fun e w' h => by rw [sameFrom_refl] at h; exact h

set_option maxHeartbeats 2000000 in
theorem tells_c {S : Nat → Prop} {w : World} {v : Value} {xs : List Hear} (hr : Row hearK S w v xs) (h : Hear) (nodes : Int) :
    Calls Try.prog 3 #[v, h.val, .int .i64 nodes] w fun e w' => e = .returned (.bool true) ∧ Stp w w' := by
  obtain ⟨A, c, rfl, hc, hm⟩ := hr.form
  by_cases h100 : 100 < xs.length
  · have hz : (100 : Int) < (xs.length : Int) := by omega
    go_enter Try.func3, Try.ntmps3
    go_wp2_with ((go_at_call 8; refine (live_c _).mono ?_; rintro e w1 ⟨rfl, hb1⟩; obtain ⟨hc1, hf1⟩ := hb1.bc; have hz1 := hb1.size; (try simp only [World.size_alloc] at hz1 hc1 hf1)))
    go_ret
    exact ⟨rfl, by (repeat (first | exact Stp.refl _ | assumption | refine Stp.drew ?_ | refine Stp.drewN ?_ _ | refine Stp.alloc ?_ _ | refine Stp.setCell ?_ (by first | omega | (simp; omega) | simp) _ | refine Stp.trans ?_ (by assumption)))⟩
  · have hz : ¬ (100 : Int) < (xs.length : Int) := by omega
    have hl : xs.length ≤ 1000 := by omega
    clear h100
    go_enter Try.func3, Try.ntmps3
    go_wp2_with fail
    have p0 := box_at w #[.int .i64 h.node, .int .i64 h.type, .bool h.cap, .bool h.once, .int .i64 h.prog] 24 0 _ rfl
    have p1 := box_at w #[.int .i64 h.node, .int .i64 h.type, .bool h.cap, .bool h.once, .int .i64 h.prog] 24 1 _ rfl
    have p2 := box_at w #[.int .i64 h.node, .int .i64 h.type, .bool h.cap, .bool h.once, .int .i64 h.prog] 24 2 _ rfl
    have p3 := box_at w #[.int .i64 h.node, .int .i64 h.type, .bool h.cap, .bool h.once, .int .i64 h.prog] 24 3 _ rfl
    have p4 := box_at w #[.int .i64 h.node, .int .i64 h.type, .bool h.cap, .bool h.once, .int .i64 h.prog] 24 4 _ rfl
    refine (show Calls Try.prog 9 _ _ _ from add_c (hr.stp (by (repeat (first | exact Stp.refl _ | assumption | refine Stp.drew ?_ | refine Stp.drewN ?_ _ | refine Stp.alloc ?_ _ | refine Stp.setCell ?_ (by first | omega | (simp; omega) | simp) _ | refine Stp.trans ?_ (by assumption))))) hl h).mono ?_
    rintro e w1 ⟨v1, rfl, r1, hb1⟩
    obtain ⟨A1, c1, rfl⟩ := r1.slice
    replace p0 := hb1.cell p0
    replace p1 := hb1.cell p1
    replace p2 := hb1.cell p2
    replace p3 := hb1.cell p3
    replace p4 := hb1.cell p4
    go_wp2_with fail
    refine (show Calls Try.prog 10 _ _ _ from radd_c (hr.stp (by (repeat (first | exact Stp.refl _ | assumption | refine Stp.drew ?_ | refine Stp.drewN ?_ _ | refine Stp.alloc ?_ _ | refine Stp.setCell ?_ (by first | omega | (simp; omega) | simp) _ | refine Stp.trans ?_ (by assumption))))) hl h).mono ?_
    rintro e w2 ⟨v2, rfl, r2, hb2⟩
    generalize hearAdd xs h = la at r1 r2
    generalize hearAddErr xs h = ka
    obtain ⟨A2, c2, rfl⟩ := r2.slice
    replace p0 := hb2.cell p0
    replace p1 := hb2.cell p1
    replace p2 := hb2.cell p2
    replace p3 := hb2.cell p3
    replace p4 := hb2.cell p4
    go_wp2_with fail
    refine (show Calls Try.prog 11 _ _ _ from drop_c (hr.stp (by (repeat (first | exact Stp.refl _ | assumption | refine Stp.drew ?_ | refine Stp.drewN ?_ _ | refine Stp.alloc ?_ _ | refine Stp.setCell ?_ (by first | omega | (simp; omega) | simp) _ | refine Stp.trans ?_ (by assumption))))) hl h).mono ?_
    rintro e w3 ⟨v3, rfl, r3, hb3⟩
    obtain ⟨A3, c3, rfl⟩ := r3.slice
    replace p0 := hb3.cell p0
    replace p1 := hb3.cell p1
    replace p2 := hb3.cell p2
    replace p3 := hb3.cell p3
    replace p4 := hb3.cell p4
    go_wp2_with fail
    refine (show Calls Try.prog 12 _ _ _ from rdrop_c (hr.stp (by (repeat (first | exact Stp.refl _ | assumption | refine Stp.drew ?_ | refine Stp.drewN ?_ _ | refine Stp.alloc ?_ _ | refine Stp.setCell ?_ (by first | omega | (simp; omega) | simp) _ | refine Stp.trans ?_ (by assumption))))) hl h).mono ?_
    rintro e w4 ⟨v4, rfl, r4, hb4⟩
    generalize hearDrop xs h = ld at r3 r4
    generalize hearDropErr xs h = kd
    obtain ⟨A4, c4, rfl⟩ := r4.slice
    clear p0 p1 p2 p3 p4
    go_wp2_with fail
    refine (show Calls Try.prog 13 _ _ _ from check_c (hr.stp (by (repeat (first | exact Stp.refl _ | assumption | refine Stp.drew ?_ | refine Stp.drewN ?_ _ | refine Stp.alloc ?_ _ | refine Stp.setCell ?_ (by first | omega | (simp; omega) | simp) _ | refine Stp.trans ?_ (by assumption))))) nodes).mono ?_
    rintro e w5 ⟨rfl, hb5⟩
    go_wp2_with fail
    refine (show Calls Try.prog 14 _ _ _ from rcheck_c (hr.stp (by (repeat (first | exact Stp.refl _ | assumption | refine Stp.drew ?_ | refine Stp.drewN ?_ _ | refine Stp.alloc ?_ _ | refine Stp.setCell ?_ (by first | omega | (simp; omega) | simp) _ | refine Stp.trans ?_ (by assumption))))) nodes).mono ?_
    rintro e w6 ⟨rfl, hb6⟩
    generalize hearCheck xs nodes = n0
    go_wp2_with fail
    refine (show Calls Try.prog 15 _ _ _ from rsame_yes (r1.stp (by (repeat (first | exact Stp.refl _ | assumption | refine Stp.drew ?_ | refine Stp.drewN ?_ _ | refine Stp.alloc ?_ _ | refine Stp.setCell ?_ (by first | omega | (simp; omega) | simp) _ | refine Stp.trans ?_ (by assumption))))) (r2.stp (by (repeat (first | exact Stp.refl _ | assumption | refine Stp.drew ?_ | refine Stp.drewN ?_ _ | refine Stp.alloc ?_ _ | refine Stp.setCell ?_ (by first | omega | (simp; omega) | simp) _ | refine Stp.trans ?_ (by assumption)))))).mono ?_
    rintro e w7 ⟨rfl, hb7⟩
    go_wp2_with fail
    refine (show Calls Try.prog 15 _ _ _ from rsame_yes (r3.stp (by (repeat (first | exact Stp.refl _ | assumption | refine Stp.drew ?_ | refine Stp.drewN ?_ _ | refine Stp.alloc ?_ _ | refine Stp.setCell ?_ (by first | omega | (simp; omega) | simp) _ | refine Stp.trans ?_ (by assumption))))) (r4.stp (by (repeat (first | exact Stp.refl _ | assumption | refine Stp.drew ?_ | refine Stp.drewN ?_ _ | refine Stp.alloc ?_ _ | refine Stp.setCell ?_ (by first | omega | (simp; omega) | simp) _ | refine Stp.trans ?_ (by assumption)))))).mono ?_
    rintro e w8 ⟨rfl, hb8⟩
    go_wp2_with fail
    refine (show Calls Try.prog 8 _ _ _ from live_c _).mono ?_
    rintro e w9 ⟨rfl, hb9⟩
    go_wp2
    go_ret
    exact ⟨rfl, by (repeat (first | exact Stp.refl _ | assumption | refine Stp.drew ?_ | refine Stp.drewN ?_ _ | refine Stp.alloc ?_ _ | refine Stp.setCell ?_ (by first | omega | (simp; omega) | simp) _ | refine Stp.trans ?_ (by assumption)))⟩

set_option maxHeartbeats 2000000 in
theorem forlaw_c {S : Nat → Prop} {w : World} {v : Value} {xs : List Hear} (hr : Row hearK S w v xs) (h : Hear) :
    Calls Try.prog 4 #[v, h.val] w fun e w' => e = .returned (.bool true) ∧ Stp w w' := by
  obtain ⟨A, c, rfl, hc, hm⟩ := hr.form
  by_cases h100 : 100 < xs.length
  · have hz : (100 : Int) < (xs.length : Int) := by omega
    go_enter Try.func4, Try.ntmps4
    go_wp2_with ((go_at_call 8; refine (live_c _).mono ?_; rintro e w1 ⟨rfl, hb1⟩; obtain ⟨hc1, hf1⟩ := hb1.bc; have hz1 := hb1.size; (try simp only [World.size_alloc] at hz1 hc1 hf1)))
    go_ret
    exact ⟨rfl, by (repeat (first | exact Stp.refl _ | assumption | refine Stp.drew ?_ | refine Stp.drewN ?_ _ | refine Stp.alloc ?_ _ | refine Stp.setCell ?_ (by first | omega | (simp; omega) | simp) _ | refine Stp.trans ?_ (by assumption)))⟩
  · have hz : ¬ (100 : Int) < (xs.length : Int) := by omega
    have hl : xs.length ≤ 1000 := by omega
    clear h100
    go_enter Try.func4, Try.ntmps4
    go_wp2
    obtain ⟨w1, hw1, hb1, hz1, gc⟩ := box_named w #[.int .i64 h.node, .int .i64 h.type, .bool h.cap, .bool h.once, .int .i64 h.prog] 24
    have g0 := gc 0 _ rfl
    have g1 := gc 1 _ rfl
    have g2 := gc 2 _ rfl
    rw [hw1]
    clear hw1 gc
    refine wp_region_plan (Plan.calm 0 (Plan.calm 1 (Plan.calm 2 (Plan.calm 3 (Plan.calm 4 (Plan.calm 5 (Plan.calm 6 (Plan.calm 8 (Plan.calm 9 (Plan.calm 10 (Plan.calm 11 (Plan.calm 12 (Plan.calm 13 (Plan.calm 14 (Plan.alt 7 (Plan.alt 15 (Plan.alt 16 (Plan.calm 17 (Plan.alt 18 (Plan.calm 19 (Plan.calm 20 Plan.done)) Plan.stop)) Plan.stop) Plan.stop) Plan.stop))))))))))))))) (by kernel_rfl) (by kernel_rfl) (by kernel_rfl) ?_
    have hS : Stp w1 w1.drew := (Stp.refl _).drew
    iterate 2 ((first | (refine plan_calm (v := ?_) (by simp only [List.getElem?_toArray, List.getElem?_cons_succ, List.getElem?_cons_zero]; rfl) (by rfl) (fun W hW => ?_) ?_; rotate_left; (focus (first | (go_simp; done) | (go_simp; with_reducible rfl)))) | (refine plan_calm_skip (by simp only [List.getElem?_toArray, List.getElem?_cons_succ, List.getElem?_cons_zero]; rfl) (by rfl) ?_)); (try simp only [Act.put, List.setIfInBounds_toArray, List.set_cons_zero, List.set_cons_succ]))
    (first | (refine plan_calm (v := ?_) (by simp only [List.getElem?_toArray, List.getElem?_cons_succ, List.getElem?_cons_zero]; rfl) (by rfl) (fun W hW => ?_) ?_; rotate_left; (focus (have q0_ := (hS.trans hW).cell g0; have q1_ := (hS.trans hW).cell g1; have q2_ := (hS.trans hW).cell g2; clear hW; (first | (go_simp; done) | (go_simp; with_reducible rfl))))) | (refine plan_calm_skip (by simp only [List.getElem?_toArray, List.getElem?_cons_succ, List.getElem?_cons_zero]; rfl) (by rfl) ?_)); (try simp only [Act.put, List.setIfInBounds_toArray, List.set_cons_zero, List.set_cons_succ])
    (first | (refine plan_calm (v := ?_) (by simp only [List.getElem?_toArray, List.getElem?_cons_succ, List.getElem?_cons_zero]; rfl) (by rfl) (fun W hW => ?_) ?_; rotate_left; (focus (first | (go_simp; done) | (go_simp; with_reducible rfl)))) | (refine plan_calm_skip (by simp only [List.getElem?_toArray, List.getElem?_cons_succ, List.getElem?_cons_zero]; rfl) (by rfl) ?_)); (try simp only [Act.put, List.setIfInBounds_toArray, List.set_cons_zero, List.set_cons_succ])
    (first | (refine plan_calm (v := ?_) (by simp only [List.getElem?_toArray, List.getElem?_cons_succ, List.getElem?_cons_zero]; rfl) (by rfl) (fun W hW => ?_) ?_; rotate_left; (focus (have q0_ := (hS.trans hW).cell g0; have q1_ := (hS.trans hW).cell g1; have q2_ := (hS.trans hW).cell g2; clear hW; (first | (go_simp; done) | (go_simp; with_reducible rfl))))) | (refine plan_calm_skip (by simp only [List.getElem?_toArray, List.getElem?_cons_succ, List.getElem?_cons_zero]; rfl) (by rfl) ?_)); (try simp only [Act.put, List.setIfInBounds_toArray, List.set_cons_zero, List.set_cons_succ])
    (first | (refine plan_calm (v := ?_) (by simp only [List.getElem?_toArray, List.getElem?_cons_succ, List.getElem?_cons_zero]; rfl) (by rfl) (fun W hW => ?_) ?_; rotate_left; (focus (first | (go_simp; done) | (go_simp; with_reducible rfl)))) | (refine plan_calm_skip (by simp only [List.getElem?_toArray, List.getElem?_cons_succ, List.getElem?_cons_zero]; rfl) (by rfl) ?_)); (try simp only [Act.put, List.setIfInBounds_toArray, List.set_cons_zero, List.set_cons_succ])
    (first | (refine plan_calm (v := ?_) (by simp only [List.getElem?_toArray, List.getElem?_cons_succ, List.getElem?_cons_zero]; rfl) (by rfl) (fun W hW => ?_) ?_; rotate_left; (focus (have q0_ := (hS.trans hW).cell g0; have q1_ := (hS.trans hW).cell g1; have q2_ := (hS.trans hW).cell g2; clear hW; (first | (go_simp; done) | (go_simp; with_reducible rfl))))) | (refine plan_calm_skip (by simp only [List.getElem?_toArray, List.getElem?_cons_succ, List.getElem?_cons_zero]; rfl) (by rfl) ?_)); (try simp only [Act.put, List.setIfInBounds_toArray, List.set_cons_zero, List.set_cons_succ])
    iterate 2 ((first | (refine plan_calm (v := ?_) (by simp only [List.getElem?_toArray, List.getElem?_cons_succ, List.getElem?_cons_zero]; rfl) (by rfl) (fun W hW => ?_) ?_; rotate_left; (focus (first | (go_simp; done) | (go_simp; with_reducible rfl)))) | (refine plan_calm_skip (by simp only [List.getElem?_toArray, List.getElem?_cons_succ, List.getElem?_cons_zero]; rfl) (by rfl) ?_)); (try simp only [Act.put, List.setIfInBounds_toArray, List.set_cons_zero, List.set_cons_succ]))
    (first | (refine plan_calm (v := ?_) (by simp only [List.getElem?_toArray, List.getElem?_cons_succ, List.getElem?_cons_zero]; rfl) (by rfl) (fun W hW => ?_) ?_; rotate_left; (focus (have q0_ := (hS.trans hW).cell g0; have q1_ := (hS.trans hW).cell g1; have q2_ := (hS.trans hW).cell g2; clear hW; (first | (go_simp; done) | (go_simp; with_reducible rfl))))) | (refine plan_calm_skip (by simp only [List.getElem?_toArray, List.getElem?_cons_succ, List.getElem?_cons_zero]; rfl) (by rfl) ?_)); (try simp only [Act.put, List.setIfInBounds_toArray, List.set_cons_zero, List.set_cons_succ])
    (first | (refine plan_calm (v := ?_) (by simp only [List.getElem?_toArray, List.getElem?_cons_succ, List.getElem?_cons_zero]; rfl) (by rfl) (fun W hW => ?_) ?_; rotate_left; (focus (first | (go_simp; done) | (go_simp; with_reducible rfl)))) | (refine plan_calm_skip (by simp only [List.getElem?_toArray, List.getElem?_cons_succ, List.getElem?_cons_zero]; rfl) (by rfl) ?_)); (try simp only [Act.put, List.setIfInBounds_toArray, List.set_cons_zero, List.set_cons_succ])
    (first | (refine plan_calm (v := ?_) (by simp only [List.getElem?_toArray, List.getElem?_cons_succ, List.getElem?_cons_zero]; rfl) (by rfl) (fun W hW => ?_) ?_; rotate_left; (focus (have q0_ := (hS.trans hW).cell g0; have q1_ := (hS.trans hW).cell g1; have q2_ := (hS.trans hW).cell g2; clear hW; (first | (go_simp; done) | (go_simp; with_reducible rfl))))) | (refine plan_calm_skip (by simp only [List.getElem?_toArray, List.getElem?_cons_succ, List.getElem?_cons_zero]; rfl) (by rfl) ?_)); (try simp only [Act.put, List.setIfInBounds_toArray, List.set_cons_zero, List.set_cons_succ])
    (first | (refine plan_calm (v := ?_) (by simp only [List.getElem?_toArray, List.getElem?_cons_succ, List.getElem?_cons_zero]; rfl) (by rfl) (fun W hW => ?_) ?_; rotate_left; (focus (first | (go_simp; done) | (go_simp; with_reducible rfl)))) | (refine plan_calm_skip (by simp only [List.getElem?_toArray, List.getElem?_cons_succ, List.getElem?_cons_zero]; rfl) (by rfl) ?_)); (try simp only [Act.put, List.setIfInBounds_toArray, List.set_cons_zero, List.set_cons_succ])
    (first | (refine plan_calm (v := ?_) (by simp only [List.getElem?_toArray, List.getElem?_cons_succ, List.getElem?_cons_zero]; rfl) (by rfl) (fun W hW => ?_) ?_; rotate_left; (focus (have q0_ := (hS.trans hW).cell g0; have q1_ := (hS.trans hW).cell g1; have q2_ := (hS.trans hW).cell g2; clear hW; (first | (go_simp; done) | (go_simp; with_reducible rfl))))) | (refine plan_calm_skip (by simp only [List.getElem?_toArray, List.getElem?_cons_succ, List.getElem?_cons_zero]; rfl) (by rfl) ?_)); (try simp only [Act.put, List.setIfInBounds_toArray, List.set_cons_zero, List.set_cons_succ])
    (first | (refine plan_event (by simp only [List.getElem?_toArray, List.getElem?_cons_succ, List.getElem?_cons_zero]; rfl) (by rfl) (fun K hK => ?_) plan_stop; go_simp; refine (for_c (hr.stp (by (repeat (first | exact Stp.refl _ | assumption | refine Stp.drew ?_ | refine Stp.drewN ?_ _ | refine Stp.alloc ?_ _ | refine Stp.setCell ?_ (by first | omega | (simp; omega) | simp) _ | refine Stp.trans ?_ (by assumption))))) hl h.node h.type h.cap).mono ?_; rintro e w2 ⟨v2, rfl, o2, hb2⟩; obtain ⟨A2, c2, rfl⟩ := o2.reads.slice; refine hK _ _ ?_ (fun hst => ?_); (focus (repeat (first | exact Stp.refl _ | assumption | refine Stp.drew ?_ | refine Stp.drewN ?_ _ | refine Stp.alloc ?_ _ | refine Stp.setCell ?_ (by first | omega | (simp; omega) | simp) _ | refine Stp.trans ?_ (by assumption)))); replace hS := hS.trans hst; clear hst hK K) | refine plan_event_skip (by simp only [List.getElem?_toArray, List.getElem?_cons_succ, List.getElem?_cons_zero]; rfl) (by rfl) ?_ plan_stop); (try simp only [Act.put, List.setIfInBounds_toArray, List.set_cons_zero, List.set_cons_succ])
    (first | (refine plan_event (by simp only [List.getElem?_toArray, List.getElem?_cons_succ, List.getElem?_cons_zero]; rfl) (by rfl) (fun K hK => ?_) plan_stop; go_simp; refine (rfor_c (hr.stp (by (repeat (first | exact Stp.refl _ | assumption | refine Stp.drew ?_ | refine Stp.drewN ?_ _ | refine Stp.alloc ?_ _ | refine Stp.setCell ?_ (by first | omega | (simp; omega) | simp) _ | refine Stp.trans ?_ (by assumption))))) hl h.node h.type h.cap).mono ?_; rintro e w3 ⟨v3, rfl, o3, hb3⟩; obtain ⟨A3, c3, rfl⟩ := o3.reads.slice; refine hK _ _ ?_ (fun hst => ?_); (focus (repeat (first | exact Stp.refl _ | assumption | refine Stp.drew ?_ | refine Stp.drewN ?_ _ | refine Stp.alloc ?_ _ | refine Stp.setCell ?_ (by first | omega | (simp; omega) | simp) _ | refine Stp.trans ?_ (by assumption)))); replace hS := hS.trans hst; clear hst hK K) | refine plan_event_skip (by simp only [List.getElem?_toArray, List.getElem?_cons_succ, List.getElem?_cons_zero]; rfl) (by rfl) ?_ plan_stop); (try simp only [Act.put, List.setIfInBounds_toArray, List.set_cons_zero, List.set_cons_succ])
    (first | (refine plan_event (by simp only [List.getElem?_toArray, List.getElem?_cons_succ, List.getElem?_cons_zero]; rfl) (by rfl) (fun K hK => ?_) plan_stop; go_simp; refine (rsame_yes (o2.reads.stp (by (repeat (first | exact Stp.refl _ | assumption | refine Stp.drew ?_ | refine Stp.drewN ?_ _ | refine Stp.alloc ?_ _ | refine Stp.setCell ?_ (by first | omega | (simp; omega) | simp) _ | refine Stp.trans ?_ (by assumption))))) (o3.reads.stp (by (repeat (first | exact Stp.refl _ | assumption | refine Stp.drew ?_ | refine Stp.drewN ?_ _ | refine Stp.alloc ?_ _ | refine Stp.setCell ?_ (by first | omega | (simp; omega) | simp) _ | refine Stp.trans ?_ (by assumption)))))).mono ?_; rintro e w4 ⟨rfl, hb4⟩; refine hK _ _ ?_ (fun hst => ?_); (focus (repeat (first | exact Stp.refl _ | assumption | refine Stp.drew ?_ | refine Stp.drewN ?_ _ | refine Stp.alloc ?_ _ | refine Stp.setCell ?_ (by first | omega | (simp; omega) | simp) _ | refine Stp.trans ?_ (by assumption)))); replace hS := hS.trans hst; clear hst hK K) | refine plan_event_skip (by simp only [List.getElem?_toArray, List.getElem?_cons_succ, List.getElem?_cons_zero]; rfl) (by rfl) ?_ plan_stop); (try simp only [Act.put, List.setIfInBounds_toArray, List.set_cons_zero, List.set_cons_succ])
    (first | (refine plan_calm (v := ?_) (by simp only [List.getElem?_toArray, List.getElem?_cons_succ, List.getElem?_cons_zero]; rfl) (by rfl) (fun W hW => ?_) ?_; rotate_left; (focus (first | (go_simp; done) | (go_simp; with_reducible rfl)))) | (refine plan_calm_skip (by simp only [List.getElem?_toArray, List.getElem?_cons_succ, List.getElem?_cons_zero]; rfl) (by rfl) ?_)); (try simp only [Act.put, List.setIfInBounds_toArray, List.set_cons_zero, List.set_cons_succ])
    (first | (refine plan_event (by simp only [List.getElem?_toArray, List.getElem?_cons_succ, List.getElem?_cons_zero]; rfl) (by rfl) (fun K hK => ?_) plan_stop; go_simp; refine (live_c _).mono ?_; rintro e w5 ⟨rfl, hb5⟩; refine hK _ _ ?_ (fun hst => ?_); (focus (repeat (first | exact Stp.refl _ | assumption | refine Stp.drew ?_ | refine Stp.drewN ?_ _ | refine Stp.alloc ?_ _ | refine Stp.setCell ?_ (by first | omega | (simp; omega) | simp) _ | refine Stp.trans ?_ (by assumption)))); replace hS := hS.trans hst; clear hst hK K) | refine plan_event_skip (by simp only [List.getElem?_toArray, List.getElem?_cons_succ, List.getElem?_cons_zero]; rfl) (by rfl) ?_ plan_stop); (try simp only [Act.put, List.setIfInBounds_toArray, List.set_cons_zero, List.set_cons_succ])
    iterate 2 ((first | (refine plan_calm (v := ?_) (by simp only [List.getElem?_toArray, List.getElem?_cons_succ, List.getElem?_cons_zero]; rfl) (by rfl) (fun W hW => ?_) ?_; rotate_left; (focus (first | (go_simp; done) | (go_simp; with_reducible rfl)))) | (refine plan_calm_skip (by simp only [List.getElem?_toArray, List.getElem?_cons_succ, List.getElem?_cons_zero]; rfl) (by rfl) ?_)); (try simp only [Act.put, List.setIfInBounds_toArray, List.set_cons_zero, List.set_cons_succ]))
    refine plan_done ?_
    go_wp2
    go_ret
    exact ⟨rfl, by (repeat (first | exact Stp.refl _ | assumption | refine Stp.drew ?_ | refine Stp.drewN ?_ _ | refine Stp.alloc ?_ _ | refine Stp.setCell ?_ (by first | omega | (simp; omega) | simp) _ | refine Stp.trans ?_ (by assumption)))⟩
end Go.Proofs.Lime
