/- Walks: may listeners be. -/
import Derived.Test.YtkmmdjfacdkiiaaL8c
import Derived.Test.YtkmmdjfacdkiiaaRegion
namespace Go.Proofs.Lime
open Go.RowKit
set_option linter.unusedVariables false
set_option linter.unusedSimpArgs false

theorem hearCheck_64 {l : List Hear} {n : Int} (h : 64 < l.length) : hearCheck l n = 1 := by simp [hearCheck, h]
theorem hearCheck_bad {l : List Hear} {n : Int} (h : badFrom [] l = true) : hearCheck l n = 1 := by simp [hearCheck, h]
theorem hearCheck_ok {l : List Hear} {n : Int} (h : ¬ 64 < l.length) (hb : badFrom [] l = false) : hearCheck l n = if l.any (fun h => decide (n ≤ h.node)) then 2 else 0 := by simp [hearCheck, h, hb]

set_option maxHeartbeats 1000000 in
theorem check_c {S : Nat → Prop} {w : World} {v : Value} {xs : List Hear} (hr : Row hearK S w v xs) (nodes : Int) :
    Calls Try.prog 13 #[v, .int .i64 nodes] w fun e w' => e = .returned (.int .i64 (hearCheck xs nodes)) ∧ Stp w w' := by
  obtain ⟨A, c, rfl, hc, hm⟩ := hr.form
  by_cases h64 : 64 < xs.length
  · have h64z : (64 : Int) < (xs.length : Int) := by omega
    rw [hearCheck_64 h64]
    clear h64
    go_enter Try.func13, Try.ntmps13
    go_wp2
    go_ret
    exact ⟨rfl, by (repeat (first | exact Stp.refl _ | assumption | refine Stp.drew ?_ | refine Stp.drewN ?_ _ | refine Stp.alloc ?_ _ | refine Stp.setCell ?_ (by first | omega | (simp; omega) | simp) _ | refine Stp.trans ?_ (by assumption)))⟩
  · have h64z : ¬ (64 : Int) < (xs.length : Int) := by omega
    go_enter Try.func13, Try.ntmps13
    go_wp2
    obtain ⟨w0, hw0, hb0, hz0, gc⟩ := box_named w #[.int .i64 nodes] 3
    rw [hw0]
    have gn := gc 0 _ rfl
    clear hw0 gc
    go_loopg [12] xs.length (fun gg s12 wr => ∃ k : Nat, k ≤ xs.length ∧ xs.length - k ≤ gg ∧ s12 = .int .i64 k ∧ Stp w0 wr ∧ Aside (badFrom (xs.take k) (xs.drop k) = badFrom [] xs))
    case atStart => exact ⟨0, Nat.zero_le _, by omega, rfl, Stp.refl w0, rfl⟩
    case round =>
      obtain ⟨k, hk, hg, rfl, hb, A1⟩ := hrel
      by_cases hlt : k < xs.length
      · have hltz : (k : Int) < (xs.length : Int) := by omega
        obtain ⟨b, o, rfl, hS, hbw, x0, x1, x2, x3, x4⟩ := hear_at (hr.stp (hb0.trans hb)) k hlt
        generalize hy : xs[k] = y at x0 x1 x2 x3 x4
        have B : Aside (xs[k] = y) := hy
        clear hy gn
        have ht := (hr.stp (hb0.trans hb)).take k hk
        obtain ⟨w1, hw1, hb1, hz1, gc⟩ := box_named wr #[.int .i64 y.node, .int .i64 y.type, .bool y.cap, .bool y.once, .int .i64 y.prog] 24
        have g0 := gc 0 _ rfl
        have g1 := gc 1 _ rfl
        have g2 := gc 2 _ rfl
        have g3 := gc 3 _ rfl
        have g4 := gc 4 _ rfl
        have hkc : (k : Int) ≤ (c : Int) := by omega
        have hk0 : (0 : Int) ≤ (k : Int) := by omega
        have HW := Lib.hid hw1
        clear hw1 gc
        have cm := may_c y
        cases hq : y.may with
        | false =>
          rw [hq] at cm
          go_wp2
          rw [HW.out]
          clear x0 x1 x2 x3 x4
          refine wp_region_plan (Plan.calm 0 (Plan.alt 1 (Plan.calm 2 (Plan.calm 3 (Plan.calm 4 (Plan.calm 5 (Plan.calm 6 (Plan.calm 7 (Plan.alt 8 (Plan.calm 9 (Plan.calm 10 Plan.done)) Plan.stop))))))) Plan.stop)) (by kernel_rfl) (by kernel_rfl) (by kernel_rfl) ?_
          have hS : Stp w1 w1.drew := (Stp.refl _).drew
          (first | (refine plan_calm (v := ?_) (by simp only [List.getElem?_toArray, List.getElem?_cons_succ, List.getElem?_cons_zero]; rfl) (by rfl) (fun W hW => ?_) ?_; rotate_left; (focus (have q0_ := (hS.trans hW).cell g0; have q1_ := (hS.trans hW).cell g1; have q2_ := (hS.trans hW).cell g2; have q3_ := (hS.trans hW).cell g3; have q4_ := (hS.trans hW).cell g4; clear hW; (first | (go_simp; done) | (go_simp; with_reducible rfl))))) | (refine plan_calm_skip (by simp only [List.getElem?_toArray, List.getElem?_cons_succ, List.getElem?_cons_zero]; rfl) (by rfl) ?_)); (try simp only [Act.put, List.setIfInBounds_toArray, List.set_cons_zero, List.set_cons_succ])
          (first | (refine plan_event (by simp only [List.getElem?_toArray, List.getElem?_cons_succ, List.getElem?_cons_zero]; rfl) (by rfl) (fun K hK => ?_) plan_stop; go_simp; refine (cm _).mono ?_; rintro e w2 ⟨rfl, hb2⟩; refine hK _ _ ?_ (fun hst => ?_); (focus (repeat (first | exact Stp.refl _ | assumption | refine Stp.drew ?_ | refine Stp.drewN ?_ _ | refine Stp.alloc ?_ _ | refine Stp.setCell ?_ (by first | omega | (simp; omega) | simp) _ | refine Stp.trans ?_ (by assumption)))); replace hS := hS.trans hst; clear hst hK K) | refine plan_event_skip (by simp only [List.getElem?_toArray, List.getElem?_cons_succ, List.getElem?_cons_zero]; rfl) (by rfl) ?_ plan_stop); (try simp only [Act.put, List.setIfInBounds_toArray, List.set_cons_zero, List.set_cons_succ])
          (first | (refine plan_calm (v := ?_) (by simp only [List.getElem?_toArray, List.getElem?_cons_succ, List.getElem?_cons_zero]; rfl) (by rfl) (fun W hW => ?_) ?_; rotate_left; (focus (first | (go_simp; done) | (go_simp; with_reducible rfl)))) | (refine plan_calm_skip (by simp only [List.getElem?_toArray, List.getElem?_cons_succ, List.getElem?_cons_zero]; rfl) (by rfl) ?_)); (try simp only [Act.put, List.setIfInBounds_toArray, List.set_cons_zero, List.set_cons_succ])
          (first | (refine plan_calm (v := ?_) (by simp only [List.getElem?_toArray, List.getElem?_cons_succ, List.getElem?_cons_zero]; rfl) (by rfl) (fun W hW => ?_) ?_; rotate_left; (focus (first | (go_simp; done) | (go_simp; with_reducible rfl)))) | (refine plan_calm_skip (by simp only [List.getElem?_toArray, List.getElem?_cons_succ, List.getElem?_cons_zero]; rfl) (by rfl) ?_)); (try simp only [Act.put, List.setIfInBounds_toArray, List.set_cons_zero, List.set_cons_succ])
          (first | (refine plan_calm (v := ?_) (by simp only [List.getElem?_toArray, List.getElem?_cons_succ, List.getElem?_cons_zero]; rfl) (by rfl) (fun W hW => ?_) ?_; rotate_left; (focus (first | (go_simp; done) | (go_simp; with_reducible rfl)))) | (refine plan_calm_skip (by simp only [List.getElem?_toArray, List.getElem?_cons_succ, List.getElem?_cons_zero]; rfl) (by rfl) ?_)); (try simp only [Act.put, List.setIfInBounds_toArray, List.set_cons_zero, List.set_cons_succ])
          (first | (refine plan_calm (v := ?_) (by simp only [List.getElem?_toArray, List.getElem?_cons_succ, List.getElem?_cons_zero]; rfl) (by rfl) (fun W hW => ?_) ?_; rotate_left; (focus (first | (go_simp; done) | (go_simp; with_reducible rfl)))) | (refine plan_calm_skip (by simp only [List.getElem?_toArray, List.getElem?_cons_succ, List.getElem?_cons_zero]; rfl) (by rfl) ?_)); (try simp only [Act.put, List.setIfInBounds_toArray, List.set_cons_zero, List.set_cons_succ])
          (first | (refine plan_calm (v := ?_) (by simp only [List.getElem?_toArray, List.getElem?_cons_succ, List.getElem?_cons_zero]; rfl) (by rfl) (fun W hW => ?_) ?_; rotate_left; (focus (first | (go_simp; done) | (go_simp; with_reducible rfl)))) | (refine plan_calm_skip (by simp only [List.getElem?_toArray, List.getElem?_cons_succ, List.getElem?_cons_zero]; rfl) (by rfl) ?_)); (try simp only [Act.put, List.setIfInBounds_toArray, List.set_cons_zero, List.set_cons_succ])
          (first | (refine plan_calm (v := ?_) (by simp only [List.getElem?_toArray, List.getElem?_cons_succ, List.getElem?_cons_zero]; rfl) (by rfl) (fun W hW => ?_) ?_; rotate_left; (focus (have q0_ := (hS.trans hW).cell g0; have q1_ := (hS.trans hW).cell g1; have q2_ := (hS.trans hW).cell g2; have q3_ := (hS.trans hW).cell g3; have q4_ := (hS.trans hW).cell g4; clear hW; (first | (go_simp; done) | (go_simp; with_reducible rfl))))) | (refine plan_calm_skip (by simp only [List.getElem?_toArray, List.getElem?_cons_succ, List.getElem?_cons_zero]; rfl) (by rfl) ?_)); (try simp only [Act.put, List.setIfInBounds_toArray, List.set_cons_zero, List.set_cons_succ])
          (first | (refine plan_event (by simp only [List.getElem?_toArray, List.getElem?_cons_succ, List.getElem?_cons_zero]; rfl) (by rfl) (fun K hK => ?_) plan_stop; fail; refine hK _ _ ?_ (fun hst => ?_); (focus (repeat (first | exact Stp.refl _ | assumption | refine Stp.drew ?_ | refine Stp.drewN ?_ _ | refine Stp.alloc ?_ _ | refine Stp.setCell ?_ (by first | omega | (simp; omega) | simp) _ | refine Stp.trans ?_ (by assumption)))); replace hS := hS.trans hst; clear hst hK K) | refine plan_event_skip (by simp only [List.getElem?_toArray, List.getElem?_cons_succ, List.getElem?_cons_zero]; rfl) (by rfl) ?_ plan_stop); (try simp only [Act.put, List.setIfInBounds_toArray, List.set_cons_zero, List.set_cons_succ])
          (first | (refine plan_calm (v := ?_) (by simp only [List.getElem?_toArray, List.getElem?_cons_succ, List.getElem?_cons_zero]; rfl) (by rfl) (fun W hW => ?_) ?_; rotate_left; (focus (first | (go_simp; done) | (go_simp; with_reducible rfl)))) | (refine plan_calm_skip (by simp only [List.getElem?_toArray, List.getElem?_cons_succ, List.getElem?_cons_zero]; rfl) (by rfl) ?_)); (try simp only [Act.put, List.setIfInBounds_toArray, List.set_cons_zero, List.set_cons_succ])
          (first | (refine plan_calm (v := ?_) (by simp only [List.getElem?_toArray, List.getElem?_cons_succ, List.getElem?_cons_zero]; rfl) (by rfl) (fun W hW => ?_) ?_; rotate_left; (focus (first | (go_simp; done) | (go_simp; with_reducible rfl)))) | (refine plan_calm_skip (by simp only [List.getElem?_toArray, List.getElem?_cons_succ, List.getElem?_cons_zero]; rfl) (by rfl) ?_)); (try simp only [Act.put, List.setIfInBounds_toArray, List.set_cons_zero, List.set_cons_succ])
          refine plan_done ?_
          go_wp2
          go_ret
          exact ⟨ret_int (by rw [hearCheck_bad]; rw [← A1.out, badFrom_step hlt, B.out, hq]; rfl), by (repeat (first | exact Stp.refl _ | assumption | refine Stp.drew ?_ | refine Stp.drewN ?_ _ | refine Stp.alloc ?_ _ | refine Stp.setCell ?_ (by first | omega | (simp; omega) | simp) _ | refine Stp.trans ?_ (by assumption)))⟩
        | true =>
          rw [hq] at cm
          have ca := fun W (h : Stp wr W) => at_c (ht.stp h) y
          cases ha : (xs.take k).any (·.one y) with
          | true =>
            have hi : 0 ≤ idx (·.one y) (xs.take k) := by simpa [ha] using idx_any (·.one y) (xs.take k)
            generalize idx (·.one y) (xs.take k) = ix at hi ca
            go_wp2
            rw [HW.out]
            clear x0 x1 x2 x3 x4
            refine wp_region_plan (Plan.calm 0 (Plan.alt 1 (Plan.calm 2 (Plan.calm 3 (Plan.calm 4 (Plan.calm 5 (Plan.calm 6 (Plan.calm 7 (Plan.alt 8 (Plan.calm 9 (Plan.calm 10 Plan.done)) Plan.stop))))))) Plan.stop)) (by kernel_rfl) (by kernel_rfl) (by kernel_rfl) ?_
            have hS : Stp w1 w1.drew := (Stp.refl _).drew
            (first | (refine plan_calm (v := ?_) (by simp only [List.getElem?_toArray, List.getElem?_cons_succ, List.getElem?_cons_zero]; rfl) (by rfl) (fun W hW => ?_) ?_; rotate_left; (focus (have q0_ := (hS.trans hW).cell g0; have q1_ := (hS.trans hW).cell g1; have q2_ := (hS.trans hW).cell g2; have q3_ := (hS.trans hW).cell g3; have q4_ := (hS.trans hW).cell g4; clear hW; (first | (go_simp; done) | (go_simp; with_reducible rfl))))) | (refine plan_calm_skip (by simp only [List.getElem?_toArray, List.getElem?_cons_succ, List.getElem?_cons_zero]; rfl) (by rfl) ?_)); (try simp only [Act.put, List.setIfInBounds_toArray, List.set_cons_zero, List.set_cons_succ])
            (first | (refine plan_event (by simp only [List.getElem?_toArray, List.getElem?_cons_succ, List.getElem?_cons_zero]; rfl) (by rfl) (fun K hK => ?_) plan_stop; go_simp; refine (cm _).mono ?_; rintro e w2 ⟨rfl, hb2⟩; refine hK _ _ ?_ (fun hst => ?_); (focus (repeat (first | exact Stp.refl _ | assumption | refine Stp.drew ?_ | refine Stp.drewN ?_ _ | refine Stp.alloc ?_ _ | refine Stp.setCell ?_ (by first | omega | (simp; omega) | simp) _ | refine Stp.trans ?_ (by assumption)))); replace hS := hS.trans hst; clear hst hK K) | refine plan_event_skip (by simp only [List.getElem?_toArray, List.getElem?_cons_succ, List.getElem?_cons_zero]; rfl) (by rfl) ?_ plan_stop); (try simp only [Act.put, List.setIfInBounds_toArray, List.set_cons_zero, List.set_cons_succ])
            (first | (refine plan_calm (v := ?_) (by simp only [List.getElem?_toArray, List.getElem?_cons_succ, List.getElem?_cons_zero]; rfl) (by rfl) (fun W hW => ?_) ?_; rotate_left; (focus (first | (go_simp; done) | (go_simp; with_reducible rfl)))) | (refine plan_calm_skip (by simp only [List.getElem?_toArray, List.getElem?_cons_succ, List.getElem?_cons_zero]; rfl) (by rfl) ?_)); (try simp only [Act.put, List.setIfInBounds_toArray, List.set_cons_zero, List.set_cons_succ])
            (first | (refine plan_calm (v := ?_) (by simp only [List.getElem?_toArray, List.getElem?_cons_succ, List.getElem?_cons_zero]; rfl) (by rfl) (fun W hW => ?_) ?_; rotate_left; (focus (first | (go_simp; done) | (go_simp; with_reducible rfl)))) | (refine plan_calm_skip (by simp only [List.getElem?_toArray, List.getElem?_cons_succ, List.getElem?_cons_zero]; rfl) (by rfl) ?_)); (try simp only [Act.put, List.setIfInBounds_toArray, List.set_cons_zero, List.set_cons_succ])
            (first | (refine plan_calm (v := ?_) (by simp only [List.getElem?_toArray, List.getElem?_cons_succ, List.getElem?_cons_zero]; rfl) (by rfl) (fun W hW => ?_) ?_; rotate_left; (focus (first | (go_simp; done) | (go_simp; with_reducible rfl)))) | (refine plan_calm_skip (by simp only [List.getElem?_toArray, List.getElem?_cons_succ, List.getElem?_cons_zero]; rfl) (by rfl) ?_)); (try simp only [Act.put, List.setIfInBounds_toArray, List.set_cons_zero, List.set_cons_succ])
            (first | (refine plan_calm (v := ?_) (by simp only [List.getElem?_toArray, List.getElem?_cons_succ, List.getElem?_cons_zero]; rfl) (by rfl) (fun W hW => ?_) ?_; rotate_left; (focus (first | (go_simp; done) | (go_simp; with_reducible rfl)))) | (refine plan_calm_skip (by simp only [List.getElem?_toArray, List.getElem?_cons_succ, List.getElem?_cons_zero]; rfl) (by rfl) ?_)); (try simp only [Act.put, List.setIfInBounds_toArray, List.set_cons_zero, List.set_cons_succ])
            (first | (refine plan_calm (v := ?_) (by simp only [List.getElem?_toArray, List.getElem?_cons_succ, List.getElem?_cons_zero]; rfl) (by rfl) (fun W hW => ?_) ?_; rotate_left; (focus (first | (go_simp; done) | (go_simp; with_reducible rfl)))) | (refine plan_calm_skip (by simp only [List.getElem?_toArray, List.getElem?_cons_succ, List.getElem?_cons_zero]; rfl) (by rfl) ?_)); (try simp only [Act.put, List.setIfInBounds_toArray, List.set_cons_zero, List.set_cons_succ])
            (first | (refine plan_calm (v := ?_) (by simp only [List.getElem?_toArray, List.getElem?_cons_succ, List.getElem?_cons_zero]; rfl) (by rfl) (fun W hW => ?_) ?_; rotate_left; (focus (have q0_ := (hS.trans hW).cell g0; have q1_ := (hS.trans hW).cell g1; have q2_ := (hS.trans hW).cell g2; have q3_ := (hS.trans hW).cell g3; have q4_ := (hS.trans hW).cell g4; clear hW; (first | (go_simp; done) | (go_simp; with_reducible rfl))))) | (refine plan_calm_skip (by simp only [List.getElem?_toArray, List.getElem?_cons_succ, List.getElem?_cons_zero]; rfl) (by rfl) ?_)); (try simp only [Act.put, List.setIfInBounds_toArray, List.set_cons_zero, List.set_cons_succ])
            (first | (refine plan_event (by simp only [List.getElem?_toArray, List.getElem?_cons_succ, List.getElem?_cons_zero]; rfl) (by rfl) (fun K hK => ?_) plan_stop; go_simp; refine (ca _ (by (repeat (first | exact Stp.refl _ | assumption | refine Stp.drew ?_ | refine Stp.drewN ?_ _ | refine Stp.alloc ?_ _ | refine Stp.setCell ?_ (by first | omega | (simp; omega) | simp) _ | refine Stp.trans ?_ (by assumption))))).mono ?_; rintro e w3 ⟨rfl, hb3⟩; refine hK _ _ ?_ (fun hst => ?_); (focus (repeat (first | exact Stp.refl _ | assumption | refine Stp.drew ?_ | refine Stp.drewN ?_ _ | refine Stp.alloc ?_ _ | refine Stp.setCell ?_ (by first | omega | (simp; omega) | simp) _ | refine Stp.trans ?_ (by assumption)))); replace hS := hS.trans hst; clear hst hK K) | refine plan_event_skip (by simp only [List.getElem?_toArray, List.getElem?_cons_succ, List.getElem?_cons_zero]; rfl) (by rfl) ?_ plan_stop); (try simp only [Act.put, List.setIfInBounds_toArray, List.set_cons_zero, List.set_cons_succ])
            (first | (refine plan_calm (v := ?_) (by simp only [List.getElem?_toArray, List.getElem?_cons_succ, List.getElem?_cons_zero]; rfl) (by rfl) (fun W hW => ?_) ?_; rotate_left; (focus (first | (go_simp; done) | (go_simp; with_reducible rfl)))) | (refine plan_calm_skip (by simp only [List.getElem?_toArray, List.getElem?_cons_succ, List.getElem?_cons_zero]; rfl) (by rfl) ?_)); (try simp only [Act.put, List.setIfInBounds_toArray, List.set_cons_zero, List.set_cons_succ])
            (first | (refine plan_calm (v := ?_) (by simp only [List.getElem?_toArray, List.getElem?_cons_succ, List.getElem?_cons_zero]; rfl) (by rfl) (fun W hW => ?_) ?_; rotate_left; (focus (first | (go_simp; done) | (go_simp; with_reducible rfl)))) | (refine plan_calm_skip (by simp only [List.getElem?_toArray, List.getElem?_cons_succ, List.getElem?_cons_zero]; rfl) (by rfl) ?_)); (try simp only [Act.put, List.setIfInBounds_toArray, List.set_cons_zero, List.set_cons_succ])
            refine plan_done ?_
            go_wp2
            go_ret
            exact ⟨ret_int (by rw [hearCheck_bad]; rw [← A1.out, badFrom_step hlt, B.out, hq, ha]; rfl), by (repeat (first | exact Stp.refl _ | assumption | refine Stp.drew ?_ | refine Stp.drewN ?_ _ | refine Stp.alloc ?_ _ | refine Stp.setCell ?_ (by first | omega | (simp; omega) | simp) _ | refine Stp.trans ?_ (by assumption)))⟩
          | false =>
            have hi : ¬ 0 ≤ idx (·.one y) (xs.take k) := by simpa [ha] using idx_any (·.one y) (xs.take k)
            generalize idx (·.one y) (xs.take k) = ix at hi ca
            go_wp2
            rw [HW.out]
            clear x0 x1 x2 x3 x4
            refine wp_region_plan (Plan.calm 0 (Plan.alt 1 (Plan.calm 2 (Plan.calm 3 (Plan.calm 4 (Plan.calm 5 (Plan.calm 6 (Plan.calm 7 (Plan.alt 8 (Plan.calm 9 (Plan.calm 10 Plan.done)) Plan.stop))))))) Plan.stop)) (by kernel_rfl) (by kernel_rfl) (by kernel_rfl) ?_
            have hS : Stp w1 w1.drew := (Stp.refl _).drew
            (first | (refine plan_calm (v := ?_) (by simp only [List.getElem?_toArray, List.getElem?_cons_succ, List.getElem?_cons_zero]; rfl) (by rfl) (fun W hW => ?_) ?_; rotate_left; (focus (have q0_ := (hS.trans hW).cell g0; have q1_ := (hS.trans hW).cell g1; have q2_ := (hS.trans hW).cell g2; have q3_ := (hS.trans hW).cell g3; have q4_ := (hS.trans hW).cell g4; clear hW; (first | (go_simp; done) | (go_simp; with_reducible rfl))))) | (refine plan_calm_skip (by simp only [List.getElem?_toArray, List.getElem?_cons_succ, List.getElem?_cons_zero]; rfl) (by rfl) ?_)); (try simp only [Act.put, List.setIfInBounds_toArray, List.set_cons_zero, List.set_cons_succ])
            (first | (refine plan_event (by simp only [List.getElem?_toArray, List.getElem?_cons_succ, List.getElem?_cons_zero]; rfl) (by rfl) (fun K hK => ?_) plan_stop; go_simp; refine (cm _).mono ?_; rintro e w2 ⟨rfl, hb2⟩; refine hK _ _ ?_ (fun hst => ?_); (focus (repeat (first | exact Stp.refl _ | assumption | refine Stp.drew ?_ | refine Stp.drewN ?_ _ | refine Stp.alloc ?_ _ | refine Stp.setCell ?_ (by first | omega | (simp; omega) | simp) _ | refine Stp.trans ?_ (by assumption)))); replace hS := hS.trans hst; clear hst hK K) | refine plan_event_skip (by simp only [List.getElem?_toArray, List.getElem?_cons_succ, List.getElem?_cons_zero]; rfl) (by rfl) ?_ plan_stop); (try simp only [Act.put, List.setIfInBounds_toArray, List.set_cons_zero, List.set_cons_succ])
            (first | (refine plan_calm (v := ?_) (by simp only [List.getElem?_toArray, List.getElem?_cons_succ, List.getElem?_cons_zero]; rfl) (by rfl) (fun W hW => ?_) ?_; rotate_left; (focus (first | (go_simp; done) | (go_simp; with_reducible rfl)))) | (refine plan_calm_skip (by simp only [List.getElem?_toArray, List.getElem?_cons_succ, List.getElem?_cons_zero]; rfl) (by rfl) ?_)); (try simp only [Act.put, List.setIfInBounds_toArray, List.set_cons_zero, List.set_cons_succ])
            (first | (refine plan_calm (v := ?_) (by simp only [List.getElem?_toArray, List.getElem?_cons_succ, List.getElem?_cons_zero]; rfl) (by rfl) (fun W hW => ?_) ?_; rotate_left; (focus (first | (go_simp; done) | (go_simp; with_reducible rfl)))) | (refine plan_calm_skip (by simp only [List.getElem?_toArray, List.getElem?_cons_succ, List.getElem?_cons_zero]; rfl) (by rfl) ?_)); (try simp only [Act.put, List.setIfInBounds_toArray, List.set_cons_zero, List.set_cons_succ])
            (first | (refine plan_calm (v := ?_) (by simp only [List.getElem?_toArray, List.getElem?_cons_succ, List.getElem?_cons_zero]; rfl) (by rfl) (fun W hW => ?_) ?_; rotate_left; (focus (first | (go_simp; done) | (go_simp; with_reducible rfl)))) | (refine plan_calm_skip (by simp only [List.getElem?_toArray, List.getElem?_cons_succ, List.getElem?_cons_zero]; rfl) (by rfl) ?_)); (try simp only [Act.put, List.setIfInBounds_toArray, List.set_cons_zero, List.set_cons_succ])
            (first | (refine plan_calm (v := ?_) (by simp only [List.getElem?_toArray, List.getElem?_cons_succ, List.getElem?_cons_zero]; rfl) (by rfl) (fun W hW => ?_) ?_; rotate_left; (focus (first | (go_simp; done) | (go_simp; with_reducible rfl)))) | (refine plan_calm_skip (by simp only [List.getElem?_toArray, List.getElem?_cons_succ, List.getElem?_cons_zero]; rfl) (by rfl) ?_)); (try simp only [Act.put, List.setIfInBounds_toArray, List.set_cons_zero, List.set_cons_succ])
            (first | (refine plan_calm (v := ?_) (by simp only [List.getElem?_toArray, List.getElem?_cons_succ, List.getElem?_cons_zero]; rfl) (by rfl) (fun W hW => ?_) ?_; rotate_left; (focus (first | (go_simp; done) | (go_simp; with_reducible rfl)))) | (refine plan_calm_skip (by simp only [List.getElem?_toArray, List.getElem?_cons_succ, List.getElem?_cons_zero]; rfl) (by rfl) ?_)); (try simp only [Act.put, List.setIfInBounds_toArray, List.set_cons_zero, List.set_cons_succ])
            (first | (refine plan_calm (v := ?_) (by simp only [List.getElem?_toArray, List.getElem?_cons_succ, List.getElem?_cons_zero]; rfl) (by rfl) (fun W hW => ?_) ?_; rotate_left; (focus (have q0_ := (hS.trans hW).cell g0; have q1_ := (hS.trans hW).cell g1; have q2_ := (hS.trans hW).cell g2; have q3_ := (hS.trans hW).cell g3; have q4_ := (hS.trans hW).cell g4; clear hW; (first | (go_simp; done) | (go_simp; with_reducible rfl))))) | (refine plan_calm_skip (by simp only [List.getElem?_toArray, List.getElem?_cons_succ, List.getElem?_cons_zero]; rfl) (by rfl) ?_)); (try simp only [Act.put, List.setIfInBounds_toArray, List.set_cons_zero, List.set_cons_succ])
            (first | (refine plan_event (by simp only [List.getElem?_toArray, List.getElem?_cons_succ, List.getElem?_cons_zero]; rfl) (by rfl) (fun K hK => ?_) plan_stop; go_simp; refine (ca _ (by (repeat (first | exact Stp.refl _ | assumption | refine Stp.drew ?_ | refine Stp.drewN ?_ _ | refine Stp.alloc ?_ _ | refine Stp.setCell ?_ (by first | omega | (simp; omega) | simp) _ | refine Stp.trans ?_ (by assumption))))).mono ?_; rintro e w3 ⟨rfl, hb3⟩; refine hK _ _ ?_ (fun hst => ?_); (focus (repeat (first | exact Stp.refl _ | assumption | refine Stp.drew ?_ | refine Stp.drewN ?_ _ | refine Stp.alloc ?_ _ | refine Stp.setCell ?_ (by first | omega | (simp; omega) | simp) _ | refine Stp.trans ?_ (by assumption)))); replace hS := hS.trans hst; clear hst hK K) | refine plan_event_skip (by simp only [List.getElem?_toArray, List.getElem?_cons_succ, List.getElem?_cons_zero]; rfl) (by rfl) ?_ plan_stop); (try simp only [Act.put, List.setIfInBounds_toArray, List.set_cons_zero, List.set_cons_succ])
            (first | (refine plan_calm (v := ?_) (by simp only [List.getElem?_toArray, List.getElem?_cons_succ, List.getElem?_cons_zero]; rfl) (by rfl) (fun W hW => ?_) ?_; rotate_left; (focus (first | (go_simp; done) | (go_simp; with_reducible rfl)))) | (refine plan_calm_skip (by simp only [List.getElem?_toArray, List.getElem?_cons_succ, List.getElem?_cons_zero]; rfl) (by rfl) ?_)); (try simp only [Act.put, List.setIfInBounds_toArray, List.set_cons_zero, List.set_cons_succ])
            (first | (refine plan_calm (v := ?_) (by simp only [List.getElem?_toArray, List.getElem?_cons_succ, List.getElem?_cons_zero]; rfl) (by rfl) (fun W hW => ?_) ?_; rotate_left; (focus (first | (go_simp; done) | (go_simp; with_reducible rfl)))) | (refine plan_calm_skip (by simp only [List.getElem?_toArray, List.getElem?_cons_succ, List.getElem?_cons_zero]; rfl) (by rfl) ?_)); (try simp only [Act.put, List.setIfInBounds_toArray, List.set_cons_zero, List.set_cons_succ])
            refine plan_done ?_
            go_wp2
            go_roundg (xs.length - (k + 1))
            case measure => omega
            case rel => exact ⟨k + 1, by omega, by omega, by go_num, by (repeat (first | exact Stp.refl _ | assumption | refine Stp.drew ?_ | refine Stp.drewN ?_ _ | refine Stp.alloc ?_ _ | refine Stp.setCell ?_ (by first | omega | (simp; omega) | simp) _ | refine Stp.trans ?_ (by assumption))), by rw [← A1.out, badFrom_step hlt, B.out, hq, ha]; rfl⟩
      · have hltz : ¬ (k : Int) < (xs.length : Int) := by omega
        have hbf : badFrom [] xs = false := by rw [← A1.out, List.drop_eq_nil_of_le (by omega)]; rfl
        have HE := Lib.hid (hearCheck_ok (n := nodes) h64 hbf)
        clear A1 hbf
        have e1 := (enters_of Try.func25 (by kernel_rfl) rfl)
        have hr' := hr.stp (hb0.trans hb)
        go_wp2_with (go_at_call 24; refine (containsFunc_c hr' (fun h => decide (nodes ≤ h.node)) _ _ e1 ?hp).mono ?_; (case hp => exact fun W x hW => check1_c nodes x _ W ((hb.trans hW).cell gn)); rintro e w' ⟨rfl, hb'⟩)
        all_goals
          go_ret
          exact ⟨ret_int (by rw [HE.out]; simp [*]), by (repeat (first | exact Stp.refl _ | assumption | refine Stp.drew ?_ | refine Stp.drewN ?_ _ | refine Stp.alloc ?_ _ | refine Stp.setCell ?_ (by first | omega | (simp; omega) | simp) _ | refine Stp.trans ?_ (by assumption)))⟩

theorem idx_lt {α : Type} (p : α → Bool) (xs : List α) : ∀ (m : Int) (k : Nat), 0 ≤ m → xs.any p = true → decide (idxFrom p m xs < m + k) = (xs.take k).any p := by
  induction xs with
  | nil => intro m k _ h; simp at h
  | cons x xs ih =>
    intro m k hm h
    rw [idxFrom]
    cases k with
    | zero =>
      simp only [List.take_zero, List.any_nil, decide_eq_false_iff_not]
      split
      · omega
      · rename_i hx
        have h2 : xs.any p = true := by simpa [hx] using h
        have := ih (m + 1) 0 (by omega) h2
        simp at this
        simp only [Int.natCast_zero, Int.add_zero]
        omega
    | succ k =>
      rw [List.take_succ_cons, List.any_cons]
      cases hx : p x with
      | true => simp; omega
      | false =>
        have h2 : xs.any p = true := by simpa [hx] using h
        have := ih (m + 1) k (by omega) h2
        simp only [Bool.false_eq_true, if_false, Bool.false_or]
        rw [← this]
        congr 1
        simp only [eq_iff_iff]
        omega
theorem one_refl (x : Hear) : x.one x = true := by simp [Hear.one]
theorem place_lt {l : List Hear} {k : Nat} (h : k < l.length) : decide (idx (·.one l[k]) l < k) = (l.take k).any (·.one l[k]) := by
  have h1 : l.any (·.one l[k]) = true := List.any_eq_true.2 ⟨l[k], List.getElem_mem h, one_refl _⟩
  have := idx_lt (·.one l[k]) l 0 k (by omega) h1
  simpa using this

set_option maxHeartbeats 2000000 in
theorem rcheck_c {S : Nat → Prop} {w : World} {v : Value} {xs : List Hear} (hr : Row hearK S w v xs) (nodes : Int) :
    Calls Try.prog 14 #[v, .int .i64 nodes] w fun e w' => e = .returned (.int .i64 (hearCheck xs nodes)) ∧ Stp w w' := by
  obtain ⟨A, c, rfl, hc, hm⟩ := hr.form
  go_enter Try.func14, Try.ntmps14
  go_wp2
  go_loopg [5] xs.length (fun gg s5 wr => ∃ k : Nat, k ≤ xs.length ∧ xs.length - k ≤ gg ∧ s5 = .int .i64 k ∧ Stp w wr ∧ Aside (badFrom (xs.take k) (xs.drop k) = badFrom [] xs))
  case atStart => exact ⟨0, Nat.zero_le _, by omega, rfl, Stp.refl w, rfl⟩
  case round =>
    obtain ⟨k, hk, hg, rfl, hb, A1⟩ := hrel
    by_cases hlt : k < xs.length
    · have hltz : (k : Int) < (xs.length : Int) := by omega
      obtain ⟨b, o, rfl, hS, hbw, x0, x1, x2, x3, x4⟩ := hear_at (hr.stp hb) k hlt
      have hpl := Lib.hid (place_lt hlt)
      generalize hy : xs[k] = y at x0 x1 x2 x3 x4 hpl
      have B : Aside (xs[k] = y) := hy
      clear hy
      have hr' := hr.stp hb
      go_wp2_with (first | (go_at_call 21; refine (rmay_c y _).mono ?_; rintro e w1 ⟨rfl, hb1⟩; obtain ⟨hc1, hf1⟩ := hb1.bc; have hz1 := hb1.size; (try simp only [World.size_alloc] at hz1 hc1 hf1)) | (go_at_call 22; refine (rplace_c (hr'.stp (by (repeat (first | exact Stp.refl _ | assumption | refine Stp.drew ?_ | refine Stp.drewN ?_ _ | refine Stp.alloc ?_ _ | refine Stp.setCell ?_ (by first | omega | (simp; omega) | simp) _ | refine Stp.trans ?_ (by assumption))))) y).mono ?_; rintro e w2 ⟨rfl, hb2⟩; obtain ⟨hc2, hf2⟩ := hb2.bc; have hz2 := hb2.size; (try simp only [World.size_alloc] at hz2 hc2 hf2)))
      · have h1 : y.may = true := ‹_›
        have h2 := decide_eq_true ‹idx (fun x => x.one y) xs < (k : Int)›
        go_ret
        exact ⟨ret_int (hearCheck_bad (by rw [← A1.out, badFrom_step hlt, B.out, h1, ← hpl.out, h2]; rfl)).symm, by (repeat (first | exact Stp.refl _ | assumption | refine Stp.drew ?_ | refine Stp.drewN ?_ _ | refine Stp.alloc ?_ _ | refine Stp.setCell ?_ (by first | omega | (simp; omega) | simp) _ | refine Stp.trans ?_ (by assumption)))⟩
      · have h1 := Lib.hid ‹y.may = true›
        have h2 := Lib.hid (decide_eq_false (show ¬ idx (fun x => x.one y) xs < (k : Int) by omega))
        go_roundg (xs.length - (k + 1))
        case measure => omega
        case rel => exact ⟨k + 1, by omega, by omega, by go_num, by (repeat (first | exact Stp.refl _ | assumption | refine Stp.drew ?_ | refine Stp.drewN ?_ _ | refine Stp.alloc ?_ _ | refine Stp.setCell ?_ (by first | omega | (simp; omega) | simp) _ | refine Stp.trans ?_ (by assumption))), by rw [← A1.out, badFrom_step hlt, B.out, h1.out, ← hpl.out, h2.out]; rfl⟩
      · have h1 : y.may = false := by simpa using ‹¬ y.may = true›
        go_ret
        exact ⟨ret_int (hearCheck_bad (by rw [← A1.out, badFrom_step hlt, B.out, h1]; rfl)).symm, by (repeat (first | exact Stp.refl _ | assumption | refine Stp.drew ?_ | refine Stp.drewN ?_ _ | refine Stp.alloc ?_ _ | refine Stp.setCell ?_ (by first | omega | (simp; omega) | simp) _ | refine Stp.trans ?_ (by assumption)))⟩
    · have hltz : ¬ (k : Int) < (xs.length : Int) := by omega
      have hbf := Lib.hid (show badFrom [] xs = false by rw [← A1.out, List.drop_eq_nil_of_le (by omega)]; rfl)
      clear A1
      have hb0 := hb
      go_wp2
      · go_ret
        exact ⟨ret_int (hearCheck_64 (by omega)).symm, by (repeat (first | exact Stp.refl _ | assumption | refine Stp.drew ?_ | refine Stp.drewN ?_ _ | refine Stp.alloc ?_ _ | refine Stp.setCell ?_ (by first | omega | (simp; omega) | simp) _ | refine Stp.trans ?_ (by assumption)))⟩
      · have h64 : ¬ 64 < xs.length := by omega
        go_loopg [6] xs.length (fun gg s5 wr => ∃ k : Nat, k ≤ xs.length ∧ xs.length - k ≤ gg ∧ s5 = .int .i64 k ∧ Stp w wr ∧ Aside ((xs.drop k).any (fun h => decide (nodes ≤ h.node)) = xs.any (fun h => decide (nodes ≤ h.node))))
        case atStart => exact ⟨0, Nat.zero_le _, by omega, rfl, by (repeat (first | exact Stp.refl _ | assumption | refine Stp.drew ?_ | refine Stp.drewN ?_ _ | refine Stp.alloc ?_ _ | refine Stp.setCell ?_ (by first | omega | (simp; omega) | simp) _ | refine Stp.trans ?_ (by assumption))), rfl⟩
        case round =>
          clear hltz hg
          obtain ⟨k, hk, hg, rfl, hb, A1⟩ := hrel
          by_cases hlt : k < xs.length
          · have hltz : (k : Int) < (xs.length : Int) := by omega
            obtain ⟨b, o, rfl, hS, hbw, x0, x1, x2, x3, x4⟩ := hear_at (hr.stp hb) k hlt
            have hst := Lib.hid (show (xs.drop k).any (fun h => decide (nodes ≤ h.node)) = (decide (nodes ≤ xs[k].node) || (xs.drop (k + 1)).any (fun h => decide (nodes ≤ h.node))) by rw [List.drop_eq_getElem_cons hlt, List.any_cons])
            generalize hy : xs[k] = y at x0 x1 x2 x3 x4 hst
            clear hy x1 x2 x3 x4
            go_wp2
            · go_ret
              exact ⟨ret_int (by rw [hearCheck_ok h64 hbf.out, ← A1.out, hst.out]; simp [*]), by (repeat (first | exact Stp.refl _ | assumption | refine Stp.drew ?_ | refine Stp.drewN ?_ _ | refine Stp.alloc ?_ _ | refine Stp.setCell ?_ (by first | omega | (simp; omega) | simp) _ | refine Stp.trans ?_ (by assumption)))⟩
            · have h2 := Lib.hid (decide_eq_false (show ¬ nodes ≤ y.node by omega))
              go_roundg (xs.length - (k + 1))
              case measure => omega
              case rel => exact ⟨k + 1, by omega, by omega, by go_num, by (repeat (first | exact Stp.refl _ | assumption | refine Stp.drew ?_ | refine Stp.drewN ?_ _ | refine Stp.alloc ?_ _ | refine Stp.setCell ?_ (by first | omega | (simp; omega) | simp) _ | refine Stp.trans ?_ (by assumption))), by rw [← A1.out, hst.out, h2.out, Bool.false_or]; rfl⟩
          · have hltz : ¬ (k : Int) < (xs.length : Int) := by omega
            go_wp2
            go_ret
            exact ⟨ret_int (by rw [hearCheck_ok h64 hbf.out, ← A1.out, List.drop_eq_nil_of_le (by omega)]; rfl), by (repeat (first | exact Stp.refl _ | assumption | refine Stp.drew ?_ | refine Stp.drewN ?_ _ | refine Stp.alloc ?_ _ | refine Stp.setCell ?_ (by first | omega | (simp; omega) | simp) _ | refine Stp.trans ?_ (by assumption)))⟩
end Go.Proofs.Lime
