/- Walk: of each node, type and phase together they are all, each once. -/
import Derived.Test.YtkmmdjfacdkiiaaL8t
import Derived.Test.YtkmmdjfacdkiiaaHearPure
namespace Go.Proofs.Lime
open Go.RowKit
set_option linter.unusedVariables false
set_option linter.unusedSimpArgs false

theorem same_word (a b : Hear) : (a.node == b.node && (a.type == b.type && (a.cap == b.cap && (a.once == b.once && a.prog == b.prog)))) = a.same b := rfl
theorem same_yes {a b : Hear} (h : (a.node == b.node) = true ∧ (a.type == b.type) = true ∧ (a.cap == b.cap) = true ∧ (a.once == b.once) = true ∧ (a.prog == b.prog) = true) : a.same b = true := by
  obtain ⟨h1, h2, h3, h4, h5⟩ := h
  rw [Hear.same, h1, h2, h3, h4, h5]; rfl
theorem same_no {a b : Hear} (h : (a.node == b.node) = false ∨ (a.type == b.type) = false ∨ (a.cap == b.cap) = false ∨ (a.once == b.once) = false ∨ (a.prog == b.prog) = false) : a.same b = false := by
  cases hs : a.same b with
  | false => rfl
  | true =>
    rw [same_iff] at hs
    subst hs
    simp at h
theorem atIn_skip {p j : Nat} (h : ¬ j = p) : atIn p (j + 1) = atIn p j := by
  unfold atIn
  by_cases h1 : j ≤ p
  · rw [if_pos h1, if_pos (by omega)]
  · rw [if_neg h1, if_neg (by omega)]
section
attribute [local go_sem high] eqHear
set_option maxRecDepth 100000 in
set_option maxHeartbeats 4000000 in
theorem parts_c {S : Nat → Prop} {w : World} {v : Value} {xs : List Hear} (hr : Row hearK S w v xs) :
    Calls Try.prog 6 #[v] w fun e w' => e = .returned (.bool true) ∧ Stp w w' := by
  obtain ⟨A, c, rfl, hc, hm⟩ := hr.form
  by_cases hfine : hearCheck xs 64 = 0
  · have hF := Lib.hid ((check_fine xs).1 hfine)
    have hlen := hF.out.len
    have cc := fun W (hW : Stp w W) => check_c (hr.stp hW) 64
    rw [hfine] at cc
    clear hfine
    go_enter Try.func6, Try.ntmps6
    go_wp2_with fail
    refine (show Calls Try.prog 13 _ _ _ from cc _ (by (repeat (first | exact Stp.refl _ | assumption | refine Stp.drew ?_ | refine Stp.drewN ?_ _ | refine Stp.alloc ?_ _ | refine Stp.setCell ?_ (by first | omega | (simp; omega) | simp) _ | refine Stp.trans ?_ (by assumption))))).mono ?_
    rintro e w1 ⟨rfl, hb1⟩
    clear cc
    go_wp2
    go_loopg [3, 4] xs.length (fun gg s3 s4 wr => ∃ k cn : Nat, k ≤ xs.length ∧ xs.length - k ≤ gg ∧ s4 = .int .i64 k ∧ s3 = .int .i64 cn ∧ cn ≤ xs.length ∧ Stp w wr ∧ Aside (heard xs k = cn))
    case atStart => exact ⟨0, 0, Nat.zero_le _, by omega, rfl, rfl, by omega, by (repeat (first | exact Stp.refl _ | assumption | refine Stp.drew ?_ | refine Stp.drewN ?_ _ | refine Stp.alloc ?_ _ | refine Stp.setCell ?_ (by first | omega | (simp; omega) | simp) _ | refine Stp.trans ?_ (by assumption))), heard_zero _⟩
    case round =>
      obtain ⟨k, cn, hk, hg, rfl, rfl, hcl, hb, hcn⟩ := hrel
      by_cases hlt : k < xs.length
      · have hltz : (k : Int) < (xs.length : Int) := by omega
        obtain ⟨b, o, rfl, hS, hbw, x0, x1, x2, x3, x4⟩ := hear_at (hr.stp hb) k hlt
        have hst := Lib.hid (heard_step hlt)
        have hpt := Lib.hid (part_at hF.out.apart hlt)
        have hpo := Lib.hid (part_other (l := xs) (y := xs[k]))
        have hle := Lib.hid (heard_le xs (k + 1))
        generalize hy : xs[k] = y at x0 x1 x2 x3 x4 hst hpt hpo
        clear hy
        have fa := fun W (hW : Stp w W) => for_c (hr.stp hW) (by omega) y.node y.type y.cap
        have fb := fun W (hW : Stp w W) => for_c (hr.stp hW) (by omega) y.node y.type (!y.cap)
        have hfl : (hearFor xs y.node y.type y.cap).length ≤ xs.length := by rw [hearFor]; exact List.length_filter_le ..
        have hgl : (hearFor xs y.node y.type (!y.cap)).length ≤ xs.length := by rw [hearFor]; exact List.length_filter_le ..
        generalize hearFor xs y.node y.type y.cap = la at fa hst hpt hfl
        generalize hearFor xs y.node y.type (!y.cap) = lb at fb hpo hgl
        generalize ((xs.take k).filter (·.like y)).length = p at hst hpt
        go_wp2_with fail
        refine wp_region_plan (Plan.calm 0 (Plan.calm 1 (Plan.calm 2 (Plan.calm 3 (Plan.calm 4 (Plan.calm 5 (Plan.calm 6 (Plan.calm 7 (Plan.calm 8 (Plan.calm 9 (Plan.calm 10 (Plan.calm 11 (Plan.calm 12 (Plan.calm 13 (Plan.calm 14 (Plan.calm 15 (Plan.alt 16 (Plan.calm 17 Plan.done) Plan.stop))))))))))))))))) (by kernel_rfl) (by kernel_rfl) (by kernel_rfl) ?_
        have hS : Stp wr wr.drew := (Stp.refl _).drew
        iterate 5 ((first | (refine plan_calm (v := ?_) (by simp only [List.getElem?_toArray, List.getElem?_cons_succ, List.getElem?_cons_zero]; rfl) (by rfl) (fun W hW => ?_) ?_; rotate_left; (focus (first | (go_simp; done) | (go_simp; go_bits; (first | done | with_reducible rfl)) | (go_simp; (repeat rw [if_pos (by omega)]); (first | done | with_reducible rfl)) | (go_simp; with_reducible rfl)))) | (refine plan_calm_skip (by simp only [List.getElem?_toArray, List.getElem?_cons_succ, List.getElem?_cons_zero]; rfl) (by rfl) ?_)); (try simp only [Act.put, List.setIfInBounds_toArray, List.set_cons_zero, List.set_cons_succ]))
        (first | (refine plan_calm (v := ?_) (by simp only [List.getElem?_toArray, List.getElem?_cons_succ, List.getElem?_cons_zero]; rfl) (by rfl) (fun W hW => ?_) ?_; rotate_left; (focus (have q0_ := (hS.trans hW).cell x0; have q1_ := (hS.trans hW).cell x1; have q2_ := (hS.trans hW).cell x2; clear hW; (first | (go_simp; done) | (go_simp; go_bits; (first | done | with_reducible rfl)) | (go_simp; (repeat rw [if_pos (by omega)]); (first | done | with_reducible rfl)) | (go_simp; with_reducible rfl))))) | (refine plan_calm_skip (by simp only [List.getElem?_toArray, List.getElem?_cons_succ, List.getElem?_cons_zero]; rfl) (by rfl) ?_)); (try simp only [Act.put, List.setIfInBounds_toArray, List.set_cons_zero, List.set_cons_succ])
        iterate 4 ((first | (refine plan_calm (v := ?_) (by simp only [List.getElem?_toArray, List.getElem?_cons_succ, List.getElem?_cons_zero]; rfl) (by rfl) (fun W hW => ?_) ?_; rotate_left; (focus (first | (go_simp; done) | (go_simp; go_bits; (first | done | with_reducible rfl)) | (go_simp; (repeat rw [if_pos (by omega)]); (first | done | with_reducible rfl)) | (go_simp; with_reducible rfl)))) | (refine plan_calm_skip (by simp only [List.getElem?_toArray, List.getElem?_cons_succ, List.getElem?_cons_zero]; rfl) (by rfl) ?_)); (try simp only [Act.put, List.setIfInBounds_toArray, List.set_cons_zero, List.set_cons_succ]))
        (first | (refine plan_calm (v := ?_) (by simp only [List.getElem?_toArray, List.getElem?_cons_succ, List.getElem?_cons_zero]; rfl) (by rfl) (fun W hW => ?_) ?_; rotate_left; (focus (have q0_ := (hS.trans hW).cell x0; have q1_ := (hS.trans hW).cell x1; have q2_ := (hS.trans hW).cell x2; clear hW; (first | (go_simp; done) | (go_simp; go_bits; (first | done | with_reducible rfl)) | (go_simp; (repeat rw [if_pos (by omega)]); (first | done | with_reducible rfl)) | (go_simp; with_reducible rfl))))) | (refine plan_calm_skip (by simp only [List.getElem?_toArray, List.getElem?_cons_succ, List.getElem?_cons_zero]; rfl) (by rfl) ?_)); (try simp only [Act.put, List.setIfInBounds_toArray, List.set_cons_zero, List.set_cons_succ])
        iterate 4 ((first | (refine plan_calm (v := ?_) (by simp only [List.getElem?_toArray, List.getElem?_cons_succ, List.getElem?_cons_zero]; rfl) (by rfl) (fun W hW => ?_) ?_; rotate_left; (focus (first | (go_simp; done) | (go_simp; go_bits; (first | done | with_reducible rfl)) | (go_simp; (repeat rw [if_pos (by omega)]); (first | done | with_reducible rfl)) | (go_simp; with_reducible rfl)))) | (refine plan_calm_skip (by simp only [List.getElem?_toArray, List.getElem?_cons_succ, List.getElem?_cons_zero]; rfl) (by rfl) ?_)); (try simp only [Act.put, List.setIfInBounds_toArray, List.set_cons_zero, List.set_cons_succ]))
        (first | (refine plan_calm (v := ?_) (by simp only [List.getElem?_toArray, List.getElem?_cons_succ, List.getElem?_cons_zero]; rfl) (by rfl) (fun W hW => ?_) ?_; rotate_left; (focus (have q0_ := (hS.trans hW).cell x0; have q1_ := (hS.trans hW).cell x1; have q2_ := (hS.trans hW).cell x2; clear hW; (first | (go_simp; done) | (go_simp; go_bits; (first | done | with_reducible rfl)) | (go_simp; (repeat rw [if_pos (by omega)]); (first | done | with_reducible rfl)) | (go_simp; with_reducible rfl))))) | (refine plan_calm_skip (by simp only [List.getElem?_toArray, List.getElem?_cons_succ, List.getElem?_cons_zero]; rfl) (by rfl) ?_)); (try simp only [Act.put, List.setIfInBounds_toArray, List.set_cons_zero, List.set_cons_succ])
        (first | (refine plan_event (by simp only [List.getElem?_toArray, List.getElem?_cons_succ, List.getElem?_cons_zero]; rfl) (by rfl) (fun K hK => ?_) plan_stop; go_simp; refine (fa _ (by (repeat (first | exact Stp.refl _ | assumption | refine Stp.drew ?_ | refine Stp.drewN ?_ _ | refine Stp.alloc ?_ _ | refine Stp.setCell ?_ (by first | omega | (simp; omega) | simp) _ | refine Stp.trans ?_ (by assumption))))).mono ?_; rintro e w2 ⟨v2, rfl, o2, hb2⟩; obtain ⟨A2, c2, rfl⟩ := o2.reads.slice; refine hK _ _ ?_ (fun hst => ?_); (focus (repeat (first | exact Stp.refl _ | assumption | refine Stp.drew ?_ | refine Stp.drewN ?_ _ | refine Stp.alloc ?_ _ | refine Stp.setCell ?_ (by first | omega | (simp; omega) | simp) _ | refine Stp.trans ?_ (by assumption)))); replace hS := hS.trans hst; clear hst hK K) | refine plan_event_skip (by simp only [List.getElem?_toArray, List.getElem?_cons_succ, List.getElem?_cons_zero]; rfl) (by rfl) ?_ plan_stop); (try simp only [Act.put, List.setIfInBounds_toArray, List.set_cons_zero, List.set_cons_succ])
        (first | (refine plan_calm (v := ?_) (by simp only [List.getElem?_toArray, List.getElem?_cons_succ, List.getElem?_cons_zero]; rfl) (by rfl) (fun W hW => ?_) ?_; rotate_left; (focus (first | (go_simp; done) | (go_simp; go_bits; (first | done | with_reducible rfl)) | (go_simp; (repeat rw [if_pos (by omega)]); (first | done | with_reducible rfl)) | (go_simp; with_reducible rfl)))) | (refine plan_calm_skip (by simp only [List.getElem?_toArray, List.getElem?_cons_succ, List.getElem?_cons_zero]; rfl) (by rfl) ?_)); (try simp only [Act.put, List.setIfInBounds_toArray, List.set_cons_zero, List.set_cons_succ])
        refine plan_done ?_
        clear fa
        have hs1 := hS
        clear hS
        replace x0 := hs1.cell x0
        replace x1 := hs1.cell x1
        replace x2 := hs1.cell x2
        replace x3 := hs1.cell x3
        replace x4 := hs1.cell x4
        have r2 := o2.reads
        clear o2
        go_wp2_with fail
        refine wp_region_plan (Plan.calm 0 (Plan.calm 1 (Plan.calm 2 (Plan.calm 3 (Plan.calm 4 (Plan.calm 5 (Plan.calm 6 (Plan.calm 7 (Plan.calm 8 (Plan.calm 9 (Plan.calm 10 (Plan.calm 11 (Plan.calm 12 (Plan.calm 13 (Plan.calm 14 (Plan.calm 15 (Plan.calm 16 (Plan.alt 17 (Plan.calm 18 Plan.done) Plan.stop)))))))))))))))))) (by kernel_rfl) (by kernel_rfl) (by kernel_rfl) ?_
        have hS : Stp w2 w2.drew := (Stp.refl _).drew
        iterate 5 ((first | (refine plan_calm (v := ?_) (by simp only [List.getElem?_toArray, List.getElem?_cons_succ, List.getElem?_cons_zero]; rfl) (by rfl) (fun W hW => ?_) ?_; rotate_left; (focus (first | (go_simp; done) | (go_simp; go_bits; (first | done | with_reducible rfl)) | (go_simp; (repeat rw [if_pos (by omega)]); (first | done | with_reducible rfl)) | (go_simp; with_reducible rfl)))) | (refine plan_calm_skip (by simp only [List.getElem?_toArray, List.getElem?_cons_succ, List.getElem?_cons_zero]; rfl) (by rfl) ?_)); (try simp only [Act.put, List.setIfInBounds_toArray, List.set_cons_zero, List.set_cons_succ]))
        (first | (refine plan_calm (v := ?_) (by simp only [List.getElem?_toArray, List.getElem?_cons_succ, List.getElem?_cons_zero]; rfl) (by rfl) (fun W hW => ?_) ?_; rotate_left; (focus (have q0_ := (hS.trans hW).cell x0; have q1_ := (hS.trans hW).cell x1; have q2_ := (hS.trans hW).cell x2; clear hW; (first | (go_simp; done) | (go_simp; go_bits; (first | done | with_reducible rfl)) | (go_simp; (repeat rw [if_pos (by omega)]); (first | done | with_reducible rfl)) | (go_simp; with_reducible rfl))))) | (refine plan_calm_skip (by simp only [List.getElem?_toArray, List.getElem?_cons_succ, List.getElem?_cons_zero]; rfl) (by rfl) ?_)); (try simp only [Act.put, List.setIfInBounds_toArray, List.set_cons_zero, List.set_cons_succ])
        iterate 4 ((first | (refine plan_calm (v := ?_) (by simp only [List.getElem?_toArray, List.getElem?_cons_succ, List.getElem?_cons_zero]; rfl) (by rfl) (fun W hW => ?_) ?_; rotate_left; (focus (first | (go_simp; done) | (go_simp; go_bits; (first | done | with_reducible rfl)) | (go_simp; (repeat rw [if_pos (by omega)]); (first | done | with_reducible rfl)) | (go_simp; with_reducible rfl)))) | (refine plan_calm_skip (by simp only [List.getElem?_toArray, List.getElem?_cons_succ, List.getElem?_cons_zero]; rfl) (by rfl) ?_)); (try simp only [Act.put, List.setIfInBounds_toArray, List.set_cons_zero, List.set_cons_succ]))
        (first | (refine plan_calm (v := ?_) (by simp only [List.getElem?_toArray, List.getElem?_cons_succ, List.getElem?_cons_zero]; rfl) (by rfl) (fun W hW => ?_) ?_; rotate_left; (focus (have q0_ := (hS.trans hW).cell x0; have q1_ := (hS.trans hW).cell x1; have q2_ := (hS.trans hW).cell x2; clear hW; (first | (go_simp; done) | (go_simp; go_bits; (first | done | with_reducible rfl)) | (go_simp; (repeat rw [if_pos (by omega)]); (first | done | with_reducible rfl)) | (go_simp; with_reducible rfl))))) | (refine plan_calm_skip (by simp only [List.getElem?_toArray, List.getElem?_cons_succ, List.getElem?_cons_zero]; rfl) (by rfl) ?_)); (try simp only [Act.put, List.setIfInBounds_toArray, List.set_cons_zero, List.set_cons_succ])
        iterate 4 ((first | (refine plan_calm (v := ?_) (by simp only [List.getElem?_toArray, List.getElem?_cons_succ, List.getElem?_cons_zero]; rfl) (by rfl) (fun W hW => ?_) ?_; rotate_left; (focus (first | (go_simp; done) | (go_simp; go_bits; (first | done | with_reducible rfl)) | (go_simp; (repeat rw [if_pos (by omega)]); (first | done | with_reducible rfl)) | (go_simp; with_reducible rfl)))) | (refine plan_calm_skip (by simp only [List.getElem?_toArray, List.getElem?_cons_succ, List.getElem?_cons_zero]; rfl) (by rfl) ?_)); (try simp only [Act.put, List.setIfInBounds_toArray, List.set_cons_zero, List.set_cons_succ]))
        (first | (refine plan_calm (v := ?_) (by simp only [List.getElem?_toArray, List.getElem?_cons_succ, List.getElem?_cons_zero]; rfl) (by rfl) (fun W hW => ?_) ?_; rotate_left; (focus (have q0_ := (hS.trans hW).cell x0; have q1_ := (hS.trans hW).cell x1; have q2_ := (hS.trans hW).cell x2; clear hW; (first | (go_simp; done) | (go_simp; go_bits; (first | done | with_reducible rfl)) | (go_simp; (repeat rw [if_pos (by omega)]); (first | done | with_reducible rfl)) | (go_simp; with_reducible rfl))))) | (refine plan_calm_skip (by simp only [List.getElem?_toArray, List.getElem?_cons_succ, List.getElem?_cons_zero]; rfl) (by rfl) ?_)); (try simp only [Act.put, List.setIfInBounds_toArray, List.set_cons_zero, List.set_cons_succ])
        (first | (refine plan_calm (v := ?_) (by simp only [List.getElem?_toArray, List.getElem?_cons_succ, List.getElem?_cons_zero]; rfl) (by rfl) (fun W hW => ?_) ?_; rotate_left; (focus (first | (go_simp; done) | (go_simp; go_bits; (first | done | with_reducible rfl)) | (go_simp; (repeat rw [if_pos (by omega)]); (first | done | with_reducible rfl)) | (go_simp; with_reducible rfl)))) | (refine plan_calm_skip (by simp only [List.getElem?_toArray, List.getElem?_cons_succ, List.getElem?_cons_zero]; rfl) (by rfl) ?_)); (try simp only [Act.put, List.setIfInBounds_toArray, List.set_cons_zero, List.set_cons_succ])
        (first | (refine plan_event (by simp only [List.getElem?_toArray, List.getElem?_cons_succ, List.getElem?_cons_zero]; rfl) (by rfl) (fun K hK => ?_) plan_stop; go_simp; refine (fb _ (by (repeat (first | exact Stp.refl _ | assumption | refine Stp.drew ?_ | refine Stp.drewN ?_ _ | refine Stp.alloc ?_ _ | refine Stp.setCell ?_ (by first | omega | (simp; omega) | simp) _ | refine Stp.trans ?_ (by assumption))))).mono ?_; rintro e w3 ⟨v3, rfl, o3, hb3⟩; obtain ⟨A3, c3, rfl⟩ := o3.reads.slice; refine hK _ _ ?_ (fun hst => ?_); (focus (repeat (first | exact Stp.refl _ | assumption | refine Stp.drew ?_ | refine Stp.drewN ?_ _ | refine Stp.alloc ?_ _ | refine Stp.setCell ?_ (by first | omega | (simp; omega) | simp) _ | refine Stp.trans ?_ (by assumption)))); replace hS := hS.trans hst; clear hst hK K) | refine plan_event_skip (by simp only [List.getElem?_toArray, List.getElem?_cons_succ, List.getElem?_cons_zero]; rfl) (by rfl) ?_ plan_stop); (try simp only [Act.put, List.setIfInBounds_toArray, List.set_cons_zero, List.set_cons_succ])
        (first | (refine plan_calm (v := ?_) (by simp only [List.getElem?_toArray, List.getElem?_cons_succ, List.getElem?_cons_zero]; rfl) (by rfl) (fun W hW => ?_) ?_; rotate_left; (focus (first | (go_simp; done) | (go_simp; go_bits; (first | done | with_reducible rfl)) | (go_simp; (repeat rw [if_pos (by omega)]); (first | done | with_reducible rfl)) | (go_simp; with_reducible rfl)))) | (refine plan_calm_skip (by simp only [List.getElem?_toArray, List.getElem?_cons_succ, List.getElem?_cons_zero]; rfl) (by rfl) ?_)); (try simp only [Act.put, List.setIfInBounds_toArray, List.set_cons_zero, List.set_cons_succ])
        refine plan_done ?_
        clear fb
        have hs2 := hS
        clear hS
        replace x0 := hs2.cell x0
        replace x1 := hs2.cell x1
        replace x2 := hs2.cell x2
        replace x3 := hs2.cell x3
        replace x4 := hs2.cell x4
        have r3 := o3.reads
        clear o3
        replace r2 := r2.stp hs2
        have hmp := Lib.hid (hpt.out.1.1)
        go_wp2_with fail
        go_loopg [7, 8] la.length (fun gg s7 s8 w4 => ∃ j : Nat, j ≤ la.length ∧ la.length - j ≤ gg ∧ s8 = .int .i64 j ∧ s7 = .int .i64 (atIn p j) ∧ Stp w3 w4)
        case atStart => exact ⟨0, Nat.zero_le _, by omega, rfl, by simp [atIn], by (repeat (first | exact Stp.refl _ | assumption | refine Stp.drew ?_ | refine Stp.drewN ?_ _ | refine Stp.alloc ?_ _ | refine Stp.setCell ?_ (by first | omega | (simp; omega) | simp) _ | refine Stp.trans ?_ (by assumption)))⟩
        case round =>
          obtain ⟨j, hj, hgj, rfl, rfl, hbj⟩ := hrel
          by_cases hjt : j < la.length
          · have hjz : (j : Int) < (la.length : Int) := by omega
            obtain ⟨b', o', rfl, _, hbw', y0, y1, y2, y3, y4⟩ := hear_at (r2.stp hbj) j hjt
            have hjp := Lib.hid (hpt.out.2 j hjt)
            generalize hz : la[j] = z at y0 y1 y2 y3 y4 hjp
            clear hz
            replace x0 := hbj.cell x0
            replace x1 := hbj.cell x1
            replace x2 := hbj.cell x2
            replace x3 := hbj.cell x3
            replace x4 := hbj.cell x4
            go_wp2_with fail
            refine wp_region_plan (Plan.calm 0 (Plan.calm 1 (Plan.calm 2 (Plan.calm 3 (Plan.calm 4 (Plan.calm 5 (Plan.calm 6 (Plan.calm 7 (Plan.calm 8 Plan.done))))))))) (by kernel_rfl) (by kernel_rfl) (by kernel_rfl) ?_
            have hS : Stp wr wr.drew := (Stp.refl _).drew
            iterate 3 ((first | (refine plan_calm (v := ?_) (by simp only [List.getElem?_toArray, List.getElem?_cons_succ, List.getElem?_cons_zero]; rfl) (by rfl) (fun W hW => ?_) ?_; rotate_left; (focus (first | (go_simp; done) | (go_simp; go_bits; (first | done | with_reducible rfl)) | (go_simp; (repeat rw [if_pos (by omega)]); (first | done | with_reducible rfl)) | (go_simp; with_reducible rfl)))) | (refine plan_calm_skip (by simp only [List.getElem?_toArray, List.getElem?_cons_succ, List.getElem?_cons_zero]; rfl) (by rfl) ?_)); (try simp only [Act.put, List.setIfInBounds_toArray, List.set_cons_zero, List.set_cons_succ]))
            (first | (refine plan_calm (v := ?_) (by simp only [List.getElem?_toArray, List.getElem?_cons_succ, List.getElem?_cons_zero]; rfl) (by rfl) (fun W hW => ?_) ?_; rotate_left; (focus (have q0_ := (hS.trans hW).cell x0; have q1_ := (hS.trans hW).cell x1; have q2_ := (hS.trans hW).cell x2; have q3_ := (hS.trans hW).cell x3; have q4_ := (hS.trans hW).cell x4; have q5_ := (hS.trans hW).cell y0; have q6_ := (hS.trans hW).cell y1; have q7_ := (hS.trans hW).cell y2; have q8_ := (hS.trans hW).cell y3; have q9_ := (hS.trans hW).cell y4; clear hW; (first | (go_simp; done) | (go_simp; go_bits; (first | done | with_reducible rfl)) | (go_simp; (repeat rw [if_pos (by omega)]); (first | done | with_reducible rfl)) | (go_simp; with_reducible rfl))))) | (refine plan_calm_skip (by simp only [List.getElem?_toArray, List.getElem?_cons_succ, List.getElem?_cons_zero]; rfl) (by rfl) ?_)); (try simp only [Act.put, List.setIfInBounds_toArray, List.set_cons_zero, List.set_cons_succ])
            iterate 3 ((first | (refine plan_calm (v := ?_) (by simp only [List.getElem?_toArray, List.getElem?_cons_succ, List.getElem?_cons_zero]; rfl) (by rfl) (fun W hW => ?_) ?_; rotate_left; (focus (first | (go_simp; done) | (go_simp; go_bits; (first | done | with_reducible rfl)) | (go_simp; (repeat rw [if_pos (by omega)]); (first | done | with_reducible rfl)) | (go_simp; with_reducible rfl)))) | (refine plan_calm_skip (by simp only [List.getElem?_toArray, List.getElem?_cons_succ, List.getElem?_cons_zero]; rfl) (by rfl) ?_)); (try simp only [Act.put, List.setIfInBounds_toArray, List.set_cons_zero, List.set_cons_succ]))
            (first | (refine plan_calm (v := ?_) (by simp only [List.getElem?_toArray, List.getElem?_cons_succ, List.getElem?_cons_zero]; rfl) (by rfl) (fun W hW => ?_) ?_; rotate_left; (focus (have q0_ := (hS.trans hW).cell x0; have q1_ := (hS.trans hW).cell x1; have q2_ := (hS.trans hW).cell x2; have q3_ := (hS.trans hW).cell x3; have q4_ := (hS.trans hW).cell x4; have q5_ := (hS.trans hW).cell y0; have q6_ := (hS.trans hW).cell y1; have q7_ := (hS.trans hW).cell y2; have q8_ := (hS.trans hW).cell y3; have q9_ := (hS.trans hW).cell y4; clear hW; (first | (go_simp; done) | (go_simp; go_bits; (first | done | with_reducible rfl)) | (go_simp; (repeat rw [if_pos (by omega)]); (first | done | with_reducible rfl)) | (go_simp; with_reducible rfl))))) | (refine plan_calm_skip (by simp only [List.getElem?_toArray, List.getElem?_cons_succ, List.getElem?_cons_zero]; rfl) (by rfl) ?_)); (try simp only [Act.put, List.setIfInBounds_toArray, List.set_cons_zero, List.set_cons_succ])
            (first | (refine plan_calm (v := ?_) (by simp only [List.getElem?_toArray, List.getElem?_cons_succ, List.getElem?_cons_zero]; rfl) (by rfl) (fun W hW => ?_) ?_; rotate_left; (focus (first | (go_simp; done) | (go_simp; go_bits; (first | done | with_reducible rfl)) | (go_simp; (repeat rw [if_pos (by omega)]); (first | done | with_reducible rfl)) | (go_simp; with_reducible rfl)))) | (refine plan_calm_skip (by simp only [List.getElem?_toArray, List.getElem?_cons_succ, List.getElem?_cons_zero]; rfl) (by rfl) ?_)); (try simp only [Act.put, List.setIfInBounds_toArray, List.set_cons_zero, List.set_cons_succ])
            refine plan_done ?_
            go_wp2_with fail
            · rename_i hq
              have h1 : z.same y = true := same_yes hq
              clear hq
              rw [hjp.out, decide_eq_true_eq] at h1
              go_roundg (la.length - (j + 1))
              case measure => omega
              case rel => exact ⟨j + 1, by omega, by omega, by go_num, by rw [h1, atIn, if_neg (by omega)], by (repeat (first | exact Stp.refl _ | assumption | refine Stp.drew ?_ | refine Stp.drewN ?_ _ | refine Stp.alloc ?_ _ | refine Stp.setCell ?_ (by first | omega | (simp; omega) | simp) _ | refine Stp.trans ?_ (by assumption)))⟩
            · rename_i hq
              have h1 : z.same y = false := same_no hq
              clear hq
              rw [hjp.out, decide_eq_false_iff_not] at h1
              go_roundg (la.length - (j + 1))
              case measure => omega
              case rel => exact ⟨j + 1, by omega, by omega, by go_num, by rw [atIn_skip h1], by (repeat (first | exact Stp.refl _ | assumption | refine Stp.drew ?_ | refine Stp.drewN ?_ _ | refine Stp.alloc ?_ _ | refine Stp.setCell ?_ (by first | omega | (simp; omega) | simp) _ | refine Stp.trans ?_ (by assumption)))⟩
          · have hjz : ¬ (j : Int) < (la.length : Int) := by omega
            have hat : atIn p j = (p : Int) := by rw [atIn, if_neg (by have := hmp.out; omega)]
            rw [hat]
            clear hat
            replace x0 := hbj.cell x0
            replace x1 := hbj.cell x1
            replace x2 := hbj.cell x2
            replace x3 := hbj.cell x3
            replace x4 := hbj.cell x4
            replace r3 := r3.stp hbj
            go_wp2_with fail
            go_loopg [9] lb.length (fun gg s9 w4 => ∃ i : Nat, i ≤ lb.length ∧ lb.length - i ≤ gg ∧ s9 = .int .i64 i ∧ Stp wr w4)
            case atStart => exact ⟨0, Nat.zero_le _, by omega, rfl, by (repeat (first | exact Stp.refl _ | assumption | refine Stp.drew ?_ | refine Stp.drewN ?_ _ | refine Stp.alloc ?_ _ | refine Stp.setCell ?_ (by first | omega | (simp; omega) | simp) _ | refine Stp.trans ?_ (by assumption)))⟩
            case round =>
              obtain ⟨i, hi, hgi, rfl, hbi⟩ := hrel
              replace x0 := hbi.cell x0
              replace x1 := hbi.cell x1
              replace x2 := hbi.cell x2
              replace x3 := hbi.cell x3
              replace x4 := hbi.cell x4
              by_cases hit : i < lb.length
              · have hiz : (i : Int) < (lb.length : Int) := by omega
                obtain ⟨b', o', rfl, _, hbw', y0, y1, y2, y3, y4⟩ := hear_at (r3.stp hbi) i hit
                have hjp := Lib.hid (hpo.out i hit)
                generalize hz : lb[i] = z at y0 y1 y2 y3 y4 hjp
                clear hz
                go_wp2_with fail
                refine wp_region_plan (Plan.calm 0 (Plan.calm 1 (Plan.calm 2 (Plan.calm 3 (Plan.calm 4 (Plan.calm 5 (Plan.calm 6 (Plan.calm 7 (Plan.calm 8 Plan.done))))))))) (by kernel_rfl) (by kernel_rfl) (by kernel_rfl) ?_
                have hS : Stp wr wr.drew := (Stp.refl _).drew
                iterate 3 ((first | (refine plan_calm (v := ?_) (by simp only [List.getElem?_toArray, List.getElem?_cons_succ, List.getElem?_cons_zero]; rfl) (by rfl) (fun W hW => ?_) ?_; rotate_left; (focus (first | (go_simp; done) | (go_simp; go_bits; (first | done | with_reducible rfl)) | (go_simp; (repeat rw [if_pos (by omega)]); (first | done | with_reducible rfl)) | (go_simp; with_reducible rfl)))) | (refine plan_calm_skip (by simp only [List.getElem?_toArray, List.getElem?_cons_succ, List.getElem?_cons_zero]; rfl) (by rfl) ?_)); (try simp only [Act.put, List.setIfInBounds_toArray, List.set_cons_zero, List.set_cons_succ]))
                (first | (refine plan_calm (v := ?_) (by simp only [List.getElem?_toArray, List.getElem?_cons_succ, List.getElem?_cons_zero]; rfl) (by rfl) (fun W hW => ?_) ?_; rotate_left; (focus (have q0_ := (hS.trans hW).cell x0; have q1_ := (hS.trans hW).cell x1; have q2_ := (hS.trans hW).cell x2; have q3_ := (hS.trans hW).cell x3; have q4_ := (hS.trans hW).cell x4; have q5_ := (hS.trans hW).cell y0; have q6_ := (hS.trans hW).cell y1; have q7_ := (hS.trans hW).cell y2; have q8_ := (hS.trans hW).cell y3; have q9_ := (hS.trans hW).cell y4; clear hW; (first | (go_simp; done) | (go_simp; go_bits; (first | done | with_reducible rfl)) | (go_simp; (repeat rw [if_pos (by omega)]); (first | done | with_reducible rfl)) | (go_simp; with_reducible rfl))))) | (refine plan_calm_skip (by simp only [List.getElem?_toArray, List.getElem?_cons_succ, List.getElem?_cons_zero]; rfl) (by rfl) ?_)); (try simp only [Act.put, List.setIfInBounds_toArray, List.set_cons_zero, List.set_cons_succ])
                iterate 3 ((first | (refine plan_calm (v := ?_) (by simp only [List.getElem?_toArray, List.getElem?_cons_succ, List.getElem?_cons_zero]; rfl) (by rfl) (fun W hW => ?_) ?_; rotate_left; (focus (first | (go_simp; done) | (go_simp; go_bits; (first | done | with_reducible rfl)) | (go_simp; (repeat rw [if_pos (by omega)]); (first | done | with_reducible rfl)) | (go_simp; with_reducible rfl)))) | (refine plan_calm_skip (by simp only [List.getElem?_toArray, List.getElem?_cons_succ, List.getElem?_cons_zero]; rfl) (by rfl) ?_)); (try simp only [Act.put, List.setIfInBounds_toArray, List.set_cons_zero, List.set_cons_succ]))
                (first | (refine plan_calm (v := ?_) (by simp only [List.getElem?_toArray, List.getElem?_cons_succ, List.getElem?_cons_zero]; rfl) (by rfl) (fun W hW => ?_) ?_; rotate_left; (focus (have q0_ := (hS.trans hW).cell x0; have q1_ := (hS.trans hW).cell x1; have q2_ := (hS.trans hW).cell x2; have q3_ := (hS.trans hW).cell x3; have q4_ := (hS.trans hW).cell x4; have q5_ := (hS.trans hW).cell y0; have q6_ := (hS.trans hW).cell y1; have q7_ := (hS.trans hW).cell y2; have q8_ := (hS.trans hW).cell y3; have q9_ := (hS.trans hW).cell y4; clear hW; (first | (go_simp; done) | (go_simp; go_bits; (first | done | with_reducible rfl)) | (go_simp; (repeat rw [if_pos (by omega)]); (first | done | with_reducible rfl)) | (go_simp; with_reducible rfl))))) | (refine plan_calm_skip (by simp only [List.getElem?_toArray, List.getElem?_cons_succ, List.getElem?_cons_zero]; rfl) (by rfl) ?_)); (try simp only [Act.put, List.setIfInBounds_toArray, List.set_cons_zero, List.set_cons_succ])
                (first | (refine plan_calm (v := ?_) (by simp only [List.getElem?_toArray, List.getElem?_cons_succ, List.getElem?_cons_zero]; rfl) (by rfl) (fun W hW => ?_) ?_; rotate_left; (focus (first | (go_simp; done) | (go_simp; go_bits; (first | done | with_reducible rfl)) | (go_simp; (repeat rw [if_pos (by omega)]); (first | done | with_reducible rfl)) | (go_simp; with_reducible rfl)))) | (refine plan_calm_skip (by simp only [List.getElem?_toArray, List.getElem?_cons_succ, List.getElem?_cons_zero]; rfl) (by rfl) ?_)); (try simp only [Act.put, List.setIfInBounds_toArray, List.set_cons_zero, List.set_cons_succ])
                refine plan_done ?_
                go_wp2_with fail
                · exfalso
                  rename_i hq
                  have h1 : z.same y = true := same_yes hq
                  rw [hjp.out] at h1
                  cases h1
                · clear hjp
                  go_roundg (lb.length - (i + 1))
                  case measure => omega
                  case rel => exact ⟨i + 1, by omega, by omega, by go_num, by (repeat (first | exact Stp.refl _ | assumption | refine Stp.drew ?_ | refine Stp.drewN ?_ _ | refine Stp.alloc ?_ _ | refine Stp.setCell ?_ (by first | omega | (simp; omega) | simp) _ | refine Stp.trans ?_ (by assumption)))⟩
              · have hiz : ¬ (i : Int) < (lb.length : Int) := by omega
                clear x0 x1 x2 x3 x4
                have hp0 : ¬ (p : Int) < 0 := by omega
                by_cases hp : p = 0
                · subst hp
                  have hst' := hst.out
                  rw [if_pos rfl, hcn.out] at hst'
                  have hcl' : cn + la.length ≤ xs.length := by have := hle.out; omega
                  have hst2 := Lib.hid hst'
                  clear hst' hst hcn
                  go_wp2_with fail
                  go_roundg (xs.length - (k + 1))
                  case measure => omega
                  case rel => exact ⟨k + 1, cn + la.length, by omega, by omega, by go_num, by go_num, by omega, by (repeat (first | exact Stp.refl _ | assumption | refine Stp.drew ?_ | refine Stp.drewN ?_ _ | refine Stp.alloc ?_ _ | refine Stp.setCell ?_ (by first | omega | (simp; omega) | simp) _ | refine Stp.trans ?_ (by assumption))), hst2.out⟩
                · have hst' := hst.out
                  rw [if_neg hp, hcn.out] at hst'
                  have hst2 := Lib.hid hst'
                  have hpz : ((p : Int) == 0) = false := beq_eq_false_iff_ne.2 (by omega)
                  clear hst' hst hcn hp
                  go_wp2_with fail
                  go_roundg (xs.length - (k + 1))
                  case measure => omega
                  case rel => exact ⟨k + 1, cn, by omega, by omega, by go_num, rfl, by omega, by (repeat (first | exact Stp.refl _ | assumption | refine Stp.drew ?_ | refine Stp.drewN ?_ _ | refine Stp.alloc ?_ _ | refine Stp.setCell ?_ (by first | omega | (simp; omega) | simp) _ | refine Stp.trans ?_ (by assumption))), hst2.out⟩
      · have hltz : ¬ (k : Int) < (xs.length : Int) := by omega
        have hkx : k = xs.length := by omega
        subst hkx
        have hcx : cn = xs.length := by rw [← hcn.out, heard_all]
        subst hcx
        go_wp2_with ((go_at_call 8; refine (live_c _).mono ?_; rintro e w3 ⟨rfl, hb3⟩; obtain ⟨hc3, hf3⟩ := hb3.bc; have hz3 := hb3.size; (try simp only [World.size_alloc] at hz3 hc3 hf3)))
        go_ret
        exact ⟨rfl, by (repeat (first | exact Stp.refl _ | assumption | refine Stp.drew ?_ | refine Stp.drewN ?_ _ | refine Stp.alloc ?_ _ | refine Stp.setCell ?_ (by first | omega | (simp; omega) | simp) _ | refine Stp.trans ?_ (by assumption)))⟩
  · have cc := fun W (hW : Stp w W) => check_c (hr.stp hW) 64
    have hne : (hearCheck xs 64 != 0) = true := by simpa using hfine
    generalize hearCheck xs 64 = n at cc hne
    clear hfine
    go_enter Try.func6, Try.ntmps6
    go_wp2_with fail
    refine (show Calls Try.prog 13 _ _ _ from cc _ (by (repeat (first | exact Stp.refl _ | assumption | refine Stp.drew ?_ | refine Stp.drewN ?_ _ | refine Stp.alloc ?_ _ | refine Stp.setCell ?_ (by first | omega | (simp; omega) | simp) _ | refine Stp.trans ?_ (by assumption))))).mono ?_
    rintro e w1 ⟨rfl, hb1⟩
    clear cc
    go_wp2_with ((go_at_call 8; refine (live_c _).mono ?_; rintro e w3 ⟨rfl, hb3⟩; obtain ⟨hc3, hf3⟩ := hb3.bc; have hz3 := hb3.size; (try simp only [World.size_alloc] at hz3 hc3 hf3)))
    go_ret
    exact ⟨rfl, by (repeat (first | exact Stp.refl _ | assumption | refine Stp.drew ?_ | refine Stp.drewN ?_ _ | refine Stp.alloc ?_ _ | refine Stp.setCell ?_ (by first | omega | (simp; omega) | simp) _ | refine Stp.trans ?_ (by assumption)))⟩
end
end Go.Proofs.Lime
