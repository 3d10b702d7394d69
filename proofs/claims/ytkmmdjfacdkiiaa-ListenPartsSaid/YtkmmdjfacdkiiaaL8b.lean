/- Walks of the document's functions on listeners; may a listener be. -/
import Derived.Test.YtkmmdjfacdkiiaaL8a
namespace Go.Proofs.Lime
open Go.RowKit
set_option linter.unusedVariables false
set_option linter.unusedSimpArgs false

theorem may_c (h : Hear) (w : World) : Calls Try.prog 18 #[h.val] w fun e w' => e = .returned (.bool h.may) ∧ Stp w w' := by
  go_enter Try.func18, Try.ntmps18
  go_wp2
  all_goals
    go_ret
    exact ⟨by first | (simp [Hear.may, *]; done) | (simp [Hear.may, *]; omega), by (repeat (first | exact Stp.refl _ | assumption | refine Stp.drew ?_ | refine Stp.drewN ?_ _ | refine Stp.alloc ?_ _ | refine Stp.setCell ?_ (by first | omega | (simp; omega) | simp) _ | refine Stp.trans ?_ (by assumption)))⟩
theorem rmay_c (h : Hear) (w : World) : Calls Try.prog 21 #[h.val] w fun e w' => e = .returned (.bool h.may) ∧ Stp w w' := by
  go_enter Try.func21, Try.ntmps21
  go_wp2
  all_goals
    go_ret
    exact ⟨by first | (simp [Hear.may, *]; done) | (simp [Hear.may, *]; omega), by (repeat (first | exact Stp.refl _ | assumption | refine Stp.drew ?_ | refine Stp.drewN ?_ _ | refine Stp.alloc ?_ _ | refine Stp.setCell ?_ (by first | omega | (simp; omega) | simp) _ | refine Stp.trans ?_ (by assumption)))⟩
theorem rone_c (a b : Hear) (w : World) : Calls Try.prog 29 #[a.val, b.val] w fun e w' => e = .returned (.bool (a.one b)) ∧ Stp w w' := by
  go_enter Try.func29, Try.ntmps29
  go_wp2
  all_goals
    go_ret
    exact ⟨by first | (simp [Hear.one, *]; done) | (simp [Hear.one, *]; omega), by (repeat (first | exact Stp.refl _ | assumption | refine Stp.drew ?_ | refine Stp.drewN ?_ _ | refine Stp.alloc ?_ _ | refine Stp.setCell ?_ (by first | omega | (simp; omega) | simp) _ | refine Stp.trans ?_ (by assumption)))⟩

set_option maxHeartbeats 1000000 in
theorem rplace_c {S : Nat → Prop} {w : World} {v : Value} {xs : List Hear} (hr : Row hearK S w v xs) (h : Hear) :
    Calls Try.prog 22 #[v, h.val] w fun e w' => e = .returned (.int .i64 (idx (·.one h) xs)) ∧ Stp w w' := by
  obtain ⟨A, c, rfl, hc, hm⟩ := hr.form
  have hr' := hr.stp ((Stp.refl w).alloc (.cells #[.int .i64 h.node, .int .i64 h.type, .bool h.cap, .bool h.once, .int .i64 h.prog] 24))
  clear hr
  go_enter Try.func22, Try.ntmps22
  go_wp2
  obtain ⟨w0, hw0, hb0, hz0, gc⟩ := box_named w #[.int .i64 h.node, .int .i64 h.type, .bool h.cap, .bool h.once, .int .i64 h.prog] 24
  rw [hw0] at hr' ⊢
  have g0 := gc 0 _ rfl
  have g1 := gc 1 _ rfl
  have g2 := gc 2 _ rfl
  have g3 := gc 3 _ rfl
  have g4 := gc 4 _ rfl
  clear hw0 gc hz0
  go_loopg [5] xs.length (fun gg s5 wr => ∃ k : Nat, k ≤ xs.length ∧ xs.length - k ≤ gg ∧ s5 = .int .i64 k ∧ Stp w0 wr ∧ Aside (idxFrom (·.one h) k (xs.drop k) = idx (·.one h) xs))
  case atStart => exact ⟨0, Nat.zero_le _, by omega, rfl, Stp.refl w0, rfl⟩
  case round =>
    obtain ⟨k, hk, hg, rfl, hb, A1⟩ := hrel
    by_cases hlt : k < xs.length
    · have hltz : (k : Int) < (xs.length : Int) := by omega
      obtain ⟨b, o, rfl, hS, hbw, x0, x1, x2, x3, x4⟩ := hear_at (hr'.stp hb) k hlt
      replace g0 := hb.cell g0
      replace g1 := hb.cell g1
      replace g2 := hb.cell g2
      replace g3 := hb.cell g3
      replace g4 := hb.cell g4
      generalize hy : xs[k] = y at x0 x1 x2 x3 x4
      have B : Aside (xs[k] = y) := hy
      clear hy hr'
      have hcall := fun W => rone_c y h W
      cases hq : y.one h with
      | true =>
        rw [hq] at hcall
        go_wp2
        go_region_held3 (fun W => W.cell? ⟨b, o + k * 5, none⟩ = some (.int .i64 y.node) ∧ W.cell? ⟨b, o + k * 5 + 1, none⟩ = some (.int .i64 y.type) ∧ W.cell? ⟨b, o + k * 5 + 2, none⟩ = some (.bool y.cap) ∧ W.cell? ⟨b, o + k * 5 + 3, none⟩ = some (.bool y.once) ∧ W.cell? ⟨b, o + k * 5 + 4, none⟩ = some (.int .i64 y.prog) ∧ W.cell? ⟨w.heap.size, 0, none⟩ = some (.int .i64 h.node) ∧ W.cell? ⟨w.heap.size, 1, none⟩ = some (.int .i64 h.type) ∧ W.cell? ⟨w.heap.size, 2, none⟩ = some (.bool h.cap) ∧ W.cell? ⟨w.heap.size, 3, none⟩ = some (.bool h.once) ∧ W.cell? ⟨w.heap.size, 4, none⟩ = some (.int .i64 h.prog)) (exact ⟨Stp.cell (by (repeat (first | exact Stp.refl _ | assumption | refine Stp.drew ?_ | refine Stp.drewN ?_ _ | refine Stp.alloc ?_ _ | refine Stp.setCell ?_ (by first | omega | (simp; omega) | simp) _ | refine Stp.trans ?_ (by assumption)))) x0, Stp.cell (by (repeat (first | exact Stp.refl _ | assumption | refine Stp.drew ?_ | refine Stp.drewN ?_ _ | refine Stp.alloc ?_ _ | refine Stp.setCell ?_ (by first | omega | (simp; omega) | simp) _ | refine Stp.trans ?_ (by assumption)))) x1, Stp.cell (by (repeat (first | exact Stp.refl _ | assumption | refine Stp.drew ?_ | refine Stp.drewN ?_ _ | refine Stp.alloc ?_ _ | refine Stp.setCell ?_ (by first | omega | (simp; omega) | simp) _ | refine Stp.trans ?_ (by assumption)))) x2, Stp.cell (by (repeat (first | exact Stp.refl _ | assumption | refine Stp.drew ?_ | refine Stp.drewN ?_ _ | refine Stp.alloc ?_ _ | refine Stp.setCell ?_ (by first | omega | (simp; omega) | simp) _ | refine Stp.trans ?_ (by assumption)))) x3, Stp.cell (by (repeat (first | exact Stp.refl _ | assumption | refine Stp.drew ?_ | refine Stp.drewN ?_ _ | refine Stp.alloc ?_ _ | refine Stp.setCell ?_ (by first | omega | (simp; omega) | simp) _ | refine Stp.trans ?_ (by assumption)))) x4, Stp.cell (by (repeat (first | exact Stp.refl _ | assumption | refine Stp.drew ?_ | refine Stp.drewN ?_ _ | refine Stp.alloc ?_ _ | refine Stp.setCell ?_ (by first | omega | (simp; omega) | simp) _ | refine Stp.trans ?_ (by assumption)))) g0, Stp.cell (by (repeat (first | exact Stp.refl _ | assumption | refine Stp.drew ?_ | refine Stp.drewN ?_ _ | refine Stp.alloc ?_ _ | refine Stp.setCell ?_ (by first | omega | (simp; omega) | simp) _ | refine Stp.trans ?_ (by assumption)))) g1, Stp.cell (by (repeat (first | exact Stp.refl _ | assumption | refine Stp.drew ?_ | refine Stp.drewN ?_ _ | refine Stp.alloc ?_ _ | refine Stp.setCell ?_ (by first | omega | (simp; omega) | simp) _ | refine Stp.trans ?_ (by assumption)))) g2, Stp.cell (by (repeat (first | exact Stp.refl _ | assumption | refine Stp.drew ?_ | refine Stp.drewN ?_ _ | refine Stp.alloc ?_ _ | refine Stp.setCell ?_ (by first | omega | (simp; omega) | simp) _ | refine Stp.trans ?_ (by assumption)))) g3, Stp.cell (by (repeat (first | exact Stp.refl _ | assumption | refine Stp.drew ?_ | refine Stp.drewN ?_ _ | refine Stp.alloc ?_ _ | refine Stp.setCell ?_ (by first | omega | (simp; omega) | simp) _ | refine Stp.trans ?_ (by assumption)))) g4⟩) (first | (go_at_call 29; refine (hcall _).mono ?_; rintro e w' ⟨rfl, hb2⟩))
        go_wp2
        go_ret
        exact ⟨ret_int (by rw [← A1.out, idxFrom_hit hlt (by rw [B.out]; exact hq)]), hb0.trans (hb.trans hb2.of_drew)⟩
      | false =>
        rw [hq] at hcall
        go_wp2
        go_region_held3 (fun W => W.cell? ⟨b, o + k * 5, none⟩ = some (.int .i64 y.node) ∧ W.cell? ⟨b, o + k * 5 + 1, none⟩ = some (.int .i64 y.type) ∧ W.cell? ⟨b, o + k * 5 + 2, none⟩ = some (.bool y.cap) ∧ W.cell? ⟨b, o + k * 5 + 3, none⟩ = some (.bool y.once) ∧ W.cell? ⟨b, o + k * 5 + 4, none⟩ = some (.int .i64 y.prog) ∧ W.cell? ⟨w.heap.size, 0, none⟩ = some (.int .i64 h.node) ∧ W.cell? ⟨w.heap.size, 1, none⟩ = some (.int .i64 h.type) ∧ W.cell? ⟨w.heap.size, 2, none⟩ = some (.bool h.cap) ∧ W.cell? ⟨w.heap.size, 3, none⟩ = some (.bool h.once) ∧ W.cell? ⟨w.heap.size, 4, none⟩ = some (.int .i64 h.prog)) (exact ⟨Stp.cell (by (repeat (first | exact Stp.refl _ | assumption | refine Stp.drew ?_ | refine Stp.drewN ?_ _ | refine Stp.alloc ?_ _ | refine Stp.setCell ?_ (by first | omega | (simp; omega) | simp) _ | refine Stp.trans ?_ (by assumption)))) x0, Stp.cell (by (repeat (first | exact Stp.refl _ | assumption | refine Stp.drew ?_ | refine Stp.drewN ?_ _ | refine Stp.alloc ?_ _ | refine Stp.setCell ?_ (by first | omega | (simp; omega) | simp) _ | refine Stp.trans ?_ (by assumption)))) x1, Stp.cell (by (repeat (first | exact Stp.refl _ | assumption | refine Stp.drew ?_ | refine Stp.drewN ?_ _ | refine Stp.alloc ?_ _ | refine Stp.setCell ?_ (by first | omega | (simp; omega) | simp) _ | refine Stp.trans ?_ (by assumption)))) x2, Stp.cell (by (repeat (first | exact Stp.refl _ | assumption | refine Stp.drew ?_ | refine Stp.drewN ?_ _ | refine Stp.alloc ?_ _ | refine Stp.setCell ?_ (by first | omega | (simp; omega) | simp) _ | refine Stp.trans ?_ (by assumption)))) x3, Stp.cell (by (repeat (first | exact Stp.refl _ | assumption | refine Stp.drew ?_ | refine Stp.drewN ?_ _ | refine Stp.alloc ?_ _ | refine Stp.setCell ?_ (by first | omega | (simp; omega) | simp) _ | refine Stp.trans ?_ (by assumption)))) x4, Stp.cell (by (repeat (first | exact Stp.refl _ | assumption | refine Stp.drew ?_ | refine Stp.drewN ?_ _ | refine Stp.alloc ?_ _ | refine Stp.setCell ?_ (by first | omega | (simp; omega) | simp) _ | refine Stp.trans ?_ (by assumption)))) g0, Stp.cell (by (repeat (first | exact Stp.refl _ | assumption | refine Stp.drew ?_ | refine Stp.drewN ?_ _ | refine Stp.alloc ?_ _ | refine Stp.setCell ?_ (by first | omega | (simp; omega) | simp) _ | refine Stp.trans ?_ (by assumption)))) g1, Stp.cell (by (repeat (first | exact Stp.refl _ | assumption | refine Stp.drew ?_ | refine Stp.drewN ?_ _ | refine Stp.alloc ?_ _ | refine Stp.setCell ?_ (by first | omega | (simp; omega) | simp) _ | refine Stp.trans ?_ (by assumption)))) g2, Stp.cell (by (repeat (first | exact Stp.refl _ | assumption | refine Stp.drew ?_ | refine Stp.drewN ?_ _ | refine Stp.alloc ?_ _ | refine Stp.setCell ?_ (by first | omega | (simp; omega) | simp) _ | refine Stp.trans ?_ (by assumption)))) g3, Stp.cell (by (repeat (first | exact Stp.refl _ | assumption | refine Stp.drew ?_ | refine Stp.drewN ?_ _ | refine Stp.alloc ?_ _ | refine Stp.setCell ?_ (by first | omega | (simp; omega) | simp) _ | refine Stp.trans ?_ (by assumption)))) g4⟩) (first | (go_at_call 29; refine (hcall _).mono ?_; rintro e w' ⟨rfl, hb2⟩))
        go_wp2
        go_roundg (xs.length - (k + 1))
        case measure => omega
        case rel => exact ⟨k + 1, by omega, by omega, by go_num, hb.trans hb2.of_drew, (idxFrom_miss hlt (by rw [B.out]; exact hq)).symm.trans A1.out⟩
    · have hltz : ¬ (k : Int) < (xs.length : Int) := by omega
      go_wp2
      go_ret
      exact ⟨ret_int (by rw [← A1.out, idxFrom_end hlt]), hb0.trans hb⟩

set_option maxHeartbeats 1000000 in
theorem rfor_c {S : Nat → Prop} {w : World} {v : Value} {xs : List Hear} (hr : Row hearK S w v xs) (hl : xs.length ≤ 1000) (node type : Int) (cap : Bool) :
    Calls Try.prog 17 #[v, .int .i64 node, .int .i64 type, .bool cap] w (OwnRet hearK 24 (hearFor xs node type cap) w) := by
  obtain ⟨A, c, rfl, hc, hm⟩ := hr.form
  go_enter Try.func17, Try.ntmps17
  go_wp2
  go_loopg [9, 10] xs.length (fun gg s9 s14 wr => ∃ (k : Nat) (out : List Hear), k ≤ xs.length ∧ xs.length - k ≤ gg ∧ s14 = .int .i64 k ∧ Aside (out.length ≤ k) ∧ Stp w wr ∧ Own hearK 24 (w.heap.size ≤ ·) wr s9 out ∧ Aside (out ++ hearFor (xs.drop k) node type cap = hearFor xs node type cap))
  case atStart => exact ⟨0, [], Nat.zero_le _, by omega, rfl, Nat.zero_le _, Stp.refl w, Own.nil _ _ _ _, rfl⟩
  case round =>
    obtain ⟨k, out, hk, hg, rfl, hol, hb, hO, A1⟩ := hrel
    by_cases hlt : k < xs.length
    · have hltz : (k : Int) < (xs.length : Int) := by omega
      obtain ⟨b, o, rfl, hS, hbw, x0, x1, x2, x3, x4⟩ := hear_at (hr.stp hb) k hlt
      generalize hy : xs[k] = y at x0 x1 x2 x3 x4
      have B : Aside (xs[k] = y) := hy
      clear hy hr
      have hle := hol.out
      go_wp2_with ((at_builtin; refine wpl_append1 (d := hearK) (S := (w.heap.size ≤ ·)) (T := fun _ => False) rfl (.tmp 42) (.tmp 47) 22 24 _ 32 rfl Try.underlying22 infoHear rfl (by decide) (by decide) u9 out y _ rfl (by first | (go_simp; done) | (go_simp; rfl)) (by show _ = Hear.cells y; simp [Hear.cells, *]) (fun _ h _ => h.elim) (hO.stp (by (repeat (first | exact Stp.refl _ | assumption | refine Stp.drew ?_ | refine Stp.drewN ?_ _ | refine Stp.alloc ?_ _ | refine Stp.setCell ?_ (by first | omega | (simp; omega) | simp) _ | refine Stp.trans ?_ (by assumption))))) (fun k hk => Nat.le_trans (Stp.size (by (repeat (first | exact Stp.refl _ | assumption | refine Stp.drew ?_ | refine Stp.drewN ?_ _ | refine Stp.alloc ?_ _ | refine Stp.setCell ?_ (by first | omega | (simp; omega) | simp) _ | refine Stp.trans ?_ (by assumption))))) hk) (by omega) ?_; intro v1 w1 ho hg2; have hb2 : Stp w w1 := Stp.grown (by (repeat (first | exact Stp.refl _ | assumption | refine Stp.drew ?_ | refine Stp.drewN ?_ _ | refine Stp.alloc ?_ _ | refine Stp.setCell ?_ (by first | omega | (simp; omega) | simp) _ | refine Stp.trans ?_ (by assumption)))) hg2 hO.blk))
      · go_roundg (xs.length - (k + 1))
        case measure => omega
        case rel => exact ⟨k + 1, out ++ [y], by omega, by omega, by go_num, by show (out ++ [y]).length ≤ k + 1; simp; omega, hb2, ho, by show out ++ [y] ++ _ = _; rw [← A1.out, hearFor_step hlt, B.out, if_pos (by simp [*])]; simp⟩
      all_goals
        go_roundg (xs.length - (k + 1))
        case measure => omega
        case rel => exact ⟨k + 1, out, by omega, by omega, by go_num, by show out.length ≤ k + 1; omega, by (repeat (first | exact Stp.refl _ | assumption | refine Stp.drew ?_ | refine Stp.drewN ?_ _ | refine Stp.alloc ?_ _ | refine Stp.setCell ?_ (by first | omega | (simp; omega) | simp) _ | refine Stp.trans ?_ (by assumption))), hO.stp (by (repeat (first | exact Stp.refl _ | assumption | refine Stp.drew ?_ | refine Stp.drewN ?_ _ | refine Stp.alloc ?_ _ | refine Stp.setCell ?_ (by first | omega | (simp; omega) | simp) _ | refine Stp.trans ?_ (by assumption)))), by show out ++ _ = _; rw [← A1.out, hearFor_step hlt, B.out, if_neg (by simp [*])]; simp⟩
    · have hltz : ¬ (k : Int) < (xs.length : Int) := by omega
      go_wp2
      go_ret
      exact ⟨_, rfl, by rw [← A1.out, List.drop_eq_nil_of_le (by omega)]; simpa [hearFor] using hO, hb⟩
end Go.Proofs.Lime
