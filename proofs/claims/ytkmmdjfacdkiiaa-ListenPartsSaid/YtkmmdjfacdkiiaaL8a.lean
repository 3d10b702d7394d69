/- Walks: where a listener stands; those that hear something. -/
import Derived.Test.YtkmmdjfacdkiiaaHear
namespace Go.Proofs.Lime
open Go.RowKit
set_option linter.unusedVariables false
set_option linter.unusedSimpArgs false

/-- What is asked of a predicate on listeners. -/
def HearPred (g : Nat) (lb : Array Value) (p : Hear → Bool) (w : World) : Prop :=
  ∀ (W : World) (x : Hear), Stp w W → Calls Try.prog g (#[x.val] ++ lb) W fun e w' => e = .returned (.bool (p x)) ∧ Stp W w'

set_option maxHeartbeats 1000000 in
theorem indexFunc_c {S : Nat → Prop} {w : World} {v : Value} {xs : List Hear} (h : Row hearK S w v xs) (p : Hear → Bool) (g : Nat) (lb : Array Value)
    (eg : ∀ args w, (callFunc g args).run Try.prog w = .ok (.enter g args) w) (hp : HearPred g lb p w) :
    Calls Try.prog 27 #[v, .func (.func g) #[] lb] w fun e w' => e = .returned (.int .i64 (idx p xs)) ∧ Stp w w' := by
  obtain ⟨A, c, rfl, hc, hm⟩ := h.form
  go_enter Try.func27, Try.ntmps27
  go_wp2
  go_loopg [5, 8] xs.length (fun gg _ s8 wr => ∃ k : Nat, k ≤ xs.length ∧ xs.length - k ≤ gg ∧ s8 = .int .i64 k ∧ Stp w wr ∧ Aside (idxFrom p k (xs.drop k) = idx p xs))
  case atStart => exact ⟨0, Nat.zero_le _, by omega, rfl, Stp.refl w, rfl⟩
  case round =>
    obtain ⟨k, hk, hg, rfl, hb, A1⟩ := hrel
    by_cases hlt : k < xs.length
    · have hltz : (k : Int) < (xs.length : Int) := by omega
      obtain ⟨b, o, rfl, hS, hbw, x0, x1, x2, x3, x4⟩ := hear_at (h.stp hb) k hlt
      have hcall := hp wr xs[k] hb
      generalize hy : xs[k] = y at x0 x1 x2 x3 x4 hcall
      have B : Aside (xs[k] = y) := hy
      clear hy h hp
      cases hq : p y with
      | true =>
        rw [hq] at hcall
        go_wp2_with (go_at_fn g; refine hcall.mono ?_; rintro e w' ⟨rfl, hb'⟩)
        go_ret
        exact ⟨ret_int (by rw [← A1.out, idxFrom_hit hlt (by rw [B.out]; exact hq)]), hb.trans hb'⟩
      | false =>
        rw [hq] at hcall
        go_wp2_with (go_at_fn g; refine hcall.mono ?_; rintro e w' ⟨rfl, hb'⟩)
        go_roundg (xs.length - (k + 1))
        case measure => omega
        case rel => exact ⟨k + 1, by omega, by omega, by go_num, hb.trans hb', (idxFrom_miss hlt (by rw [B.out]; exact hq)).symm.trans A1.out⟩
    · have hltz : ¬ (k : Int) < (xs.length : Int) := by omega
      go_wp2
      go_ret
      exact ⟨ret_int (by rw [← A1.out, idxFrom_end hlt]), hb⟩

theorem idx_any {α : Type} (p : α → Bool) (xs : List α) : decide (0 ≤ idx p xs) = xs.any p := by
  have : ∀ (k : Int), 0 ≤ k → decide (0 ≤ idxFrom p k xs) = xs.any p := by
    induction xs with
    | nil => intro k hk; simp [idxFrom]
    | cons x xs ih =>
      intro k hk
      rw [idxFrom, List.any_cons]
      cases p x
      · simpa using ih (k + 1) (by omega)
      · simpa using hk
  exact this 0 (by omega)

theorem containsFunc_c {S : Nat → Prop} {w : World} {v : Value} {xs : List Hear} (h : Row hearK S w v xs) (p : Hear → Bool) (g : Nat) (lb : Array Value)
    (eg : ∀ args w, (callFunc g args).run Try.prog w = .ok (.enter g args) w) (hp : HearPred g lb p w) :
    Calls Try.prog 24 #[v, .func (.func g) #[] lb] w fun e w' => e = .returned (.bool (xs.any p)) ∧ Stp w w' := by
  rw [← idx_any]
  go_enter Try.func24, Try.ntmps24
  go_wp2_with (go_at_call 27; refine (indexFunc_c h p g lb eg hp).mono ?_; rintro e w' ⟨rfl, hb'⟩)
  go_ret
  exact ⟨rfl, hb'⟩

section
attribute [local go_sem high] eqHear
theorem at1_c (h x : Hear) (B : Nat) (w : World) (h0 : w.cell? ⟨B, 0, none⟩ = some (.int .i64 h.node)) (h1 : w.cell? ⟨B, 1, none⟩ = some (.int .i64 h.type)) (h2 : w.cell? ⟨B, 2, none⟩ = some (.bool h.cap)) (h3 : w.cell? ⟨B, 3, none⟩ = some (.bool h.once)) (h4 : w.cell? ⟨B, 4, none⟩ = some (.int .i64 h.prog)) :
    Calls Try.prog 28 #[x.val, .pointer (some ⟨B, 0, none⟩)] w fun e w' => e = .returned (.bool (x.one h)) ∧ Stp w w' := by
  have hB : B < w.heap.size := World.block_lt_of_cell? w _ h0
  go_enter Try.func28, Try.ntmps28
  go_wp2
  go_ret
  exact ⟨rfl, by (repeat (first | exact Stp.refl _ | assumption | refine Stp.drew ?_ | refine Stp.drewN ?_ _ | refine Stp.alloc ?_ _ | refine Stp.setCell ?_ (by first | omega | (simp; omega) | simp) _ | refine Stp.trans ?_ (by assumption)))⟩
end
theorem at_c {S : Nat → Prop} {w : World} {v : Value} {xs : List Hear} (hr : Row hearK S w v xs) (h : Hear) :
    Calls Try.prog 19 #[v, h.val] w fun e w' => e = .returned (.int .i64 (idx (·.one h) xs)) ∧ Stp w w' := by
  have e1 := (enters_of Try.func28 (by kernel_rfl) rfl)
  have hr' := hr.stp ((Stp.refl w).alloc (.cells #[.int .i64 h.node, .int .i64 h.type, .bool h.cap, .bool h.once, .int .i64 h.prog] 24))
  clear hr
  go_enter Try.func19, Try.ntmps19
  go_wp2_with (go_at_call 27; refine (indexFunc_c hr' (·.one h) _ _ e1 ?_).mono ?_; (intro W x hW; refine at1_c h x _ W (hW.cell ?_) (hW.cell ?_) (hW.cell ?_) (hW.cell ?_) (hW.cell ?_) <;> go_simp); rintro e w' ⟨rfl, hb'⟩)
  go_ret
  exact ⟨rfl, ((Stp.refl w).alloc _).trans hb'⟩

theorem check1_c (n : Int) (x : Hear) (B : Nat) (w : World) (h0 : w.cell? ⟨B, 0, none⟩ = some (.int .i64 n)) :
    Calls Try.prog 25 #[x.val, .pointer (some ⟨B, 0, none⟩)] w fun e w' => e = .returned (.bool (decide (n ≤ x.node))) ∧ Stp w w' := by
  have hB : B < w.heap.size := World.block_lt_of_cell? w _ h0
  go_enter Try.func25, Try.ntmps25
  go_wp2
  go_ret
  exact ⟨rfl, by (repeat (first | exact Stp.refl _ | assumption | refine Stp.drew ?_ | refine Stp.drewN ?_ _ | refine Stp.alloc ?_ _ | refine Stp.setCell ?_ (by first | omega | (simp; omega) | simp) _ | refine Stp.trans ?_ (by assumption)))⟩

set_option maxHeartbeats 1000000 in
theorem for_c {S : Nat → Prop} {w : World} {v : Value} {xs : List Hear} (hr : Row hearK S w v xs) (hl : xs.length ≤ 1000) (node type : Int) (cap : Bool) :
    Calls Try.prog 16 #[v, .int .i64 node, .int .i64 type, .bool cap] w (OwnRet hearK 24 (hearFor xs node type cap) w) := by
  obtain ⟨A, c, rfl, hc, hm⟩ := hr.form
  go_enter Try.func16, Try.ntmps16
  go_wp2
  go_loopg [9, 14] xs.length (fun gg s9 s14 wr => ∃ (k : Nat) (out : List Hear), k ≤ xs.length ∧ xs.length - k ≤ gg ∧ s14 = .int .i64 k ∧ Aside (out.length ≤ k) ∧ Stp w wr ∧ Own hearK 24 (w.heap.size ≤ ·) wr s9 out ∧ Aside (out ++ hearFor (xs.drop k) node type cap = hearFor xs node type cap))
  case atStart => exact ⟨0, [], Nat.zero_le _, by omega, rfl, Nat.zero_le _, Stp.refl w, Own.nil _ _ _ _, rfl⟩
  case round =>
    obtain ⟨k, out, hk, hg, rfl, hol, hb, hO, A1⟩ := hrel
    by_cases hlt : k < xs.length
    · have hltz : (k : Int) < (xs.length : Int) := by omega
      obtain ⟨b, o, rfl, hS, hbw, x0, x1, x2, x3, x4⟩ := hear_at (hr.stp hb) k hlt
      generalize hy : xs[k] = y at x0 x1 x2 x3 x4
      have B : Aside (xs[k] = y) := hy
      clear hy hr
      have hle := hol.out
      go_wp2_with ((at_builtin; refine wpl_append1 (d := hearK) (S := (w.heap.size ≤ ·)) (T := fun _ => False) rfl (.tmp 34) (.tmp 36) 22 24 _ 32 rfl Try.underlying22 infoHear rfl (by decide) (by decide) u9 out y _ rfl (by first | (go_simp; done) | (go_simp; rfl)) (by show _ = Hear.cells y; simp [Hear.cells, *]) (fun _ h _ => h.elim) (hO.stp (by (repeat (first | exact Stp.refl _ | assumption | refine Stp.drew ?_ | refine Stp.drewN ?_ _ | refine Stp.alloc ?_ _ | refine Stp.setCell ?_ (by first | omega | (simp; omega) | simp) _ | refine Stp.trans ?_ (by assumption))))) (fun k hk => Nat.le_trans (Stp.size (by (repeat (first | exact Stp.refl _ | assumption | refine Stp.drew ?_ | refine Stp.drewN ?_ _ | refine Stp.alloc ?_ _ | refine Stp.setCell ?_ (by first | omega | (simp; omega) | simp) _ | refine Stp.trans ?_ (by assumption))))) hk) (by omega) ?_; intro v1 w1 ho hg2; have hb2 : Stp w w1 := Stp.grown (by (repeat (first | exact Stp.refl _ | assumption | refine Stp.drew ?_ | refine Stp.drewN ?_ _ | refine Stp.alloc ?_ _ | refine Stp.setCell ?_ (by first | omega | (simp; omega) | simp) _ | refine Stp.trans ?_ (by assumption)))) hg2 hO.blk))
      · go_roundg (xs.length - (k + 1))
        case measure => omega
        case rel => exact ⟨k + 1, out ++ [y], by omega, by omega, by go_num, by show (out ++ [y]).length ≤ k + 1; simp; omega, hb2, ho, by show out ++ [y] ++ _ = _; rw [← A1.out, hearFor_step hlt, B.out, if_pos (by simp [*])]; simp⟩
      all_goals
        go_roundg (xs.length - (k + 1))
        case measure => omega
        case rel => exact ⟨k + 1, out, by omega, by omega, by go_num, by show out.length ≤ k + 1; omega, by (repeat (first | exact Stp.refl _ | assumption | refine Stp.drew ?_ | refine Stp.drewN ?_ _ | refine Stp.alloc ?_ _ | refine Stp.setCell ?_ (by first | omega | (simp; omega) | simp) _ | refine Stp.trans ?_ (by assumption))), hO.stp (by (repeat (first | exact Stp.refl _ | assumption | refine Stp.drew ?_ | refine Stp.drewN ?_ _ | refine Stp.alloc ?_ _ | refine Stp.setCell ?_ (by first | omega | (simp; omega) | simp) _ | refine Stp.trans ?_ (by assumption)))), by show out ++ _ = _; rw [← A1.out, hearFor_step hlt, B.out, if_neg (by simp [*])]; simp⟩
    · have hltz : ¬ (k : Int) < (xs.length : Int) := by omega
      go_wp2
      go_ret
      exact ⟨_, rfl, by rw [← A1.out, List.drop_eq_nil_of_le (by omega)]; simpa [hearFor] using hO, hb⟩
end Go.Proofs.Lime
