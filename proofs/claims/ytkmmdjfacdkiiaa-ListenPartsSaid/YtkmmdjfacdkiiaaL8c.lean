/- Walks: lists of listeners held against each other, copied, added to. -/
import Derived.Test.YtkmmdjfacdkiiaaL8b
namespace Go.Proofs.Lime
open Go.RowKit
set_option linter.unusedVariables false
set_option linter.unusedSimpArgs false

/-- From the n-th on: are both alike? -/
def sameFrom : List Hear → List Hear → Bool
  | a :: l, b :: r => a.same b && sameFrom l r
  | _, _ => true

theorem sameFrom_step {xs ys : List Hear} {k : Nat} (h : k < xs.length) (h2 : k < ys.length) : sameFrom (xs.drop k) (ys.drop k) = (xs[k].same ys[k] && sameFrom (xs.drop (k + 1)) (ys.drop (k + 1))) := by
  rw [List.drop_eq_getElem_cons h, List.drop_eq_getElem_cons h2, sameFrom]
theorem five_no {a b c d e : Bool} (h : (!a) = true ∨ (!b) = true ∨ (!c) = true ∨ (!d) = true ∨ (!e) = true) : (a && (b && (c && (d && e)))) = false := by
  cases a <;> cases b <;> cases c <;> cases d <;> cases e <;> simp_all
theorem five_yes {a b c d e : Bool} (h : (!a) = false ∧ (!b) = false ∧ (!c) = false ∧ (!d) = false ∧ (!e) = false) : (a && (b && (c && (d && e)))) = true := by
  cases a <;> cases b <;> cases c <;> cases d <;> cases e <;> simp_all
section
attribute [local go_sem high] eqHear
set_option maxHeartbeats 1000000 in
theorem rsame_c {S T : Nat → Prop} {w : World} {v u : Value} {xs ys : List Hear} (hr : Row hearK S w v xs) (hu : Row hearK T w u ys) :
    Calls Try.prog 15 #[v, u] w fun e w' => e = .returned (.bool (xs.length == ys.length && sameFrom xs ys)) ∧ Stp w w' := by
  obtain ⟨A, c, rfl, hc, hm⟩ := hr.form
  obtain ⟨A2, c2, rfl, hc2, hm2⟩ := hu.form
  cases hl : (xs.length == ys.length) with
  | false =>
    have hl2 : (xs.length != ys.length) = true := by simpa using hl
    clear hl
    go_enter Try.func15, Try.ntmps15
    go_wp2
    go_ret
    exact ⟨by simp, Stp.refl w⟩
  | true =>
  have hlen : xs.length = ys.length := by simpa using hl
  have HL := Lib.hid hlen
  have hl2 : (xs.length != ys.length) = false := by simpa using hl
  clear hl
  go_enter Try.func15, Try.ntmps15
  go_wp2
  go_loopg [5] xs.length (fun gg s5 wr => ∃ k : Nat, k ≤ xs.length ∧ xs.length - k ≤ gg ∧ s5 = .int .i64 k ∧ Stp w wr ∧ Aside (sameFrom (xs.drop k) (ys.drop k) = sameFrom xs ys))
  case atStart => exact ⟨0, Nat.zero_le _, by omega, rfl, Stp.refl w, rfl⟩
  case round =>
    obtain ⟨k, hk, hg, rfl, hb, A1⟩ := hrel
    by_cases hlt : k < xs.length
    · have hltz : (k : Int) < (xs.length : Int) := by omega
      have hlty : k < ys.length := by have := HL.out; omega
      have hltyz : (k : Int) < (ys.length : Int) := by omega
      obtain ⟨b, o, rfl, hS, hbw, x0, x1, x2, x3, x4⟩ := hear_at (hr.stp hb) k hlt
      obtain ⟨b2, o2, rfl, hS2, hbw2, y0, y1, y2, y3, y4⟩ := hear_at (hu.stp hb) k hlty
      generalize hx : xs[k] = x at x0 x1 x2 x3 x4
      have B : Aside (xs[k] = x) := hx
      generalize hy : ys[k] = y at y0 y1 y2 y3 y4
      have B2 : Aside (ys[k] = y) := hy
      clear hx hy hr hu
      go_wp2
      repeat (go_quiet (fail); try go_wp2)
      · rename_i hq
        have hs : x.same y = false := five_no hq
        go_ret
        exact ⟨by rw [← A1.out, sameFrom_step hlt hlty, B.out, B2.out, hs]; rfl, by (repeat (first | exact Stp.refl _ | assumption | refine Stp.drew ?_ | refine Stp.drewN ?_ _ | refine Stp.alloc ?_ _ | refine Stp.setCell ?_ (by first | omega | (simp; omega) | simp) _ | refine Stp.trans ?_ (by assumption)))⟩
      · rename_i hq
        have hs : Aside (x.same y = true) := five_yes hq
        clear hq
        go_roundg (xs.length - (k + 1))
        case measure => omega
        case rel => exact ⟨k + 1, by omega, by omega, by go_num, by (repeat (first | exact Stp.refl _ | assumption | refine Stp.drew ?_ | refine Stp.drewN ?_ _ | refine Stp.alloc ?_ _ | refine Stp.setCell ?_ (by first | omega | (simp; omega) | simp) _ | refine Stp.trans ?_ (by assumption))), by rw [← A1.out, sameFrom_step hlt hlty, B.out, B2.out, hs.out]; exact (Bool.true_and _).symm⟩
    · have hltz : ¬ (k : Int) < (xs.length : Int) := by omega
      go_wp2
      go_ret
      exact ⟨by rw [← A1.out, List.drop_eq_nil_of_le (by omega)]; simp [sameFrom], hb⟩
end

theorem clone_c {S : Nat → Prop} {w : World} {v : Value} {xs : List Hear} (hr : Row hearK S w v xs) (hl : xs.length ≤ 1000) :
    Calls Try.prog 20 #[v] w (OwnRet hearK 24 xs w) := by
  obtain ⟨A, c, rfl, hc, hm⟩ := hr.form
  have hnil := fun (w : World) (a : Option Addr) (n c : Nat) => Lib.run_eql_slice_nil (P := Try.prog) w 22 24 a n c 0 0 Try.underlying22
  have hr' := hr.stp ((Stp.refl w).alloc (.cells #[] 24))
  cases A with
  | none =>
    have h0 : xs = [] := by
      cases xs with
      | nil => rfl
      | cons y ys => obtain ⟨b, o, c, cs, e, _⟩ := hr.get 0 (by simp); injection e with e; cases e
    subst h0
    clear hr hr'
    go_enter Try.func20, Try.ntmps20
    go_wp2
    go_ret
    exact ⟨_, rfl, Own.nil _ _ _ _, Stp.refl w⟩
  | some a =>
    clear hr
    go_enter Try.func20, Try.ntmps20
    go_wp2_with (at_builtin; refine wpl_appendrow (d := hearK) (S := (w.heap.size ≤ ·)) (T' := fun _ => False) rfl (.tmp 5) (.tmp 6) 22 24 _ 32 rfl Try.underlying22 infoHear rfl (by decide) (by decide) _ [] _ xs rfl rfl hr' (fun _ _ h => h) (fun _ h _ => h.elim) (Own.fresh _ _ _ w (Nat.le_refl _)) (fun k hk => Nat.le_trans (Stp.size (by (repeat (first | exact Stp.refl _ | assumption | refine Stp.drew ?_ | refine Stp.drewN ?_ _ | refine Stp.alloc ?_ _ | refine Stp.setCell ?_ (by first | omega | (simp; omega) | simp) _ | refine Stp.trans ?_ (by assumption))))) hk) (by simp; omega) ?_; intro v1 w1 ho hg2; have hb2 : Stp w w1 := Stp.grown (by (repeat (first | exact Stp.refl _ | assumption | refine Stp.drew ?_ | refine Stp.drewN ?_ _ | refine Stp.alloc ?_ _ | refine Stp.setCell ?_ (by first | omega | (simp; omega) | simp) _ | refine Stp.trans ?_ (by assumption)))) hg2 (Own.fresh hearK 24 (w.heap.size ≤ ·) w (Nat.le_refl _)).blk)
    go_ret
    exact ⟨_, rfl, ho, hb2⟩

set_option maxHeartbeats 1000000 in
theorem radd_c {S : Nat → Prop} {w : World} {v : Value} {xs : List Hear} (hr : Row hearK S w v xs) (hl : xs.length ≤ 1000) (h : Hear) :
    Calls Try.prog 10 #[v, h.val] w (RowNum hearK (hearAdd xs h) (hearAddErr xs h) w) := by
  obtain ⟨A, c, rfl, hc, hm⟩ := hr.form
  go_enter Try.func10, Try.ntmps10
  go_wp2_with (first | (go_at_call 21; refine (rmay_c h _).mono ?_; rintro e w1 ⟨rfl, hb1⟩; obtain ⟨hc1, hf1⟩ := hb1.bc; have hz1 := hb1.size; (try simp only [World.size_alloc] at hz1 hc1 hf1)) | (go_at_call 22; refine (rplace_c (hr.stp (by (repeat (first | exact Stp.refl _ | assumption | refine Stp.drew ?_ | refine Stp.drewN ?_ _ | refine Stp.alloc ?_ _ | refine Stp.setCell ?_ (by first | omega | (simp; omega) | simp) _ | refine Stp.trans ?_ (by assumption))))) h).mono ?_; rintro e w2 ⟨rfl, hb2⟩; obtain ⟨hc2, hf2⟩ := hb2.bc; have hz2 := hb2.size; (try simp only [World.size_alloc] at hz2 hc2 hf2)))
  · go_ret2
    exact rowNum_of (hearAdd_1 ‹_›).1 (hearAdd_1 ‹_›).2 ((hr.mono fun _ _ => trivial).stp (by (repeat (first | exact Stp.refl _ | assumption | refine Stp.drew ?_ | refine Stp.drewN ?_ _ | refine Stp.alloc ?_ _ | refine Stp.setCell ?_ (by first | omega | (simp; omega) | simp) _ | refine Stp.trans ?_ (by assumption))))) (by (repeat (first | exact Stp.refl _ | assumption | refine Stp.drew ?_ | refine Stp.drewN ?_ _ | refine Stp.alloc ?_ _ | refine Stp.setCell ?_ (by first | omega | (simp; omega) | simp) _ | refine Stp.trans ?_ (by assumption))))
  · go_ret2
    exact rowNum_of (hearAdd_2 ‹_› ‹_›).1 (hearAdd_2 ‹_› ‹_›).2 ((hr.mono fun _ _ => trivial).stp (by (repeat (first | exact Stp.refl _ | assumption | refine Stp.drew ?_ | refine Stp.drewN ?_ _ | refine Stp.alloc ?_ _ | refine Stp.setCell ?_ (by first | omega | (simp; omega) | simp) _ | refine Stp.trans ?_ (by assumption))))) (by (repeat (first | exact Stp.refl _ | assumption | refine Stp.drew ?_ | refine Stp.drewN ?_ _ | refine Stp.alloc ?_ _ | refine Stp.setCell ?_ (by first | omega | (simp; omega) | simp) _ | refine Stp.trans ?_ (by assumption))))
  · go_ret2
    exact rowNum_of (hearAdd_3 ‹_› ‹_› ‹_›).1 (hearAdd_3 ‹_› ‹_› ‹_›).2 ((hr.mono fun _ _ => trivial).stp (by (repeat (first | exact Stp.refl _ | assumption | refine Stp.drew ?_ | refine Stp.drewN ?_ _ | refine Stp.alloc ?_ _ | refine Stp.setCell ?_ (by first | omega | (simp; omega) | simp) _ | refine Stp.trans ?_ (by assumption))))) (by (repeat (first | exact Stp.refl _ | assumption | refine Stp.drew ?_ | refine Stp.drewN ?_ _ | refine Stp.alloc ?_ _ | refine Stp.setCell ?_ (by first | omega | (simp; omega) | simp) _ | refine Stp.trans ?_ (by assumption))))
  · have g0 : w2.cell? ⟨w.heap.size, 0, none⟩ = some (.int .i64 h.node) := hb2.cell (hb1.cell (box_cell w _ _ 0))
    have g1 : w2.cell? ⟨w.heap.size, 1, none⟩ = some (.int .i64 h.type) := hb2.cell (hb1.cell (box_cell w _ _ 1))
    have g2 : w2.cell? ⟨w.heap.size, 2, none⟩ = some (.bool h.cap) := hb2.cell (hb1.cell (box_cell w _ _ 2))
    have g3 : w2.cell? ⟨w.heap.size, 3, none⟩ = some (.bool h.once) := hb2.cell (hb1.cell (box_cell w _ _ 3))
    have g4 : w2.cell? ⟨w.heap.size, 4, none⟩ = some (.int .i64 h.prog) := hb2.cell (hb1.cell (box_cell w _ _ 4))
    clear hc1 hf1 hc2 hf2
    go_region_held3 (fun W => W.cell? ⟨w.heap.size, 0, none⟩ = some (.int .i64 h.node) ∧ W.cell? ⟨w.heap.size, 1, none⟩ = some (.int .i64 h.type) ∧ W.cell? ⟨w.heap.size, 2, none⟩ = some (.bool h.cap) ∧ W.cell? ⟨w.heap.size, 3, none⟩ = some (.bool h.once) ∧ W.cell? ⟨w.heap.size, 4, none⟩ = some (.int .i64 h.prog)) (exact ⟨Stp.cell (by (repeat (first | exact Stp.refl _ | assumption | refine Stp.drew ?_ | refine Stp.drewN ?_ _ | refine Stp.alloc ?_ _ | refine Stp.setCell ?_ (by first | omega | (simp; omega) | simp) _ | refine Stp.trans ?_ (by assumption)))) g0, Stp.cell (by (repeat (first | exact Stp.refl _ | assumption | refine Stp.drew ?_ | refine Stp.drewN ?_ _ | refine Stp.alloc ?_ _ | refine Stp.setCell ?_ (by first | omega | (simp; omega) | simp) _ | refine Stp.trans ?_ (by assumption)))) g1, Stp.cell (by (repeat (first | exact Stp.refl _ | assumption | refine Stp.drew ?_ | refine Stp.drewN ?_ _ | refine Stp.alloc ?_ _ | refine Stp.setCell ?_ (by first | omega | (simp; omega) | simp) _ | refine Stp.trans ?_ (by assumption)))) g2, Stp.cell (by (repeat (first | exact Stp.refl _ | assumption | refine Stp.drew ?_ | refine Stp.drewN ?_ _ | refine Stp.alloc ?_ _ | refine Stp.setCell ?_ (by first | omega | (simp; omega) | simp) _ | refine Stp.trans ?_ (by assumption)))) g3, Stp.cell (by (repeat (first | exact Stp.refl _ | assumption | refine Stp.drew ?_ | refine Stp.drewN ?_ _ | refine Stp.alloc ?_ _ | refine Stp.setCell ?_ (by first | omega | (simp; omega) | simp) _ | refine Stp.trans ?_ (by assumption)))) g4⟩) (first | (refine stp_gate (xs := #[.tmp 19, .tmp 20]) rfl ?_; refine stp_appendfresh (d := hearK) (S := (w2.heap.size ≤ ·)) (T' := fun _ => False) rfl (.tmp 19) (.tmp 20) 22 24 _ 32 rfl Try.underlying22 infoHear rfl (by decide) (by decide) _ ?hB ?hS _ xs rfl rfl (hr.stp (by (repeat (first | exact Stp.refl _ | assumption | refine Stp.drew ?_ | refine Stp.drewN ?_ _ | refine Stp.alloc ?_ _ | refine Stp.setCell ?_ (by first | omega | (simp; omega) | simp) _ | refine Stp.trans ?_ (by assumption))))) (fun _ _ h => h) (fun _ h _ => h.elim) ?fr (by omega) ?_; (case hB => (repeat (first | (with_reducible assumption) | (with_reducible refine heap_drew ?_) | (with_reducible refine heap_new _ _ _ ?_; (first | rfl | omega | (simp; done) | (simp; omega)); done) | (with_reducible refine heap_old ?_) | (with_reducible refine Stp.heap (by with_reducible assumption) ?_)))); (case hS => ((try dsimp only); first | exact Nat.le_refl _ | omega | (simp; done) | (simp; omega) | exact Stp.size (by (repeat (first | exact Stp.refl _ | assumption | refine Stp.drew ?_ | refine Stp.drewN ?_ _ | refine Stp.alloc ?_ _ | refine Stp.setCell ?_ (by first | omega | (simp; omega) | simp) _ | refine Stp.trans ?_ (by assumption)))))); (case fr => exact fun k hk => Nat.le_trans (Stp.size (by (repeat (first | exact Stp.refl _ | assumption | refine Stp.drew ?_ | refine Stp.drewN ?_ _ | refine Stp.alloc ?_ _ | refine Stp.setCell ?_ (by first | omega | (simp; omega) | simp) _ | refine Stp.trans ?_ (by assumption))))) hk); intro v3 w3 ho3 hb3) | (refine stp_gate (xs := #[.tmp 21, .tmp 23]) rfl ?_; refine stp_appendrow (d := hearK) (S := (w2.heap.size ≤ ·)) (T' := fun _ => False) rfl (.tmp 21) (.tmp 23) 22 24 _ 32 rfl Try.underlying22 infoHear rfl (by decide) (by decide) _ xs _ [h] rfl rfl (hear_box (T := Any) h ?hB trivial) (fun _ _ h => h) (fun _ h _ => h.elim) (ho3.stp ?st) ?fr ?ln ?_; (case hB => (repeat (first | (with_reducible assumption) | (with_reducible refine heap_drew ?_) | (with_reducible refine heap_new _ _ _ ?_; (first | rfl | omega | (simp; done) | (simp; omega)); done) | (with_reducible refine heap_old ?_) | (with_reducible refine Stp.heap (by with_reducible assumption) ?_)))); (case st => (repeat (first | exact Stp.refl _ | assumption | refine Stp.drew ?_ | refine Stp.drewN ?_ _ | refine Stp.alloc ?_ _ | refine Stp.setCell ?_ (by first | omega | (simp; omega) | simp) _ | refine Stp.trans ?_ (by assumption)))); (case fr => exact fun k hk => Nat.le_trans (Stp.size (by (repeat (first | exact Stp.refl _ | assumption | refine Stp.drew ?_ | refine Stp.drewN ?_ _ | refine Stp.alloc ?_ _ | refine Stp.setCell ?_ (by first | omega | (simp; omega) | simp) _ | refine Stp.trans ?_ (by assumption))))) hk); (case ln => first | omega | (simp; omega)); intro v4 w4 ho4 hg4; have hb4 : Stp w2 w4 := Stp.grown (by (repeat (first | exact Stp.refl _ | assumption | refine Stp.drew ?_ | refine Stp.drewN ?_ _ | refine Stp.alloc ?_ _ | refine Stp.setCell ?_ (by first | omega | (simp; omega) | simp) _ | refine Stp.trans ?_ (by assumption)))) hg4 ho3.blk))
    all_goals
      go_wp2
      go_ret2
      exact rowNum_of (hearAdd_4 ‹_› ‹_› ‹_›).1 (hearAdd_4 ‹_› ‹_› ‹_›).2 (ho4.reads.mono fun _ _ => trivial) (by (repeat (first | exact Stp.refl _ | assumption | refine Stp.drew ?_ | refine Stp.drewN ?_ _ | refine Stp.alloc ?_ _ | refine Stp.setCell ?_ (by first | omega | (simp; omega) | simp) _ | refine Stp.trans ?_ (by assumption))))

set_option maxHeartbeats 1000000 in
theorem add_c {S : Nat → Prop} {w : World} {v : Value} {xs : List Hear} (hr : Row hearK S w v xs) (hl : xs.length ≤ 1000) (h : Hear) :
    Calls Try.prog 9 #[v, h.val] w (RowNum hearK (hearAdd xs h) (hearAddErr xs h) w) := by
  obtain ⟨A, c, rfl, hc, hm⟩ := hr.form
  go_enter Try.func9, Try.ntmps9
  go_wp2_with (first | (go_at_call 18; refine (may_c h _).mono ?_; rintro e w1 ⟨rfl, hb1⟩; obtain ⟨hc1, hf1⟩ := hb1.bc; have hz1 := hb1.size; (try simp only [World.size_alloc] at hz1 hc1 hf1)) | (go_at_call 19; refine (at_c (hr.stp (by (repeat (first | exact Stp.refl _ | assumption | refine Stp.drew ?_ | refine Stp.drewN ?_ _ | refine Stp.alloc ?_ _ | refine Stp.setCell ?_ (by first | omega | (simp; omega) | simp) _ | refine Stp.trans ?_ (by assumption))))) h).mono ?_; rintro e w2 ⟨rfl, hb2⟩; obtain ⟨hc2, hf2⟩ := hb2.bc; have hz2 := hb2.size; (try simp only [World.size_alloc] at hz2 hc2 hf2)))
  · go_ret2
    exact rowNum_of (hearAdd_1 ‹_›).1 (hearAdd_1 ‹_›).2 ((hr.mono fun _ _ => trivial).stp (by (repeat (first | exact Stp.refl _ | assumption | refine Stp.drew ?_ | refine Stp.drewN ?_ _ | refine Stp.alloc ?_ _ | refine Stp.setCell ?_ (by first | omega | (simp; omega) | simp) _ | refine Stp.trans ?_ (by assumption))))) (by (repeat (first | exact Stp.refl _ | assumption | refine Stp.drew ?_ | refine Stp.drewN ?_ _ | refine Stp.alloc ?_ _ | refine Stp.setCell ?_ (by first | omega | (simp; omega) | simp) _ | refine Stp.trans ?_ (by assumption))))
  · go_ret2
    exact rowNum_of (hearAdd_2 ‹_› ‹_›).1 (hearAdd_2 ‹_› ‹_›).2 ((hr.mono fun _ _ => trivial).stp (by (repeat (first | exact Stp.refl _ | assumption | refine Stp.drew ?_ | refine Stp.drewN ?_ _ | refine Stp.alloc ?_ _ | refine Stp.setCell ?_ (by first | omega | (simp; omega) | simp) _ | refine Stp.trans ?_ (by assumption))))) (by (repeat (first | exact Stp.refl _ | assumption | refine Stp.drew ?_ | refine Stp.drewN ?_ _ | refine Stp.alloc ?_ _ | refine Stp.setCell ?_ (by first | omega | (simp; omega) | simp) _ | refine Stp.trans ?_ (by assumption))))
  · go_ret2
    exact rowNum_of (hearAdd_3 ‹_› ‹_› ‹_›).1 (hearAdd_3 ‹_› ‹_› ‹_›).2 ((hr.mono fun _ _ => trivial).stp (by (repeat (first | exact Stp.refl _ | assumption | refine Stp.drew ?_ | refine Stp.drewN ?_ _ | refine Stp.alloc ?_ _ | refine Stp.setCell ?_ (by first | omega | (simp; omega) | simp) _ | refine Stp.trans ?_ (by assumption))))) (by (repeat (first | exact Stp.refl _ | assumption | refine Stp.drew ?_ | refine Stp.drewN ?_ _ | refine Stp.alloc ?_ _ | refine Stp.setCell ?_ (by first | omega | (simp; omega) | simp) _ | refine Stp.trans ?_ (by assumption))))
  · have g0 : w2.cell? ⟨w.heap.size, 0, none⟩ = some (.int .i64 h.node) := hb2.cell (hb1.cell (box_cell w _ _ 0))
    have g1 : w2.cell? ⟨w.heap.size, 1, none⟩ = some (.int .i64 h.type) := hb2.cell (hb1.cell (box_cell w _ _ 1))
    have g2 : w2.cell? ⟨w.heap.size, 2, none⟩ = some (.bool h.cap) := hb2.cell (hb1.cell (box_cell w _ _ 2))
    have g3 : w2.cell? ⟨w.heap.size, 3, none⟩ = some (.bool h.once) := hb2.cell (hb1.cell (box_cell w _ _ 3))
    have g4 : w2.cell? ⟨w.heap.size, 4, none⟩ = some (.int .i64 h.prog) := hb2.cell (hb1.cell (box_cell w _ _ 4))
    clear hc1 hf1 hc2 hf2
    go_region_held3 (fun W => W.cell? ⟨w.heap.size, 0, none⟩ = some (.int .i64 h.node) ∧ W.cell? ⟨w.heap.size, 1, none⟩ = some (.int .i64 h.type) ∧ W.cell? ⟨w.heap.size, 2, none⟩ = some (.bool h.cap) ∧ W.cell? ⟨w.heap.size, 3, none⟩ = some (.bool h.once) ∧ W.cell? ⟨w.heap.size, 4, none⟩ = some (.int .i64 h.prog)) (exact ⟨Stp.cell (by (repeat (first | exact Stp.refl _ | assumption | refine Stp.drew ?_ | refine Stp.drewN ?_ _ | refine Stp.alloc ?_ _ | refine Stp.setCell ?_ (by first | omega | (simp; omega) | simp) _ | refine Stp.trans ?_ (by assumption)))) g0, Stp.cell (by (repeat (first | exact Stp.refl _ | assumption | refine Stp.drew ?_ | refine Stp.drewN ?_ _ | refine Stp.alloc ?_ _ | refine Stp.setCell ?_ (by first | omega | (simp; omega) | simp) _ | refine Stp.trans ?_ (by assumption)))) g1, Stp.cell (by (repeat (first | exact Stp.refl _ | assumption | refine Stp.drew ?_ | refine Stp.drewN ?_ _ | refine Stp.alloc ?_ _ | refine Stp.setCell ?_ (by first | omega | (simp; omega) | simp) _ | refine Stp.trans ?_ (by assumption)))) g2, Stp.cell (by (repeat (first | exact Stp.refl _ | assumption | refine Stp.drew ?_ | refine Stp.drewN ?_ _ | refine Stp.alloc ?_ _ | refine Stp.setCell ?_ (by first | omega | (simp; omega) | simp) _ | refine Stp.trans ?_ (by assumption)))) g3, Stp.cell (by (repeat (first | exact Stp.refl _ | assumption | refine Stp.drew ?_ | refine Stp.drewN ?_ _ | refine Stp.alloc ?_ _ | refine Stp.setCell ?_ (by first | omega | (simp; omega) | simp) _ | refine Stp.trans ?_ (by assumption)))) g4⟩) (first | (go_at_call 20; refine (clone_c (hr.stp ?st) hl).mono ?_; (case st => (repeat (first | exact Stp.refl _ | assumption | refine Stp.drew ?_ | refine Stp.drewN ?_ _ | refine Stp.alloc ?_ _ | refine Stp.setCell ?_ (by first | omega | (simp; omega) | simp) _ | refine Stp.trans ?_ (by assumption)))); rintro e w3 ⟨v3, rfl, ho3, hb3⟩; replace ho3 := ho3.mono (S' := (w2.heap.size ≤ ·)) (fun k hk _ => Nat.le_trans (Stp.size (w := w2) (by (repeat (first | exact Stp.refl _ | assumption | refine Stp.drew ?_ | refine Stp.drewN ?_ _ | refine Stp.alloc ?_ _ | refine Stp.setCell ?_ (by first | omega | (simp; omega) | simp) _ | refine Stp.trans ?_ (by assumption))))) hk)) | (refine stp_gate (xs := #[.tmp 23, .tmp 25]) rfl ?_; refine stp_appendrow (d := hearK) (S := (w2.heap.size ≤ ·)) (T' := fun _ => False) rfl (.tmp 23) (.tmp 25) 22 24 _ 32 rfl Try.underlying22 infoHear rfl (by decide) (by decide) _ xs _ [h] rfl rfl (hear_box (T := Any) h ?hB trivial) (fun _ _ h => h) (fun _ h _ => h.elim) (ho3.stp ?st) ?fr ?ln ?_; (case hB => (repeat (first | (with_reducible assumption) | (with_reducible refine heap_drew ?_) | (with_reducible refine heap_new _ _ _ ?_; (first | rfl | omega | (simp; done) | (simp; omega)); done) | (with_reducible refine heap_old ?_) | (with_reducible refine Stp.heap (by with_reducible assumption) ?_)))); (case st => (repeat (first | exact Stp.refl _ | assumption | refine Stp.drew ?_ | refine Stp.drewN ?_ _ | refine Stp.alloc ?_ _ | refine Stp.setCell ?_ (by first | omega | (simp; omega) | simp) _ | refine Stp.trans ?_ (by assumption)))); (case fr => exact fun k hk => Nat.le_trans (Stp.size (by (repeat (first | exact Stp.refl _ | assumption | refine Stp.drew ?_ | refine Stp.drewN ?_ _ | refine Stp.alloc ?_ _ | refine Stp.setCell ?_ (by first | omega | (simp; omega) | simp) _ | refine Stp.trans ?_ (by assumption))))) hk); (case ln => first | omega | (simp; omega)); intro v4 w4 ho4 hg4; have hb4 : Stp w2 w4 := Stp.grown (by (repeat (first | exact Stp.refl _ | assumption | refine Stp.drew ?_ | refine Stp.drewN ?_ _ | refine Stp.alloc ?_ _ | refine Stp.setCell ?_ (by first | omega | (simp; omega) | simp) _ | refine Stp.trans ?_ (by assumption)))) hg4 ho3.blk))
    all_goals
      go_wp2
      go_ret2
      exact rowNum_of (hearAdd_4 ‹_› ‹_› ‹_›).1 (hearAdd_4 ‹_› ‹_› ‹_›).2 (ho4.reads.mono fun _ _ => trivial) (by (repeat (first | exact Stp.refl _ | assumption | refine Stp.drew ?_ | refine Stp.drewN ?_ _ | refine Stp.alloc ?_ _ | refine Stp.setCell ?_ (by first | omega | (simp; omega) | simp) _ | refine Stp.trans ?_ (by assumption))))
end Go.Proofs.Lime
