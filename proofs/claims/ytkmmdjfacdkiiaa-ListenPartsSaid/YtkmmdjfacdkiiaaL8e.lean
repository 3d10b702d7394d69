/- Walks: a listener dropped. -/
import Derived.Test.YtkmmdjfacdkiiaaDel
import Derived.Test.YtkmmdjfacdkiiaaL8d
namespace Go.Proofs.Lime
open Go.RowKit
set_option linter.unusedVariables false
set_option linter.unusedSimpArgs false

theorem idxFrom_nat {α : Type} (p : α → Bool) (xs : List α) : ∀ (m : Int), 0 ≤ m → 0 ≤ idxFrom p m xs → ∃ i : Nat, idxFrom p m xs = m + i ∧ ∃ h : i < xs.length, p xs[i] = true := by
  induction xs with
  | nil => intro m _ h; simp [idxFrom] at h
  | cons x xs ih =>
    intro m hm h
    rw [idxFrom] at h ⊢
    cases hx : p x with
    | true => exact ⟨0, by simp, by simp, hx⟩
    | false =>
      simp only [hx, Bool.false_eq_true, if_false] at h ⊢
      obtain ⟨i, h1, h2, h3⟩ := ih (m + 1) (by omega) h
      exact ⟨i + 1, by rw [h1]; omega, by simpa using h2, by simpa using h3⟩
theorem idx_nat {α : Type} {p : α → Bool} {xs : List α} (h : 0 ≤ idx p xs) : ∃ i : Nat, idx p xs = i ∧ ∃ h : i < xs.length, p xs[i] = true := by
  obtain ⟨i, h1, h2⟩ := idxFrom_nat p xs 0 (by omega) h
  exact ⟨i, by show idxFrom p 0 xs = _; rw [h1]; omega, h2⟩
theorem hearDrop_1 {l : List Hear} {h : Hear} (h1 : (!h.may) = true) : hearDrop l h = l ∧ hearDropErr l h = 1 := by
  have : h.may = false := by simpa using h1
  simp [hearDrop, hearDropErr, this]
theorem hearDrop_2 {l : List Hear} {h : Hear} (h1 : (!h.may) = false) (h2 : idx (·.one h) l < 0) : hearDrop l h = l ∧ hearDropErr l h = 9 := by
  have : h.may = true := by simpa using h1
  have h3 : ¬ 0 ≤ idx (·.one h) l := by omega
  simp only [hearDrop, hearDropErr, this]
  simp [h3]
theorem hearDrop_3 {l : List Hear} {h : Hear} (h1 : (!h.may) = false) {i : Nat} (h2 : idx (·.one h) l = i) : hearDrop l h = l.eraseIdx i ∧ hearDropErr l h = 0 := by
  have : h.may = true := by simpa using h1
  have h3 : 0 ≤ idx (·.one h) l := by omega
  simp only [hearDrop, hearDropErr, this]
  simp [h2]

set_option maxHeartbeats 1000000 in
theorem drop_c {S : Nat → Prop} {w : World} {v : Value} {xs : List Hear} (hr : Row hearK S w v xs) (hl : xs.length ≤ 1000) (h : Hear) :
    Calls Try.prog 11 #[v, h.val] w (RowNum hearK (hearDrop xs h) (hearDropErr xs h) w) := by
  obtain ⟨A, c, rfl, hc, hm⟩ := hr.form
  by_cases hix : 0 ≤ idx (·.one h) xs
  · obtain ⟨i, hi, hil, _⟩ := idx_nat hix
    have hi' := Lib.hid hi
    have ca := fun W (hW : Stp w W) => at_c (hr.stp hW) h
    rw [hi] at ca
    clear hi hix
    have g1 : ¬ (i : Int) < 0 := by omega
    go_enter Try.func11, Try.ntmps11
    go_wp2_with (first | (go_at_call 18; refine (may_c h _).mono ?_; rintro e w1 ⟨rfl, hb1⟩; obtain ⟨hc1, hf1⟩ := hb1.bc; have hz1 := hb1.size; (try simp only [World.size_alloc] at hz1 hc1 hf1)) | (go_at_call 19; refine (ca _ (by (repeat (first | exact Stp.refl _ | assumption | refine Stp.drew ?_ | refine Stp.drewN ?_ _ | refine Stp.alloc ?_ _ | refine Stp.setCell ?_ (by first | omega | (simp; omega) | simp) _ | refine Stp.trans ?_ (by assumption))))).mono ?_; rintro e w2 ⟨rfl, hb2⟩; clear ca) | (go_at_call 20; refine (clone_c (hr.stp (by (repeat (first | exact Stp.refl _ | assumption | refine Stp.drew ?_ | refine Stp.drewN ?_ _ | refine Stp.alloc ?_ _ | refine Stp.setCell ?_ (by first | omega | (simp; omega) | simp) _ | refine Stp.trans ?_ (by assumption))))) hl).mono ?_; rintro e w3 ⟨v3, rfl, ho3, hb3⟩) | (go_at_call 23; refine (delete_c ho3 i hil).mono ?_; rintro e w4 ⟨v4, rfl, ho4, hg4⟩))
    · go_ret2
      exact rowNum_of (hearDrop_1 ‹_›).1 (hearDrop_1 ‹_›).2 ((hr.mono fun _ _ => trivial).stp (by (repeat (first | exact Stp.refl _ | assumption | refine Stp.drew ?_ | refine Stp.drewN ?_ _ | refine Stp.alloc ?_ _ | refine Stp.setCell ?_ (by first | omega | (simp; omega) | simp) _ | refine Stp.trans ?_ (by assumption))))) (by (repeat (first | exact Stp.refl _ | assumption | refine Stp.drew ?_ | refine Stp.drewN ?_ _ | refine Stp.alloc ?_ _ | refine Stp.setCell ?_ (by first | omega | (simp; omega) | simp) _ | refine Stp.trans ?_ (by assumption))))
    · go_ret2
      have hb4 : Stp w w4 := Stp.grown (by (repeat (first | exact Stp.refl _ | assumption | refine Stp.drew ?_ | refine Stp.drewN ?_ _ | refine Stp.alloc ?_ _ | refine Stp.setCell ?_ (by first | omega | (simp; omega) | simp) _ | refine Stp.trans ?_ (by assumption)))) hg4 (fun k hk => Nat.le_trans (Stp.size (by (repeat (first | exact Stp.refl _ | assumption | refine Stp.drew ?_ | refine Stp.drewN ?_ _ | refine Stp.alloc ?_ _ | refine Stp.setCell ?_ (by first | omega | (simp; omega) | simp) _ | refine Stp.trans ?_ (by assumption))))) (ho3.blk k hk))
      exact rowNum_of (hearDrop_3 ‹_› hi'.out).1 (hearDrop_3 ‹_› hi'.out).2 (ho4.reads.mono fun _ _ => trivial) hb4
  · have hix' : idx (·.one h) xs < 0 := by omega
    go_enter Try.func11, Try.ntmps11
    go_wp2_with (first | (go_at_call 18; refine (may_c h _).mono ?_; rintro e w1 ⟨rfl, hb1⟩; obtain ⟨hc1, hf1⟩ := hb1.bc; have hz1 := hb1.size; (try simp only [World.size_alloc] at hz1 hc1 hf1)) | (go_at_call 19; refine (at_c (hr.stp (by (repeat (first | exact Stp.refl _ | assumption | refine Stp.drew ?_ | refine Stp.drewN ?_ _ | refine Stp.alloc ?_ _ | refine Stp.setCell ?_ (by first | omega | (simp; omega) | simp) _ | refine Stp.trans ?_ (by assumption))))) h).mono ?_; rintro e w2 ⟨rfl, hb2⟩; obtain ⟨hc2, hf2⟩ := hb2.bc; have hz2 := hb2.size; (try simp only [World.size_alloc] at hz2 hc2 hf2)))
    · go_ret2
      exact rowNum_of (hearDrop_1 ‹_›).1 (hearDrop_1 ‹_›).2 ((hr.mono fun _ _ => trivial).stp (by (repeat (first | exact Stp.refl _ | assumption | refine Stp.drew ?_ | refine Stp.drewN ?_ _ | refine Stp.alloc ?_ _ | refine Stp.setCell ?_ (by first | omega | (simp; omega) | simp) _ | refine Stp.trans ?_ (by assumption))))) (by (repeat (first | exact Stp.refl _ | assumption | refine Stp.drew ?_ | refine Stp.drewN ?_ _ | refine Stp.alloc ?_ _ | refine Stp.setCell ?_ (by first | omega | (simp; omega) | simp) _ | refine Stp.trans ?_ (by assumption))))
    · go_ret2
      exact rowNum_of (hearDrop_2 ‹_› hix').1 (hearDrop_2 ‹_› hix').2 ((hr.mono fun _ _ => trivial).stp (by (repeat (first | exact Stp.refl _ | assumption | refine Stp.drew ?_ | refine Stp.drewN ?_ _ | refine Stp.alloc ?_ _ | refine Stp.setCell ?_ (by first | omega | (simp; omega) | simp) _ | refine Stp.trans ?_ (by assumption))))) (by (repeat (first | exact Stp.refl _ | assumption | refine Stp.drew ?_ | refine Stp.drewN ?_ _ | refine Stp.alloc ?_ _ | refine Stp.setCell ?_ (by first | omega | (simp; omega) | simp) _ | refine Stp.trans ?_ (by assumption))))

theorem erase_snoc {α : Type} (l : List α) (x : α) (i : Nat) : (l ++ [x]).eraseIdx i = l.eraseIdx i ++ (if l.length = i then [] else [x]) ∨ l.length < i := by
  by_cases h : i < l.length
  · left; rw [List.eraseIdx_append_of_lt_length h, if_neg (by omega)]
  · by_cases h2 : l.length = i
    · left; subst h2; rw [if_pos rfl, List.eraseIdx_append_of_length_le (by omega), List.eraseIdx_of_length_le (l := l) (by omega)]; simp
    · right; omega
set_option maxHeartbeats 1000000 in
theorem rdrop_c {S : Nat → Prop} {w : World} {v : Value} {xs : List Hear} (hr : Row hearK S w v xs) (hl : xs.length ≤ 1000) (h : Hear) :
    Calls Try.prog 12 #[v, h.val] w (RowNum hearK (hearDrop xs h) (hearDropErr xs h) w) := by
  obtain ⟨A, c, rfl, hc, hm⟩ := hr.form
  by_cases hix : 0 ≤ idx (·.one h) xs
  · obtain ⟨i, hi, hil, _⟩ := idx_nat hix
    have hi' := Lib.hid hi
    have ca := fun W (hW : Stp w W) => rplace_c (hr.stp hW) h
    rw [hi] at ca
    clear hi hix
    have g1 : ¬ (i : Int) < 0 := by omega
    go_enter Try.func12, Try.ntmps12
    go_wp2_with (first | (go_at_call 21; refine (rmay_c h _).mono ?_; rintro e w1 ⟨rfl, hb1⟩; obtain ⟨hc1, hf1⟩ := hb1.bc; have hz1 := hb1.size; (try simp only [World.size_alloc] at hz1 hc1 hf1)) | (go_at_call 22; refine (ca _ (by (repeat (first | exact Stp.refl _ | assumption | refine Stp.drew ?_ | refine Stp.drewN ?_ _ | refine Stp.alloc ?_ _ | refine Stp.setCell ?_ (by first | omega | (simp; omega) | simp) _ | refine Stp.trans ?_ (by assumption))))).mono ?_; rintro e w2 ⟨rfl, hb2⟩; clear ca))
    · go_ret2
      exact rowNum_of (hearDrop_1 ‹_›).1 (hearDrop_1 ‹_›).2 ((hr.mono fun _ _ => trivial).stp (by (repeat (first | exact Stp.refl _ | assumption | refine Stp.drew ?_ | refine Stp.drewN ?_ _ | refine Stp.alloc ?_ _ | refine Stp.setCell ?_ (by first | omega | (simp; omega) | simp) _ | refine Stp.trans ?_ (by assumption))))) (by (repeat (first | exact Stp.refl _ | assumption | refine Stp.drew ?_ | refine Stp.drewN ?_ _ | refine Stp.alloc ?_ _ | refine Stp.setCell ?_ (by first | omega | (simp; omega) | simp) _ | refine Stp.trans ?_ (by assumption))))
    · have hmay := Lib.hid ‹(!h.may) = false›
      go_loopg [7, 8] xs.length (fun gg s7 s8 wr => ∃ (k : Nat) (out : List Hear), k ≤ xs.length ∧ xs.length - k ≤ gg ∧ s8 = .int .i64 k ∧ Stp w wr ∧ Own hearK 24 (w.heap.size ≤ ·) wr s7 out ∧ Aside (out = (xs.take k).eraseIdx i))
      case atStart => exact ⟨0, [], Nat.zero_le _, by omega, rfl, by (repeat (first | exact Stp.refl _ | assumption | refine Stp.drew ?_ | refine Stp.drewN ?_ _ | refine Stp.alloc ?_ _ | refine Stp.setCell ?_ (by first | omega | (simp; omega) | simp) _ | refine Stp.trans ?_ (by assumption))), Own.nil _ _ _ _, by simp [Aside]⟩
      case round =>
        obtain ⟨k, out, hk, hg, rfl, hb, hO, A1⟩ := hrel
        by_cases hlt : k < xs.length
        · have hltz : (k : Int) < (xs.length : Int) := by omega
          obtain ⟨b, o, rfl, hS, hbw, x0, x1, x2, x3, x4⟩ := hear_at (hr.stp hb) k hlt
          have hT := Lib.hid (List.take_succ_eq_append_getElem hlt)
          generalize hy : xs[k] = y at x0 x1 x2 x3 x4 hT
          clear hy
          have hol : out.length ≤ 1000 := by rw [A1.out]; have := List.length_eraseIdx_le (xs.take k) i; have := List.length_take_le k xs; omega
          by_cases hki : k = i
          · have hq : ((k : Int) != (i : Int)) = false := by simp [hki]
            have HK := Lib.hid hki
            clear hki
            go_wp2
            go_roundg (xs.length - (k + 1))
            case measure => omega
            case rel =>
              refine ⟨k + 1, out, by omega, by omega, by go_num, by (repeat (first | exact Stp.refl _ | assumption | refine Stp.drew ?_ | refine Stp.drewN ?_ _ | refine Stp.alloc ?_ _ | refine Stp.setCell ?_ (by first | omega | (simp; omega) | simp) _ | refine Stp.trans ?_ (by assumption))), hO.stp (by (repeat (first | exact Stp.refl _ | assumption | refine Stp.drew ?_ | refine Stp.drewN ?_ _ | refine Stp.alloc ?_ _ | refine Stp.setCell ?_ (by first | omega | (simp; omega) | simp) _ | refine Stp.trans ?_ (by assumption)))), ?_⟩
              have h1 := HK.out
              show out = _
              rw [A1.out, hT.out]
              rcases erase_snoc (xs.take k) y i with h2 | h2
              · rw [h2, if_pos (by rw [List.length_take]; omega)]; simp
              · rw [List.length_take] at h2; omega
          · have hq : ((k : Int) != (i : Int)) = true := by simp; omega
            go_wp2_with ((at_builtin; refine wpl_append1 (d := hearK) (S := (w.heap.size ≤ ·)) (T := fun _ => False) rfl (.tmp 28) (.tmp 33) 22 24 _ 32 rfl Try.underlying22 infoHear rfl (by decide) (by decide) u7 out y _ rfl (by first | (go_simp; done) | (go_simp; rfl)) (by show _ = Hear.cells y; simp [Hear.cells, *]) (fun _ h _ => h.elim) (hO.stp (by (repeat (first | exact Stp.refl _ | assumption | refine Stp.drew ?_ | refine Stp.drewN ?_ _ | refine Stp.alloc ?_ _ | refine Stp.setCell ?_ (by first | omega | (simp; omega) | simp) _ | refine Stp.trans ?_ (by assumption))))) (fun k hk => Nat.le_trans (Stp.size (by (repeat (first | exact Stp.refl _ | assumption | refine Stp.drew ?_ | refine Stp.drewN ?_ _ | refine Stp.alloc ?_ _ | refine Stp.setCell ?_ (by first | omega | (simp; omega) | simp) _ | refine Stp.trans ?_ (by assumption))))) hk) (by omega) ?_; intro v1 w1 ho hg2; have hb2 : Stp w w1 := Stp.grown (by (repeat (first | exact Stp.refl _ | assumption | refine Stp.drew ?_ | refine Stp.drewN ?_ _ | refine Stp.alloc ?_ _ | refine Stp.setCell ?_ (by first | omega | (simp; omega) | simp) _ | refine Stp.trans ?_ (by assumption)))) hg2 hO.blk))
            go_roundg (xs.length - (k + 1))
            case measure => omega
            case rel =>
              refine ⟨k + 1, out ++ [y], by omega, by omega, by go_num, hb2, ho, ?_⟩
              show out ++ [y] = _
              rw [A1.out, hT.out]
              rcases erase_snoc (xs.take k) y i with h2 | h2
              · rw [h2, if_neg (by rw [List.length_take]; omega)]
              · rw [List.length_take] at h2
                rw [List.eraseIdx_of_length_le (by rw [List.length_take]; omega), List.eraseIdx_of_length_le (by rw [List.length_append, List.length_take]; simp; omega)]
        · have hltz : ¬ (k : Int) < (xs.length : Int) := by omega
          go_wp2
          go_ret2
          refine rowNum_of (hearDrop_3 hmay.out hi'.out).1 (hearDrop_3 hmay.out hi'.out).2 ?_ (by (repeat (first | exact Stp.refl _ | assumption | refine Stp.drew ?_ | refine Stp.drewN ?_ _ | refine Stp.alloc ?_ _ | refine Stp.setCell ?_ (by first | omega | (simp; omega) | simp) _ | refine Stp.trans ?_ (by assumption))))
          rw [show xs = xs.take k from (List.take_of_length_le (by omega)).symm, ← A1.out]
          exact hO.reads.mono fun _ _ => trivial
  · have hix' : idx (·.one h) xs < 0 := by omega
    go_enter Try.func12, Try.ntmps12
    go_wp2_with (first | (go_at_call 21; refine (rmay_c h _).mono ?_; rintro e w1 ⟨rfl, hb1⟩; obtain ⟨hc1, hf1⟩ := hb1.bc; have hz1 := hb1.size; (try simp only [World.size_alloc] at hz1 hc1 hf1)) | (go_at_call 22; refine (rplace_c (hr.stp (by (repeat (first | exact Stp.refl _ | assumption | refine Stp.drew ?_ | refine Stp.drewN ?_ _ | refine Stp.alloc ?_ _ | refine Stp.setCell ?_ (by first | omega | (simp; omega) | simp) _ | refine Stp.trans ?_ (by assumption))))) h).mono ?_; rintro e w2 ⟨rfl, hb2⟩; obtain ⟨hc2, hf2⟩ := hb2.bc; have hz2 := hb2.size; (try simp only [World.size_alloc] at hz2 hc2 hf2)))
    · go_ret2
      exact rowNum_of (hearDrop_1 ‹_›).1 (hearDrop_1 ‹_›).2 ((hr.mono fun _ _ => trivial).stp (by (repeat (first | exact Stp.refl _ | assumption | refine Stp.drew ?_ | refine Stp.drewN ?_ _ | refine Stp.alloc ?_ _ | refine Stp.setCell ?_ (by first | omega | (simp; omega) | simp) _ | refine Stp.trans ?_ (by assumption))))) (by (repeat (first | exact Stp.refl _ | assumption | refine Stp.drew ?_ | refine Stp.drewN ?_ _ | refine Stp.alloc ?_ _ | refine Stp.setCell ?_ (by first | omega | (simp; omega) | simp) _ | refine Stp.trans ?_ (by assumption))))
    · go_ret2
      exact rowNum_of (hearDrop_2 ‹_› hix').1 (hearDrop_2 ‹_› hix').2 ((hr.mono fun _ _ => trivial).stp (by (repeat (first | exact Stp.refl _ | assumption | refine Stp.drew ?_ | refine Stp.drewN ?_ _ | refine Stp.alloc ?_ _ | refine Stp.setCell ?_ (by first | omega | (simp; omega) | simp) _ | refine Stp.trans ?_ (by assumption))))) (by (repeat (first | exact Stp.refl _ | assumption | refine Stp.drew ?_ | refine Stp.drewN ?_ _ | refine Stp.alloc ?_ _ | refine Stp.setCell ?_ (by first | omega | (simp; omega) | simp) _ | refine Stp.trans ?_ (by assumption))))
end Go.Proofs.Lime
