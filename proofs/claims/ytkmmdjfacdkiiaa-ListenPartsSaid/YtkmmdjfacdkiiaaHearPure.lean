/- Listeners in plain words: what adding and dropping keep, how often one is there, and the parts that hear. No conditions. -/
import Derived.Test.YtkmmdjfacdkiiaaL8e
namespace Go.Proofs.Lime
open Go.RowKit
set_option linter.unusedVariables false
set_option linter.unusedSimpArgs false

theorem one_iff (a b : Hear) : a.one b = true ↔ a.node = b.node ∧ a.type = b.type ∧ a.cap = b.cap ∧ a.prog = b.prog := by simp [Hear.one]
theorem one_symm (a b : Hear) : a.one b = b.one a := by
  rw [Bool.eq_iff_iff, one_iff, one_iff]
  constructor <;> (rintro ⟨h1, h2, h3, h4⟩; exact ⟨h1.symm, h2.symm, h3.symm, h4.symm⟩)
theorem one_trans {a b c : Hear} (h : a.one b = true) (k : b.one c = true) : a.one c = true := by
  rw [one_iff] at *
  obtain ⟨h1, h2, h3, h4⟩ := h
  obtain ⟨k1, k2, k3, k4⟩ := k
  exact ⟨h1.trans k1, h2.trans k2, h3.trans k3, h4.trans k4⟩
/-- No two are one. -/
abbrev Apart (l : List Hear) : Prop := l.Pairwise fun a b => a.one b = false
theorem bad_iff : ∀ (l pre : List Hear), badFrom pre l = false ↔ (∀ x ∈ l, x.may = true ∧ pre.any (·.one x) = false) ∧ Apart l := by
  intro l
  induction l with
  | nil => intro pre; simp [badFrom]
  | cons x l ih =>
    intro pre
    rw [badFrom]
    simp only [Bool.or_eq_false_iff, Bool.not_eq_false', ih, List.any_append, List.any_cons, List.any_nil, Bool.or_false, List.pairwise_cons, List.forall_mem_cons]
    constructor
    · rintro ⟨h1, h2, h3, h4⟩
      exact ⟨⟨⟨h1, h2⟩, fun y hy => ⟨(h3 y hy).1, (h3 y hy).2.1⟩⟩, fun y hy => (h3 y hy).2.2, h4⟩
    · rintro ⟨⟨⟨h1, h2⟩, h3⟩, h4, h5⟩
      exact ⟨h1, h2, fun y hy => ⟨(h3 y hy).1, (h3 y hy).2, h4 y hy⟩, h5⟩
/-- Those that may be. -/
structure Fine (l : List Hear) : Prop where mk ::
  len : l.length ≤ 64
  may : ∀ x ∈ l, x.may = true
  apart : Apart l
theorem check_fine (l : List Hear) : hearCheck l 64 = 0 ↔ Fine l := by
  constructor
  · intro h
    by_cases h1 : 64 < l.length
    · rw [hearCheck_64 h1] at h; cases h
    · cases h2 : badFrom [] l with
      | true => rw [hearCheck_bad h2] at h; cases h
      | false =>
        rw [bad_iff] at h2
        exact ⟨by omega, fun x hx => (h2.1 x hx).1, h2.2⟩
  · rintro ⟨h1, h2, h3⟩
    have hb : badFrom [] l = false := by rw [bad_iff]; exact ⟨fun x hx => ⟨h2 x hx, rfl⟩, h3⟩
    have ha : l.any (fun h => decide (64 ≤ h.node)) = false := by
      rw [List.any_eq_false]
      intro x hx
      have := h2 x hx
      simp [Hear.may] at this
      simp
      omega
    rw [hearCheck_ok (by omega) hb, ha]
    rfl
theorem idx_neg {α : Type} {p : α → Bool} {l : List α} (h : idx p l < 0) : l.any p = false := by
  have := idx_any p l
  rw [← this]
  simpa using h
theorem fine_nil : Fine [] := ⟨by simp, by simp, List.Pairwise.nil⟩
theorem fine_add {l : List Hear} (hl : Fine l) (h : Hear) : Fine (hearAdd l h) := by
  rw [hearAdd]
  split
  · rename_i hc
    simp only [Bool.and_eq_true, decide_eq_true_eq] at hc
    obtain ⟨h1, h2, h3⟩ := hc
    have h4 := idx_neg h2
    rw [List.any_eq_false] at h4
    refine ⟨by simp; omega, fun x hx => ?_, List.pairwise_append.2 ⟨hl.apart, by simp, fun a ha b hb => ?_⟩⟩
    · rcases List.mem_append.1 hx with hx | hx
      · exact hl.may x hx
      · obtain rfl : x = h := by simpa using hx
        exact h1
    · obtain rfl : b = h := by simpa using hb
      simpa using h4 a ha
  · exact hl
theorem fine_drop {l : List Hear} (hl : Fine l) (h : Hear) : Fine (hearDrop l h) := by
  rw [hearDrop]
  split
  · have hs := List.eraseIdx_sublist l (idx (·.one h) l).toNat
    exact ⟨Nat.le_trans hs.length_le hl.len, fun x hx => hl.may x (hs.subset hx), hl.apart.sublist hs⟩
  · exact hl
theorem count_apart {l : List Hear} (hl : Apart l) (h : Hear) : l.countP (·.one h) = if l.any (·.one h) then 1 else 0 := by
  induction l with
  | nil => rfl
  | cons x l ih =>
    rw [Apart, List.pairwise_cons] at hl
    have ih' := ih hl.2
    cases hx : x.one h with
    | false => simp only [List.countP_cons, List.any_cons, hx, ih', Bool.false_or]; simp
    | true =>
      have : l.any (·.one h) = false := by
        rw [List.any_eq_false]
        intro y hy hyh
        have := hl.1 y hy
        rw [one_trans hx (by rw [one_symm]; exact hyh)] at this
        cases this
      simp only [List.countP_cons, List.any_cons, hx, ih', this]
      simp
theorem count_add {l : List Hear} (hl : Fine l) (h : Hear) (he : hearAddErr l h = 0) : (hearAdd l h).countP (·.one h) = 1 := by
  rw [count_apart (fine_add hl h).apart, if_pos]
  rw [hearAddErr] at he
  split at he
  · cases he
  · rename_i h1
    have h1' : h.may = true := by simpa using h1
    split at he
    · rename_i h2
      have h3 : l.any (·.one h) = true := by rw [← idx_any]; simpa using h2
      rw [hearAdd]
      split
      · simp [h3]
      · exact h3
    · rename_i h2
      split at he
      · cases he
      · rename_i h3
        rw [hearAdd, if_pos (by simp only [h1', Bool.true_and, Bool.and_eq_true, decide_eq_true_eq]; omega)]
        simp [one_refl]
theorem any_erase {l : List Hear} (hl : Apart l) {i : Nat} (hi : i < l.length) (h : Hear) (h1 : l[i].one h = true) : (l.eraseIdx i).any (·.one h) = false := by
  rw [List.any_eq_false]
  intro y hy hyh
  rw [List.mem_eraseIdx_iff_getElem] at hy
  obtain ⟨j, hj, hne, rfl⟩ := hy
  have hp := List.pairwise_iff_getElem.1 hl
  have h2 := one_trans h1 (by rw [one_symm]; exact hyh)
  rcases Nat.lt_or_gt_of_ne hne with hlt | hlt
  · have := hp j i hj hi hlt
    rw [one_symm, h2] at this
    cases this
  · have := hp i j hi hj hlt
    rw [h2] at this
    cases this
theorem count_drop {l : List Hear} (hl : Fine l) (h : Hear) (he : hearDropErr l h = 0) : (hearDrop l h).countP (·.one h) = 0 := by
  rw [count_apart (fine_drop hl h).apart, if_neg]
  rw [hearDropErr] at he
  split at he
  · cases he
  · rename_i h1
    have h1' : h.may = true := by simpa using h1
    split at he
    · rename_i h2
      obtain ⟨i, hi, hil, hp⟩ := idx_nat h2
      rw [(hearDrop_3 (by simpa using h1') hi).1, any_erase hl.apart hil h hp]
      simp
    · cases he
/-- What adding does: nothing to the list, or one more, who was not there. -/
theorem add_cases (l : List Hear) (h : Hear) : hearAdd l h = l ∨ (h.may = true ∧ idx (·.one h) l < 0 ∧ hearAdd l h = l ++ [h] ∧ hearAddErr l h = 0) := by
  rw [hearAdd]
  split
  · rename_i hc
    simp only [Bool.and_eq_true, decide_eq_true_eq] at hc
    obtain ⟨h1, h2, h3⟩ := hc
    exact .inr ⟨h1, h2, rfl, (hearAdd_4 (by simpa using h1) h2 (by omega)).2⟩
  · exact .inl rfl
theorem idxFrom_snoc {α : Type} {p : α → Bool} {l : List α} {x : α} (hx : p x = true) : ∀ (m : Int), l.any p = false → idxFrom p m (l ++ [x]) = m + l.length := by
  induction l with
  | nil => intro m _; simp [idxFrom, hx]
  | cons y l ih =>
    intro m h
    rw [List.any_cons, Bool.or_eq_false_iff] at h
    rw [List.cons_append, idxFrom, h.1, ih _ h.2]
    simp
    omega
theorem drop_back {l : List Hear} {h : Hear} (h1 : h.may = true) (h2 : idx (·.one h) l < 0) : hearDrop (l ++ [h]) h = l ∧ hearDropErr (l ++ [h]) h = 0 := by
  have h3 : idx (·.one h) (l ++ [h]) = (l.length : Nat) := by
    have := idxFrom_snoc (p := (·.one h)) (l := l) (one_refl h) 0 (idx_neg h2)
    rw [idx, this]; omega
  have h4 := hearDrop_3 (l := l ++ [h]) (h := h) (by simpa using h1) h3
  refine ⟨?_, h4.2⟩
  rw [h4.1, List.eraseIdx_append_of_length_le (Nat.le_refl _)]
  simp

/-! The parts that hear. -/
def Hear.like (a b : Hear) : Bool := a.node == b.node && (a.type == b.type && a.cap == b.cap)
theorem like_iff (a b : Hear) : a.like b = true ↔ a.node = b.node ∧ a.type = b.type ∧ a.cap = b.cap := by simp [Hear.like]
theorem hearFor_like (l : List Hear) (y : Hear) : hearFor l y.node y.type y.cap = l.filter (·.like y) := rfl
theorem same_iff (a b : Hear) : a.same b = true ↔ a = b := by
  cases a; cases b; simp [Hear.same]
/-- Among k first ones of the part, who is the one himself? -/
def atIn (p k : Nat) : Int := if k ≤ p then -1 else p
theorem part_at {l : List Hear} (hl : Apart l) {i : Nat} (hi : i < l.length) : (∃ h : ((l.take i).filter (·.like l[i])).length < (hearFor l l[i].node l[i].type l[i].cap).length, True) ∧
    ∀ j (hj : j < (hearFor l l[i].node l[i].type l[i].cap).length), (hearFor l l[i].node l[i].type l[i].cap)[j].same l[i] = decide (j = ((l.take i).filter (·.like l[i])).length) := by
  have hs : hearFor l l[i].node l[i].type l[i].cap = (l.take i).filter (·.like l[i]) ++ l[i] :: (l.drop (i + 1)).filter (·.like l[i]) := by
    rw [hearFor_like]
    have h1 : ∀ y : Hear, l.filter (·.like y) = (l.take i).filter (·.like y) ++ (l.drop i).filter (·.like y) := fun y => by rw [← List.filter_append, List.take_append_drop]
    rw [h1, List.drop_eq_getElem_cons hi, List.filter_cons, if_pos ((like_iff _ _).2 ⟨rfl, rfl, rfl⟩)]
  have hp := List.pairwise_iff_getElem.1 hl
  refine ⟨⟨by rw [hs]; simp, trivial⟩, fun j hj => ?_⟩
  have hne : ∀ (A B : List Hear) (y : Hear), (∀ x ∈ A, x.one y = false) → (∀ x ∈ B, y.one x = false) → ∀ (j : Nat) (hj : j < (A ++ y :: B).length), (A ++ y :: B)[j].same y = decide (j = A.length) := by
    intro A B y hA hB j hj
    by_cases h1 : j < A.length
    · rw [List.getElem_append_left h1]
      have := hA A[j] (List.getElem_mem h1)
      cases h2 : A[j].same y with
      | false => simp; omega
      | true =>
        rw [same_iff] at h2
        rw [h2, one_refl] at this
        cases this
    · by_cases h2 : j = A.length
      · subst h2
        rw [List.getElem_append_right (Nat.le_refl _)]
        simp only [Nat.sub_self, List.getElem_cons_zero, decide_true]
        exact (same_iff y y).2 rfl
      · rw [List.getElem_append_right (by omega)]
        have h3 : j - A.length - 1 < B.length := by rw [List.length_append, List.length_cons] at hj; omega
        have h4 : (y :: B)[j - A.length]'(by rw [List.length_cons]; omega) = B[j - A.length - 1] := by
          obtain ⟨m, hm⟩ : ∃ m, j - A.length = m + 1 := ⟨j - A.length - 1, by omega⟩
          simp only [hm, List.getElem_cons_succ, Nat.add_sub_cancel]
        rw [h4]
        have := hB _ (List.getElem_mem h3)
        cases h5 : B[j - A.length - 1].same y with
        | false => simp; omega
        | true =>
          rw [same_iff] at h5
          rw [h5, one_refl] at this
          cases this
  have := hne ((l.take i).filter (·.like l[i])) ((l.drop (i + 1)).filter (·.like l[i])) l[i] (fun x hx => ?_) (fun x hx => ?_) j (by rw [← hs]; exact hj)
  · rw [← this]
    congr 1
    simp only [hs]
  · rw [List.mem_filter] at hx
    obtain ⟨n, hn, rfl⟩ := List.getElem_of_mem hx.1
    rw [List.length_take] at hn
    rw [List.getElem_take]
    exact hp n i _ _ (by omega)
  · rw [List.mem_filter] at hx
    obtain ⟨n, hn, rfl⟩ := List.getElem_of_mem hx.1
    rw [List.length_drop] at hn
    rw [List.getElem_drop]
    exact hp i _ _ _ (by omega)
/-- How many of the list hear what one of the first k hears. -/
def heard (l : List Hear) (k : Nat) : Nat := l.countP fun x => (l.take k).any (·.like x)
theorem like_symm (a b : Hear) : a.like b = b.like a := by
  rw [Bool.eq_iff_iff, like_iff, like_iff]
  constructor <;> (rintro ⟨h1, h2, h3⟩; exact ⟨h1.symm, h2.symm, h3.symm⟩)
theorem like_trans {a b c : Hear} (h : a.like b = true) (k : b.like c = true) : a.like c = true := by
  rw [like_iff] at *
  exact ⟨h.1.trans k.1, h.2.1.trans k.2.1, h.2.2.trans k.2.2⟩
theorem heard_zero (l : List Hear) : heard l 0 = 0 := by simp [heard]
theorem heard_le (l : List Hear) (k : Nat) : heard l k ≤ l.length := List.countP_le_length
theorem heard_all (l : List Hear) : heard l l.length = l.length := by
  rw [heard, List.countP_eq_length]
  intro x hx
  rw [List.take_length, List.any_eq_true]
  exact ⟨x, hx, (like_iff x x).2 ⟨rfl, rfl, rfl⟩⟩
theorem count_or {α : Type} (p q : α → Bool) (l : List α) (h : ∀ x ∈ l, ¬ (p x = true ∧ q x = true)) : l.countP (fun x => p x || q x) = l.countP p + l.countP q := by
  induction l with
  | nil => rfl
  | cons x l ih =>
    rw [List.countP_cons, List.countP_cons, List.countP_cons, ih fun y hy => h y (List.mem_cons_of_mem _ hy)]
    have := h x (List.mem_cons_self ..)
    cases hp : p x <;> cases hq : q x <;> simp_all <;> omega
theorem heard_step {l : List Hear} {i : Nat} (hi : i < l.length) : heard l (i + 1) = heard l i + (if ((l.take i).filter (·.like l[i])).length = 0 then (hearFor l l[i].node l[i].type l[i].cap).length else 0) := by
  have h0 : heard l (i + 1) = l.countP fun x => (l.take i).any (·.like x) || l[i].like x := by
    rw [heard]
    congr 1
    funext x
    rw [List.take_succ_eq_append_getElem hi, List.any_append]
    simp
  rw [h0]
  split
  · rename_i hz
    rw [count_or]
    · rw [hearFor_like, heard, List.countP_eq_length_filter (p := fun x => l[i].like x)]
      congr 3
      funext x
      exact like_symm _ _
    · intro x hx ⟨h1, h2⟩
      rw [List.any_eq_true] at h1
      obtain ⟨y, hy, h3⟩ := h1
      have h4 : y ∈ (l.take i).filter (·.like l[i]) := List.mem_filter.2 ⟨hy, like_trans h3 (by rw [like_symm]; exact h2)⟩
      rw [List.length_eq_zero_iff.1 hz] at h4
      cases h4
  · rename_i hz
    rw [Nat.add_zero, heard]
    congr 1
    funext x
    cases h1 : l[i].like x with
    | false => simp
    | true =>
      obtain ⟨y, hy⟩ := List.length_pos_iff_exists_mem.1 (Nat.pos_of_ne_zero hz)
      rw [List.mem_filter] at hy
      have : (l.take i).any (·.like x) = true := List.any_eq_true.2 ⟨y, hy.1, like_trans hy.2 h1⟩
      simp [this]
theorem part_other {l : List Hear} {y : Hear} : ∀ j (hj : j < (hearFor l y.node y.type (!y.cap)).length), (hearFor l y.node y.type (!y.cap))[j].same y = false := by
  intro j hj
  have hm := List.getElem_mem hj
  simp only [hearFor, List.mem_filter] at hm
  cases h : (hearFor l y.node y.type (!y.cap))[j].same y with
  | false => rfl
  | true =>
    rw [same_iff] at h
    have h2 := hm.2
    simp only [hearFor] at h
    rw [h] at h2
    simp at h2
end Go.Proofs.Lime
