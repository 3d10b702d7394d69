/- Plain law: words for the printed functions: from some number of rounds on. No conditions. -/
import Derived.Test.YtclhmgchllenlaaME
import Derived.Test.YtclhmgchllenlaaMA
namespace Go.Proofs.Ytclhmgchllenlaa.P
open Go.RowKit Go.Proofs.YtclhmgchllenlaaW.PrintWords Go.Proofs.YtclhmgchllenlaaW.PrintLast Go.Proofs.YtclhmgchllenlaaW.PrintMore
set_option linter.unusedVariables false
set_option linter.unusedSimpArgs false

theorem w1 {i : Nat} (h : i < 4611686018427387904) : wrap64 ((i : Int) + 1) = ((i + 1 : Nat) : Int) := by
  unfold wrap64; omega
theorem wm1 {i : Nat} (h : i < 4611686018427387904) : wrap64 (((i + 1 : Nat) : Int) - 1) = (i : Int) := by
  unfold wrap64; omega
theorem wid {x : Int} (h : -4611686018427387904 ≤ x) (h2 : x < 4611686018427387904) : wrap64 x = x := by
  unfold wrap64; omega
theorem Ev.pure {α : Type} {x : Option α} {r : α} (h : x = some r) : Ev (fun _ => x) r := ⟨0, fun _ _ => h⟩
theorem Ev.plain {α : Type} {g : Nat → Option α} {r : α} (h : ∀ k, g k = some r) : Ev g r := ⟨0, fun k _ => h k⟩
theorem Ev.cast {α : Type} {g : Nat → Option α} {r r' : α} (h : Ev g r) (e : r = r') : Ev g r' := e ▸ h
theorem Ev.ite {α : Type} {c : Prop} [Decidable c] {g f : Nat → Option α} {r : α} (h1 : c → Ev g r) (h2 : ¬ c → Ev f r) : Ev (fun k => if c then g k else f k) r := by
  by_cases hc : c
  · simp only [hc, if_true]; exact h1 hc
  · simp only [hc, if_false]; exact h2 hc
theorem Ev.yes {α : Type} {c : Prop} [Decidable c] {g f : Nat → Option α} {r : α} (hc : c) (h1 : Ev g r) : Ev (fun k => if c then g k else f k) r := Ev.ite (fun _ => h1) (fun h => absurd hc h)
theorem Ev.no {α : Type} {c : Prop} [Decidable c] {g f : Nat → Option α} {r : α} (hc : ¬ c) (h1 : Ev f r) : Ev (fun k => if c then g k else f k) r := Ev.ite (fun h => absurd h hc) (fun _ => h1)
/-- A loop that counts up to n, with a state that the count tells. -/
theorem Ev.up {α σ : Type} {L : Nat → Int → σ → Option α} {r : α} (n : Nat) (s : Nat → σ) (hend : Ev (fun k => L k (n : Int) (s n)) r)
    (hstep : ∀ i : Nat, i < n → Ev (fun k => L k ((i + 1 : Nat) : Int) (s (i + 1))) r → Ev (fun k => L k (i : Int) (s i)) r) : ∀ i : Nat, i ≤ n → Ev (fun k => L k (i : Int) (s i)) r := by
  have key : ∀ d i : Nat, i + d = n → Ev (fun k => L k (i : Int) (s i)) r := by
    intro d
    induction d with
    | zero => intro i hi; obtain rfl : i = n := by omega
              exact hend
    | succ d ih => intro i hi; exact hstep i (by omega) (ih (i + 1) (by omega))
  exact fun i hi => key (n - i) i (by omega)
theorem Ev.up0 {α : Type} {L : Nat → Int → Option α} {r : α} (n : Nat) (hend : Ev (fun k => L k (n : Int)) r)
    (hstep : ∀ i : Nat, i < n → Ev (fun k => L k ((i + 1 : Nat) : Int)) r → Ev (fun k => L k (i : Int)) r) : Ev (fun k => L k 0) r :=
  Ev.up (L := fun k i (_ : Unit) => L k i) n (fun _ => ()) hend hstep 0 (Nat.zero_le _)

theorem rd_nat {l : List Int} {i : Nat} (h : i < l.length) : rd l (i : Int) = l[i] := by simp [rd, h]
section
variable (l : List S49) (i : Int)
theorem rd_kind : (rd_T49 l i).f0 = (Lime.nd (tr l) i).kind := by rw [nd_tr]; rfl
theorem rd_tag : (rd_T49 l i).f1 = (Lime.nd (tr l) i).tag := by rw [nd_tr]; rfl
theorem rd_parent : (rd_T49 l i).f2 = (Lime.nd (tr l) i).parent := by rw [nd_tr]; rfl
theorem rd_kids : (rd_T49 l i).f3 = (Lime.nd (tr l) i).kids := by rw [nd_tr]; rfl
theorem rd_host : (rd_T49 l i).f4 = (Lime.nd (tr l) i).host := by rw [nd_tr]; rfl
theorem rd_root : (rd_T49 l i).f5 = (Lime.nd (tr l) i).root := by rw [nd_tr]; rfl
end
theorem isN_lt {l : List S49} {n : Int} (h : Lime.isN (tr l) n = true) : 0 ≤ n ∧ n < (l.length : Int) := by
  have := Lime.isN_iff.1 h
  rwa [tr_length] at this
theorem isN_nat' {l : List S49} {n : Int} (h : Lime.isN (tr l) n = true) : ∃ k : Nat, n = k ∧ k < l.length := by
  obtain ⟨k, h1, h2⟩ := Lime.isN_nat h
  rw [tr_length] at h2
  exact ⟨k, h1, h2⟩
theorem isN_of' {l : List S49} {k : Nat} (h : k < l.length) : Lime.isN (tr l) (k : Int) = true := Lime.isN_of (by rw [tr_length]; exact h)
/-- Where a number stands first; -1: nowhere. -/
def plc (l : List Int) (a : Int) : Int := Lime.idx (· == a) l
theorem plc_iff {l : List Int} {a : Int} : 0 ≤ plc l a ↔ a ∈ l := by
  have h := Lime.idx_any (· == a) l
  rw [← decide_eq_true_iff (p := 0 ≤ plc l a)]
  show decide (0 ≤ Lime.idx (· == a) l) = true ↔ _
  rw [h]; simp
theorem plc_none {l : List Int} {a : Int} (h : a ∉ l) : plc l a = -1 := by
  rcases Lime.idxFrom_ge (· == a) l 0 with h1 | h1
  · exact h1
  · exact absurd (plc_iff.1 h1) h
theorem idxFrom_off (l : List Int) (a : Int) : ∀ m : Int, a ∈ l → Lime.idxFrom (· == a) m l = m + plc l a := by
  induction l with
  | nil => intro m h; simp at h
  | cons x l ih =>
    intro m h
    simp only [plc, Lime.idx, Lime.idxFrom]
    by_cases hx : x = a
    · simp [hx]
    · have h1 : a ∈ l := by
        rcases List.mem_cons.1 h with h | h
        · exact absurd h.symm hx
        · exact h
      simp only [beq_iff_eq, hx, if_false]
      rw [ih (m + 1) h1, ih (0 + 1) h1]; omega
theorem plc_cons (x : Int) (l : List Int) (a : Int) : plc (x :: l) a = if x = a then 0 else if a ∈ l then plc l a + 1 else -1 := by
  by_cases hx : x = a
  · simp [plc, Lime.idx, Lime.idxFrom, hx]
  · rw [if_neg hx]
    by_cases h : a ∈ l
    · rw [if_pos h]
      show Lime.idxFrom (· == a) 0 (x :: l) = _
      rw [Lime.idxFrom]
      simp only [beq_iff_eq, hx, if_false]
      rw [idxFrom_off l a _ h]; omega
    · rw [if_neg h]
      exact plc_none (by rw [List.mem_cons]; rintro (h1 | h1); exact hx h1.symm; exact h h1)
theorem plc_ge (l : List Int) (a : Int) : -1 ≤ plc l a := by
  rcases Lime.idxFrom_ge (· == a) l 0 with h1 | h1
  · exact Int.le_of_eq h1.symm
  · have : 0 ≤ plc l a := h1
    omega
/-- The first of those of which p holds; -1: none. -/
def firstOf (p : Int → Bool) (l : List Int) : Int := (l.find? p).getD (-1)
theorem firstOf_cons (p : Int → Bool) (x : Int) (l : List Int) : firstOf p (x :: l) = if p x = true then x else firstOf p l := by
  unfold firstOf
  rw [List.find?_cons]
  cases p x <;> simp
theorem drop_at {α : Type} {l : List α} {i : Nat} (h : i < l.length) : l.drop i = l[i] :: l.drop (i + 1) := List.drop_eq_getElem_cons h
end Go.Proofs.Ytclhmgchllenlaa.P
