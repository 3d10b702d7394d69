/- Plain law: lists that have just those, each once, are as long. No conditions. -/
import Derived.Test.YtfdhfnjdafaogaaME
import Derived.Test.YtfdhfnjdafaogaaMP
namespace Go.Proofs.Ytfdhfnjdafaogaa.P
open Go.RowKit Go.Proofs.YtfdhfnjdafaogaaW.PrintWords Go.Proofs.YtfdhfnjdafaogaaW.PrintLast Go.Proofs.YtfdhfnjdafaogaaW.PrintMore
open Go.Proofs.Lime (May isN)
set_option linter.unusedVariables false
set_option linter.unusedSimpArgs false
theorem rd_zero {l : List Int} (h : 0 < l.length) : rd l 0 = l[0] := rd_nat (i := 0) h
theorem nodup_sub : ∀ {l1 l2 : List Int}, l1.Nodup → (∀ x ∈ l1, x ∈ l2) → l1.length ≤ l2.length
  | [], _, _, _ => by simp
  | x :: l1, l2, hd, h => by
    have hx := h x List.mem_cons_self
    have h1 := nodup_sub (l1 := l1) (l2 := l2.erase x) (List.nodup_cons.1 hd).2 (fun y hy => by
      have hne : y ≠ x := by rintro rfl; exact (List.nodup_cons.1 hd).1 hy
      exact (List.mem_erase_of_ne hne).2 (h y (List.mem_cons_of_mem _ hy)))
    have h2 := List.length_erase_of_mem hx
    have h3 : 0 < l2.length := List.length_pos_of_mem hx
    simp only [List.length_cons]
    omega
/-- All nodes below k of which p holds. -/
def those (p : Int → Bool) (k : Nat) : List Int := ((List.range k).map fun i : Nat => (i : Int)).filter p
theorem those_succ (p : Int → Bool) (k : Nat) : (those p (k + 1)).length = (those p k).length + if p k = true then 1 else 0 := by
  unfold those
  rw [List.range_succ, List.map_append, List.filter_append, List.length_append]
  congr 1
  simp only [List.map_cons, List.map_nil, List.filter_cons, List.filter_nil]
  split <;> simp
theorem mem_those {p : Int → Bool} {k : Nat} {x : Int} : x ∈ those p k ↔ (∃ i : Nat, i < k ∧ x = i) ∧ p x = true := by
  unfold those
  rw [List.mem_filter, List.mem_map]
  constructor
  · rintro ⟨⟨i, hi, rfl⟩, h⟩
    exact ⟨⟨i, List.mem_range.1 hi, rfl⟩, h⟩
  · rintro ⟨⟨i, hi, rfl⟩, h⟩
    exact ⟨⟨i, List.mem_range.2 hi, rfl⟩, h⟩
theorem those_nodup (p : Int → Bool) (k : Nat) : (those p k).Nodup := by
  unfold those
  rw [List.nodup_iff_pairwise_ne]
  refine List.Pairwise.filter _ ?_
  rw [List.pairwise_map]
  refine List.Pairwise.imp (fun {a b} h => ?_) (List.nodup_iff_pairwise_ne.1 (List.nodup_range (n := k)))
  intro e; exact h (by omega)
/-- A list that has just those, each once, is as long. -/
theorem those_len {p : Int → Bool} {k : Nat} {l : List Int} (hd : l.Nodup) (h : ∀ x, x ∈ l ↔ (∃ i : Nat, i < k ∧ x = i) ∧ p x = true) : l.length = (those p k).length := by
  have h1 := nodup_sub hd (fun x hx => mem_those.2 ((h x).1 hx))
  have h2 := nodup_sub (those_nodup p k) (fun x hx => (h x).2 (mem_those.1 hx))
  omega
theorem isN_ex {t : List Lime.Nd} {x : Int} : isN t x = true ↔ ∃ i : Nat, i < t.length ∧ x = i := by
  constructor
  · intro h
    obtain ⟨k, h1, h2⟩ := Lime.isN_nat h
    exact ⟨k, h2, h1⟩
  · rintro ⟨k, h1, rfl⟩
    exact Lime.isN_of h1

end Go.Proofs.Ytfdhfnjdafaogaa.P
