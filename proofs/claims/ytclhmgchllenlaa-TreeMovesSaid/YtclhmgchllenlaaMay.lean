/- Trees that may be, in plain words: steps up, ways up, and how deep a node lies. -/
import Derived.Test.YtclhmgchllenlaaMA
namespace Go.Proofs.Lime
open Go.RowKit
set_option linter.unusedVariables false
set_option linter.unusedSimpArgs false
set_option linter.unusedSectionVars false

theorem chain_more {s : Int → Int} : ∀ {f : Nat} {n : Int}, (chainIn s f n).length < f → ∀ g, f ≤ g → chainIn s g n = chainIn s f n
  | 0, _, h, _, _ => by simp at h
  | f + 1, n, h, 0, hg => by omega
  | f + 1, n, h, g + 1, hg => by
    rw [chainIn] at h ⊢
    rw [chainIn]
    split
    · rfl
    · rename_i hn
      rw [if_neg hn] at h
      rw [chain_more (f := f) (by simpa using h) g (by omega)]
theorem chain_mem {s : Int → Int} : ∀ {f : Nat} {n x : Int}, x ∈ chainIn s f n → x ≠ -1
  | 0, _, _, h => by simp [chainIn] at h
  | f + 1, n, x, h => by
    rw [chainIn] at h
    split at h
    · simp at h
    · rcases List.mem_cons.1 h with rfl | h
      · assumption
      · exact chain_mem h

structure May (t : List Nd) : Prop where mk ::
  len1 : 1 ≤ t.length
  len2 : t.length ≤ 64
  node : ∀ k : Nat, k < t.length → nodeOk t k = true
  ends : ∀ k : Nat, k < t.length → endsIn t (t.length + 1) k = true
theorem May.of {t : List Nd} (h : mayT t = true) : May t := by
  simp only [mayT, Bool.and_eq_true, decide_eq_true_eq, allTo_iff] at h
  exact ⟨h.1.1, h.1.2, h.2.1, h.2.2⟩
theorem May.iff {t : List Nd} : mayT t = true ↔ May t := by
  refine ⟨May.of, fun h => ?_⟩
  simp only [mayT, Bool.and_eq_true, decide_eq_true_eq, allTo_iff]
  exact ⟨⟨h.len1, h.len2⟩, h.node, h.ends⟩
def parN (t : List Nd) (n : Int) : Int := (nd t n).parent
section
variable {t : List Nd} (M : May t) {n : Int} (hn : isN t n = true)
include M hn
theorem May.parts : kindOk (nd t n) n = true ∧ attrsOk (nd t n) = true ∧ kidsOk t n = true ∧ shadowOk t n = true := by
  obtain ⟨k, rfl, hk⟩ := isN_nat hn
  have := M.node k hk
  simpa only [nodeOk, Bool.and_eq_true] using this
theorem May.kid {y : Int} (hy : y ∈ (nd t n).kids) : isN t y = true ∧ (nd t n).kids.count y = 1 ∧ parN t y = n ∧ ((nd t y).kind = 1 ∨ (nd t y).kind = 2) := by
  have h := (M.parts hn).2.2.1
  simp only [kidsOk, Bool.and_eq_true] at h
  have h1 := List.all_eq_true.1 h.1 y hy
  simpa only [kidOk, Bool.and_eq_true, Bool.or_eq_true, decide_eq_true_eq, parN] using h1
theorem May.par : parN t n = -1 ∨ (isN t (parN t n) = true ∧ (nd t (parN t n)).kids.count n = 1) := by
  have h := (M.parts hn).2.2.1
  simp only [kidsOk, Bool.and_eq_true, Bool.or_eq_true, decide_eq_true_eq] at h
  exact h.2.2
theorem May.par_mem (h : parN t n ≠ -1) : isN t (parN t n) = true ∧ n ∈ (nd t (parN t n)).kids := by
  obtain ⟨h1, h2⟩ := (M.par hn).resolve_left h
  exact ⟨h1, List.count_pos_iff.1 (by omega)⟩
theorem May.kinds : 0 ≤ (nd t n).kind ∧ (nd t n).kind ≤ 3 ∧ ((nd t n).kind = 0 ↔ n = 0) := by
  have h := (M.parts hn).1
  simp only [kindOk, Bool.and_eq_true, decide_eq_true_eq, beq_iff_eq, decide_eq_decide] at h
  exact ⟨h.2.1, h.2.2.1, h.1⟩
theorem May.sh3 (h : (nd t n).kind = 3) : (nd t n).root = -1 ∧ parN t n = -1 ∧ isN t (nd t n).host = true ∧ (nd t (nd t n).host).kind = 1 ∧ (nd t (nd t n).host).root = n := by
  have h1 := (M.parts hn).2.2.2
  rw [shadowOk, if_pos h] at h1
  simpa only [Bool.and_eq_true, decide_eq_true_eq, parN] using h1
theorem May.shn (h : (nd t n).kind ≠ 3) : (nd t n).host = -1 ∧ ((nd t n).root = -1 ∨ ((nd t n).kind = 1 ∧ isN t (nd t n).root = true ∧ (nd t (nd t n).root).kind = 3 ∧ (nd t (nd t n).root).host = n)) := by
  have h1 := (M.parts hn).2.2.2
  rw [shadowOk, if_neg h] at h1
  simpa only [Bool.and_eq_true, Bool.or_eq_true, decide_eq_true_eq] using h1
theorem May.up : upN t n = -1 ∨ isN t (upN t n) = true := by
  have hp := M.par hn
  rw [upN]
  split
  · rename_i h; exact .inr (M.sh3 hn h).2.2.1
  · rcases hp with h | h
    · exact .inl h
    · exact .inr h.1
theorem May.root {r : Int} (hr : (nd t n).root = r) (h : r ≠ -1) : (nd t n).kind = 1 ∧ isN t r = true ∧ (nd t r).kind = 3 ∧ (nd t r).host = n := by
  subst hr
  by_cases h3 : (nd t n).kind = 3
  · exact absurd (M.sh3 hn h3).1 h
  · exact (M.shn hn h3).2.resolve_left h
theorem May.ne1 : n ≠ -1 := by rintro rfl; simp [isN] at hn
end

/-- The way up from n. -/
def upsT (t : List Nd) (n : Int) : List Int := chainIn (upN t) (t.length + 1) n
def dep (t : List Nd) (n : Int) : Nat := (upsT t n).length
section
variable {t : List Nd} (M : May t) {n : Int} (hn : isN t n = true)
include M hn
theorem May.dep_le : dep t n ≤ t.length := by
  obtain ⟨k, rfl, hk⟩ := isN_nat hn
  have := M.ends k hk
  rw [ends_chain] at this
  have := of_decide_eq_true this
  unfold dep upsT; omega
theorem May.ups_step : upsT t n = n :: upsT t (upN t n) := by
  have h1 := M.dep_le hn
  have hne := M.ne1 hn
  unfold dep at h1
  unfold upsT at *
  rw [chain_step hne] at h1 ⊢
  congr 1
  symm
  apply chain_more _ _ (by omega)
  simp at h1
  omega
theorem May.dep_step : dep t n = dep t (upN t n) + 1 := by
  rw [dep, M.ups_step hn]; rfl
end
theorem upsT_none (t : List Nd) : upsT t (-1) = [] := chain_nil _ _
section
variable {t : List Nd} (M : May t)
include M
theorem May.dep_kid {n y : Int} (hn : isN t n = true) (hy : y ∈ (nd t n).kids) : isN t y = true ∧ upN t y = n ∧ dep t y = dep t n + 1 := by
  obtain ⟨h1, _, h2, h3⟩ := M.kid hn hy
  have hu : upN t y = n := by rw [upN, if_neg (by omega)]; exact h2
  exact ⟨h1, hu, by rw [M.dep_step h1, hu]⟩
theorem May.dep_root {n r : Int} (hn : isN t n = true) (hr : (nd t n).root = r) (h : r ≠ -1) : isN t r = true ∧ upN t r = n ∧ dep t r = dep t n + 1 := by
  obtain ⟨_, h1, h2, h3⟩ := M.root hn hr h
  have hu : upN t r = n := by rw [upN, if_pos h2]; exact h3
  exact ⟨h1, hu, by rw [M.dep_step h1, hu]⟩
/-- Induction on steps up. -/
theorem May.up_ind {P : Int → Prop} (h0 : P (-1)) (h : ∀ n, isN t n = true → P (upN t n) → P n) : ∀ n, (n = -1 ∨ isN t n = true) → P n := by
  have key : ∀ d n, (n = -1 ∨ isN t n = true) → dep t n = d → P n := by
    intro d
    induction d with
    | zero =>
      rintro n (rfl | hn) hd
      · exact h0
      · rw [M.dep_step hn] at hd; omega
    | succ d ih =>
      rintro n (rfl | hn) hd
      · exact h0
      · exact h n hn (ih _ (M.up hn) (by rw [M.dep_step hn] at hd; omega))
  exact fun n hn => key _ n hn rfl
theorem May.ups_mem {n x : Int} (hn : n = -1 ∨ isN t n = true) (hx : x ∈ upsT t n) : isN t x = true := by
  revert hx
  refine M.up_ind (P := fun n => x ∈ upsT t n → isN t x = true) (by rw [upsT_none]; simp) (fun n hn ih => ?_) n hn
  rw [M.ups_step hn, List.mem_cons]
  rintro (rfl | h)
  · exact hn
  · exact ih h
end
end Go.Proofs.Lime
