/- Shadows in plain words: laws of what is told of a node to another one. -/
import Derived.Test.YthjpokmangbibaaMP
namespace Go.Proofs.Lime
open Go.RowKit
set_option linter.unusedVariables false
set_option linter.unusedSimpArgs false
set_option linter.unusedSectionVars false

section
variable {t : List Nd} (M : May t)
include M
theorem May.topT_mem {n : Int} (hn : isN t n = true) : topT t n ∈ upsP t n := by
  have h1 := M.upsP_step hn
  rw [topT, List.getLastD_eq_getLast?, List.getLast?_eq_some_getLast (by rw [h1]; simp)]
  exact List.getLast_mem _
theorem May.topT_above {n : Int} (hn : isN t n = true) : topT t n ∈ upsT t n := by
  rw [M.ups_split hn]; exact List.mem_append_left _ (M.topT_mem hn)
theorem May.hostT_above {n : Int} (hn : isN t n = true) (h : hostT t n ≠ -1) : hostT t n ∈ upsT t n := by
  rw [M.ups_split hn]
  exact List.mem_append_right _ (M.shade.self ((M.host_or hn).resolve_left h))
theorem May.hostT_root {n : Int} (hn : isN t n = true) (h : hostT t n ≠ -1) : (nd t (hostT t n)).root = topT t n := by
  have ht := M.topT_isN hn
  unfold hostT at h ⊢
  by_cases h3 : (nd t (topT t n)).kind = 3
  · exact (M.sh3 ht h3).2.2.2.2
  · exact absurd (M.shn ht h3).1 h
theorem May.par_0 : isN t 0 = true ∧ upN t 0 = -1 := by
  have h0 : isN t 0 = true := by have := M.len1; rw [isN_iff]; omega
  have hk := M.kinds h0
  have h3 : (nd t 0).kind ≠ 3 := by have := hk.2.2.2 rfl; omega
  refine ⟨h0, ?_⟩
  rw [M.par_up h0 h3]
  by_cases hp : parN t 0 = -1
  · exact hp
  · obtain ⟨h1, h2⟩ := M.par_mem h0 hp
    have := hk.2.2.2 rfl
    rcases (M.kid h1 h2).2.2.2 with h | h <;> omega
theorem May.ups_0 : upsT t 0 = [0] := by
  obtain ⟨h0, hu⟩ := M.par_0
  rw [M.ups_step h0, hu, upsT_none]
/-- Induction along hosts. -/
theorem May.host_ind {P : Int → Prop} (h : ∀ a, isN t a = true → (hostT t a ≠ -1 → P (hostT t a)) → P a) : ∀ a, isN t a = true → P a := by
  have key : ∀ d a, isN t a = true → dep t a ≤ d → P a := by
    intro d
    induction d with
    | zero => intro a ha hd; rw [M.dep_step ha] at hd; omega
    | succ d ih =>
      intro a ha hd
      refine h a ha fun hh => ih _ ((M.host_or ha).resolve_left hh) ?_
      have := M.dep_host ha hh; omega
  exact fun a ha => key _ a ha (Nat.le_refl _)
theorem May.ret_isN (holds : List Int) : ∀ a, isN t a = true → isN t (retIn t holds (t.length + 1) a) = true := by
  refine M.host_ind fun a ha ih => ?_
  rw [M.retT_step ha]
  split
  · rename_i h; exact ih h.1
  · exact ha
theorem May.ret_above (holds : List Int) : ∀ a, isN t a = true → retIn t holds (t.length + 1) a ∈ upsT t a := by
  refine M.host_ind fun a ha ih => ?_
  rw [M.retT_step ha]
  split
  · rename_i h
    exact M.shade.up_trans (.inr ha) (ih h.1) (M.hostT_above ha h.1)
  · exact M.shade.self ha
theorem May.ret_stop (holds : List Int) : ∀ a, isN t a = true → ¬ (hostT t (retIn t holds (t.length + 1) a) ≠ -1 ∧ (nd t (hostT t (retIn t holds (t.length + 1) a))).root ∉ holds) := by
  refine M.host_ind fun a ha ih => ?_
  rw [M.retT_step ha]
  split
  · rename_i h; exact ih h.1
  · rename_i h; exact h
theorem May.ret_idem (holds : List Int) (a : Int) (ha : isN t a = true) : retIn t holds (t.length + 1) (retIn t holds (t.length + 1) a) = retIn t holds (t.length + 1) a := by
  rw [M.retT_step (M.ret_isN holds a ha), if_neg (M.ret_stop holds a ha)]
theorem May.ret_root (holds : List Int) : ∀ a, isN t a = true → retIn t holds (t.length + 1) a = a ∨ (nd t (retIn t holds (t.length + 1) a)).root ≠ -1 := by
  refine M.host_ind fun a ha ih => ?_
  rw [M.retT_step ha]
  split
  · rename_i h
    refine .inr ?_
    rcases ih h.1 with h1 | h1
    · rw [h1, M.hostT_root ha h.1]; exact M.ne1 (M.topT_isN ha)
    · exact h1
  · exact .inl rfl
theorem May.ret_self {a : Int} (ha : isN t a = true) : retT t a a = a := by
  unfold retT
  rw [M.retT_step ha, if_neg]
  rintro ⟨h1, h2⟩
  rw [M.hostT_root ha h1] at h2
  exact h2 (M.topT_above ha)
theorem May.ret_ret {h1 h2 : List Int} (hs : ∀ x, x ∈ h2 → x ∈ h1) : ∀ a, isN t a = true → retIn t h2 (t.length + 1) (retIn t h1 (t.length + 1) a) = retIn t h2 (t.length + 1) a := by
  refine M.host_ind fun a ha ih => ?_
  by_cases h : hostT t a ≠ -1 ∧ (nd t (hostT t a)).root ∉ h1
  · rw [M.retT_step ha h1, if_pos h, ih h.1, M.retT_step ha h2, if_pos ⟨h.1, fun hm => h.2 (hs _ hm)⟩]
  · rw [M.retT_step ha h1, if_neg h]
end
end Go.Proofs.Lime
