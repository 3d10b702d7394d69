/- Shadows in plain words: whom a root holds. -/
import Derived.Test.YtbbmdpmpbggmgaaMP
namespace Go.Proofs.Lime
open Go.RowKit
set_option linter.unusedVariables false
set_option linter.unusedSimpArgs false
set_option linter.unusedSectionVars false

section
variable {t : List Nd} (M : May t)
include M
theorem May.root_top {r : Int} (hr : parN t r = -1) {n : Int} (hn : isN t n = true) : r ∈ upsP t n → topT t n = r := by
  refine M.par_ind (P := fun n => isN t n = true → r ∈ upsP t n → topT t n = r) (fun h => absurd rfl (M.ne1 h)) (fun n hn ih _ h => ?_) n (.inr hn) hn
  rw [M.upsP_step hn] at h
  rw [M.topT_step hn]
  by_cases hp : parN t n = -1
  · rw [if_pos hp]
    rw [hp, upsP_none] at h
    exact (List.mem_singleton.1 h).symm
  · rw [if_neg hp]
    rcases List.mem_cons.1 h with h1 | h1
    · exact absurd (h1 ▸ hr) hp
    · exact ih ((M.parN_or hn).resolve_left hp) h1
theorem May.ret_keeps {r : Int} (hrN : isN t r = true) (hr : parN t r = -1) : ∀ x, isN t x = true → r ∈ upsT t x → r ∈ upsT t (retIn t (upsT t r) (t.length + 1) x) := by
  refine M.host_ind (P := fun x => r ∈ upsT t x → r ∈ upsT t (retIn t (upsT t r) (t.length + 1) x)) fun x hx ih h => ?_
  rw [M.retT_step hx]
  split
  · rename_i hc
    refine ih hc.1 ?_
    rw [M.ups_split hx] at h
    rcases List.mem_append.1 h with h1 | h1
    · exfalso
      have h2 := hc.2
      rw [M.hostT_root hx hc.1, M.root_top hr hx h1] at h2
      exact h2 (M.shade.self hrN)
    · exact h1
  · exact h
/-- In a root is who is told of somebody to it, just where it holds him. -/
theorem May.act_key {f r : Int} (hf : isN t f = true) (hrN : isN t r = true) (hk : (nd t r).kind = 0 ∨ (nd t r).kind = 3) :
    (retT t f r ≠ r ∧ topT t (retT t f r) = r) ↔ (r ∈ upsT t f ∧ f ≠ r) := by
  have ha : isN t (retT t f r) = true := M.ret_isN _ f hf
  have hroot : (nd t r).root = -1 := by
    rcases hk with h | h
    · exact Classical.byContradiction fun hn => by
        obtain ⟨h1, _⟩ := M.dep_root hrN rfl hn
        have := (M.parts hrN).2.2.2
        rw [shadowOk, if_neg (by omega)] at this
        simp only [Bool.and_eq_true, Bool.or_eq_true, decide_eq_true_eq] at this
        rcases this.2 with h2 | h2
        · exact hn h2
        · omega
    · exact (M.sh3 hrN h).1
  have hpar : parN t r = -1 := by
    rcases hk with h | h
    · have h0 : r = 0 := ((M.kinds hrN).2.2).1 h
      have := M.par_0.2
      rw [h0] at h ⊢
      rw [M.par_up M.par_0.1 (by omega)] at this
      exact this
    · exact M.par_3 hrN h
  constructor
  · rintro ⟨h1, h2⟩
    have h3 := M.topT_above ha
    rw [h2] at h3
    refine ⟨M.shade.up_trans (.inr hf) h3 (M.ret_above _ f hf), ?_⟩
    rintro rfl
    exact h1 (M.ret_self hf)
  · rintro ⟨h, hne⟩
    have hra : r ∈ upsT t (retT t f r) := M.ret_keeps hrN hpar f hf h
    refine ⟨fun e => ?_, ?_⟩
    · rcases M.ret_root (upsT t r) f hf with h1 | h1
      · exact hne (h1.symm.trans e)
      · exact h1 (by rw [show retIn t (upsT t r) (t.length + 1) f = r from e]; exact hroot)
    · rw [M.ups_split ha] at hra
      rcases List.mem_append.1 hra with h1 | h1
      · exact M.root_top hpar ha h1
      · have hh : hostT t (retT t f r) ≠ -1 := by
          intro e
          rw [e, upsT_none] at h1
          cases h1
        have hst := M.ret_stop (upsT t r) f hf
        have hin : topT t (retT t f r) ∈ upsT t r := Classical.byContradiction fun hn => hst ⟨hh, by
          rw [show retIn t (upsT t r) (t.length + 1) f = retT t f r from rfl, M.hostT_root ha hh]; exact hn⟩
        have htN := M.topT_isN ha
        rcases M.shade.up_dep (.inr hrN) hin with e | h2
        · exact e
        · have h3 : (nd t (topT t (retT t f r))).kind = 3 := Classical.byContradiction fun hn => hh (M.shn htN hn).1
          have hup : upN t (topT t (retT t f r)) = hostT t (retT t f r) := by
            unfold upN hostT
            rw [if_pos h3]
          have h4 := M.dep_step htN
          rw [hup] at h4
          have hhN := (M.host_or ha).resolve_left hh
          rcases M.shade.up_dep (.inr hhN) h1 with e | h5
          · have h6 := congrArg (dep t) e
            omega
          · omega
end
end Go.Proofs.Lime
