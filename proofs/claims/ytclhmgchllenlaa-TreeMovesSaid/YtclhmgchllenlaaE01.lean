/- Plain law: words for trees of no great length. No conditions. -/
import Derived.Test.YtclhmgchllenlaaE0
import Derived.Test.YtclhmgchllenlaaGMk
import Derived.Test.YtclhmgchllenlaaLiv01
namespace Go.Proofs.Ytclhmgchllenlaa.P
open Go.RowKit Go.Proofs.YtclhmgchllenlaaW.PrintWords Go.Proofs.YtclhmgchllenlaaW.PrintLast Go.Proofs.YtclhmgchllenlaaW.PrintMore
set_option linter.unusedVariables false
set_option linter.unusedSimpArgs false
set_option linter.unusedSectionVars false
theorem live_some : Ev (fun _ => (limelightlaw01_live.f).bind fun t => some t) true := Ev.pure rfl
theorem rdS {l : List S49} {i : Nat} (h : i < l.length) : rd_T49 l (i : Int) = l[i] := by simp [rd_T49, h]
theorem rdA {l : List S65} {i : Nat} (h : i < l.length) : rd_T65 l (i : Int) = l[i] := by simp [rd_T65, h]
/-- A tree whose lists are of no great length. -/
structure Bnd (l : List S49) : Prop where mk ::
  len : l.length ≤ 1000
  all : ∀ x ∈ l, x.f3.length ≤ 1000 ∧ x.f6.length ≤ 1000
theorem Bnd.iff {l : List S49} : Lime.okT (tr l) = true ↔ Bnd l := by
  rw [Lime.okT_iff, tr_length]
  constructor
  · rintro ⟨h1, h2⟩
    refine ⟨h1, fun x hx => ?_⟩
    have := h2 (nd1 x) (List.mem_map.2 ⟨x, hx, rfl⟩)
    simpa [nd1] using this
  · rintro ⟨h1, h2⟩
    refine ⟨h1, fun x hx => ?_⟩
    obtain ⟨y, hy, rfl⟩ := List.mem_map.1 hx
    have := h2 y hy
    simpa [nd1] using this
theorem small_ok {t : List Lime.Nd} (h : Lime.smallT t = true) : Lime.okT t = true := by
  rw [Lime.okT_iff]
  simp only [Lime.smallT, Bool.and_eq_true, decide_eq_true_eq, List.all_eq_true] at h
  exact ⟨by omega, fun x hx => by have := h.2 x hx; omega⟩
theorem Bnd.small {l : List S49} (h : Lime.smallT (tr l) = true) : Bnd l := Bnd.iff.1 (small_ok h)
end Go.Proofs.Ytclhmgchllenlaa.P
