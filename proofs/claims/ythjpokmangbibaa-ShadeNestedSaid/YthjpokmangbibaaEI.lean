/- Plain law: places in lists; what my own contracts' functions tell of small trees. No conditions. -/
import Derived.Test.YthjpokmangbibaaE0
import Derived.Test.YthjpokmangbibaaME
import Derived.Test.YthjpokmangbibaaPx1
import Derived.Test.YthjpokmangbibaaMP
namespace Go.Proofs.Ythjpokmangbibaa.P
open Go.RowKit Go.Proofs.YthjpokmangbibaaW.PrintWords Go.Proofs.YthjpokmangbibaaW.PrintLast Go.Proofs.YthjpokmangbibaaW.PrintMore
set_option linter.unusedVariables false
set_option linter.unusedSimpArgs false

theorem index_l (l : List Int) (a : Int) (hl : l.length < 1000000) : ∀ d i : Nat, i + d = l.length → Ev (fun k => slices_Index_int_int.l0 k l a l.length i) (Lime.idxFrom (· == a) i (l.drop i)) := by
  intro d
  induction d with
  | zero =>
    intro i hi
    refine Ev.step (fun k => by rw [slices_Index_int_int.l0]) ?_
    refine Ev.no (by omega) ?_
    exact Ev.pure (by rw [List.drop_eq_nil_of_le (by omega)]; rfl)
  | succ d ih =>
    intro i hi
    have hlt : i < l.length := by omega
    refine Ev.step (fun k => by rw [slices_Index_int_int.l0]) ?_
    refine Ev.yes (by omega) (Ev.yes (by omega) (Ev.yes (by omega) ?_))
    rw [rd_nat hlt, w1 (by omega), drop_at hlt, Lime.idxFrom]
    by_cases hx : l[i] = a
    · refine Ev.yes hx.symm (Ev.pure ?_)
      simp [hx]
    · refine Ev.no (fun h => hx h.symm) ?_
      simp only [beq_iff_eq, hx, if_false]
      exact ih (i + 1) (by omega)
theorem index_ev (l : List Int) (a : Int) (hl : l.length < 1000000) : Ev (fun k => slices_Index_int_int.f k l a) (plc l a) := index_l l a hl l.length 0 (by omega)
theorem contains_ev (l : List Int) (a : Int) (hl : l.length < 1000000) : Ev (fun k => slices_Contains_int_int.f k l a) (decide (a ∈ l)) :=
  Ev.bind (f := fun _ t => some (decide (t ≥ 0))) (index_ev l a hl) (Ev.pure (by congr 1; exact decide_eq_decide.2 plc_iff))

section
variable {l : List S35} (hs : Lime.smallT (tr l) = true)
include hs
theorem Up_f (n : Int) : order_Up.f l n = some (Lime.upsR (tr l) n) := ifSmall_yes hs
theorem Top_f (n : Int) : order_Top.f l n = some (Lime.topR (tr l) n) := ifSmall_yes hs
theorem all_f (ns : List Int) : order_all.f l ns = some (Lime.allT (tr l) ns) := ifSmall_yes hs
theorem small_len : l.length ≤ 70 := by
  have h := hs
  simp only [Lime.smallT, Bool.and_eq_true, decide_eq_true_eq, tr_length] at h
  exact h.1
end
theorem ups_len {t : List Lime.Nd} (n : Int) : (Lime.upsR t n).length ≤ t.length + 1 := by
  unfold Lime.upsR
  split
  · exact Lime.chain_le _ _ _
  · simp
end Go.Proofs.Ythjpokmangbibaa.P
