/- Plain law: a tree copied by the document's function is the same one. No conditions. -/
import Derived.Test.YtclhmgchllenlaaE01
import Derived.Test.YtclhmgchllenlaaPx2
namespace Go.Proofs.Ytclhmgchllenlaa.P
open Go.RowKit Go.Proofs.YtclhmgchllenlaaW.PrintWords Go.Proofs.YtclhmgchllenlaaW.PrintLast Go.Proofs.YtclhmgchllenlaaW.PrintMore
set_option linter.unusedVariables false
set_option linter.unusedSimpArgs false
theorem copy_l {l : List S49} (hb : Bnd l) : ∀ d i : Nat, i + d = l.length → Ev (fun k => limelightref01_Copy.l0 k l (l.take i) i) l := by
  intro d
  induction d with
  | zero =>
    intro i hi
    refine Ev.step (fun k => by rw [limelightref01_Copy.l0]) ?_
    exact Ev.no (by omega) (Ev.pure (by rw [List.take_of_length_le (by omega)]))
  | succ d ih =>
    intro i hi
    have hlt : i < l.length := by omega
    have hl := hb.len
    have h6 := hb.all _ (List.getElem_mem hlt)
    refine Ev.step (fun k => by rw [limelightref01_Copy.l0]) ?_
    refine Ev.yes (by omega) (Ev.yes (by omega) ?_)
    rw [rdS hlt]
    simp only [Option.bind_some, List.length_nil, Nat.zero_add, List.nil_append]
    refine Ev.yes (by omega) (Ev.yes (by omega) (Ev.yes (by rw [List.length_take]; omega) ?_))
    rw [w1 (by omega), ← List.take_succ_eq_append_getElem hlt]
    exact ih (i + 1) (by omega)
theorem copy_ev {l : List S49} (hb : Bnd l) : Ev (fun k => limelightref01_Copy.f k l) l := copy_l hb l.length 0 (by omega)
end Go.Proofs.Ytclhmgchllenlaa.P
