/- Plain law: trees that are the same. No conditions. -/
import Derived.Test.YtclhmgchllenlaaE01
import Derived.Test.YtclhmgchllenlaaPx4
namespace Go.Proofs.Ytclhmgchllenlaa.P
open Go.RowKit Go.Proofs.YtclhmgchllenlaaW.PrintWords Go.Proofs.YtclhmgchllenlaaW.PrintLast Go.Proofs.YtclhmgchllenlaaW.PrintMore
set_option linter.unusedVariables false
set_option linter.unusedSimpArgs false
theorem one_l (a0 a1 a2 : Int) (l3 : List Int) (a4 a5 : Int) (l6 : List S65) (h : l6.length < 1000000) : ∀ d i : Nat, i + d = l6.length → Ev (fun k => limelightref01_One.l0 k i a0 a1 a2 l3 a4 a5 l6 a0 a1 a2 l3 a4 a5 l6) true := by
  intro d
  induction d with
  | zero =>
    intro i hi
    refine Ev.step (fun k => by rw [limelightref01_One.l0]) ?_
    refine Ev.no (by omega) ?_
    exact Ev.pure (by simp [limelightref01_Ints.f])
  | succ d ih =>
    intro i hi
    refine Ev.step (fun k => by rw [limelightref01_One.l0]) ?_
    refine Ev.yes (by omega) (Ev.yes (by omega) (Ev.yes (by omega) ?_))
    refine Ev.no (by simp) ?_
    rw [w1 (by omega)]
    exact ih (i + 1) (by omega)
theorem one_ev (a0 a1 a2 : Int) (l3 : List Int) (a4 a5 : Int) (l6 : List S65) (h : l6.length < 1000000) : Ev (fun k => limelightref01_One.f k a0 a1 a2 l3 a4 a5 l6 a0 a1 a2 l3 a4 a5 l6) true := by
  unfold limelightref01_One.f
  refine Ev.yes rfl (Ev.yes rfl (Ev.yes rfl (Ev.yes rfl (Ev.yes rfl ?_))))
  refine Ev.step (fun k => by rw [limelightref01_One.j0]) ?_
  refine Ev.no (by simp) ?_
  exact one_l a0 a1 a2 l3 a4 a5 l6 h l6.length 0 (by omega)
theorem same_l {l : List S49} (hb : Bnd l) : ∀ d i : Nat, i + d = l.length → Ev (fun k => limelightref01_Same.l0 k l l i) true := by
  intro d
  induction d with
  | zero =>
    intro i hi
    refine Ev.step (fun k => by rw [limelightref01_Same.l0]) ?_
    exact Ev.no (by omega) (Ev.pure rfl)
  | succ d ih =>
    intro i hi
    have hlt : i < l.length := by omega
    have hl := hb.len
    have h6 := (hb.all _ (List.getElem_mem hlt)).2
    refine Ev.step (fun k => by rw [limelightref01_Same.l0]) ?_
    refine Ev.yes (by omega) (Ev.yes (by omega) (Ev.yes (by omega) ?_))
    rw [rdS hlt]
    refine Ev.bind (one_ev _ _ _ _ _ _ _ (by omega)) ?_
    refine Ev.yes rfl ?_
    rw [w1 (by omega)]
    exact ih (i + 1) (by omega)
theorem same_ev {l : List S49} (hb : Bnd l) : Ev (fun k => limelightref01_Same.f k l l) true := by
  unfold limelightref01_Same.f
  exact Ev.yes rfl (same_l hb l.length 0 (by omega))
end Go.Proofs.Ytclhmgchllenlaa.P
