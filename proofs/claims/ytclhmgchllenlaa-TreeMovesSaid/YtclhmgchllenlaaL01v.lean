/- Plain law: TreeMoves. No conditions. -/
import Derived.Test.YtclhmgchllenlaaE01s
import Derived.Test.YtclhmgchllenlaaPres
import Derived.Test.YtclhmgchllenlaaGRm
import Derived.Test.YtclhmgchllenlaaPx13
namespace Go.Proofs.Ytclhmgchllenlaa.P
open Go.RowKit Go.Proofs.YtclhmgchllenlaaW.PrintWords Go.Proofs.YtclhmgchllenlaaW.PrintLast Go.Proofs.YtclhmgchllenlaaW.PrintMore
open Go.Proofs.Lime (isN nd mayT insR rmR noNd Nd May)
set_option linter.unusedVariables false
set_option linter.unusedSimpArgs false
theorem bnd_insR (t : List Nd) (p c b : Int) : Bnd (rt (insR t p c b).1) := by
  rw [← Bnd.iff, tr_rt]
  cases hm : mayT t with
  | false => rw [insR, if_pos hm]; rfl
  | true => exact Lime.may_okT (Lime.may_insR (May.of hm) p c b).1
theorem bnd_rmR (t : List Nd) (c : Int) : Bnd (rt (rmR t c).1) := by
  rw [← Bnd.iff, tr_rt]
  cases hm : mayT t with
  | false => rw [rmR, if_pos hm]; rfl
  | true => exact Lime.may_okT (Lime.may_rmR (May.of hm) c).1
theorem TreeMoves_ok (l : List S49) (a b c : Int) : ∃ k, limelightlaw01_TreeMoves.f k l a b c = some true := by
  refine Ev.rounds ?_
  unfold limelightlaw01_TreeMoves.f
  unfold limelightref01_Small.f limelightlaw01_own.f
  simp only [Option.bind_some]
  cases hs : Lime.smallT (tr l) with
  | false => exact Ev.no (by simp) live_some
  | true =>
    have hb := Bnd.small hs
    have hok := small_ok hs
    refine Ev.yes rfl ?_
    unfold limelightref01_Copy.f limelightref01_Insert.f limelightref01_Remove.f tree_Remove.f tree_Insert.f ifOk
    rw [if_pos hok, if_pos hok, if_pos hok]
    simp only [Option.bind_some]
    refine Ev.bind (same_ev (bnd_insR _ a b c)) ?_
    refine Ev.yes rfl (Ev.yes trivial ?_)
    refine Ev.bind (same_ev (bnd_rmR _ b)) ?_
    refine Ev.yes rfl (Ev.yes trivial ?_)
    refine Ev.bind (same_ev hb) ?_
    exact Ev.yes rfl live_some
end Go.Proofs.Ytclhmgchllenlaa.P
