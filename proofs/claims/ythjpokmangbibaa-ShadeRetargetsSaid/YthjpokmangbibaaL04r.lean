/- Plain law: the statement ShadeRetargets. No conditions. -/
import Derived.Test.YthjpokmangbibaaL04
import Derived.Test.YthjpokmangbibaaMQ
import Derived.Test.YthjpokmangbibaaPx4
namespace Go.Proofs.Ythjpokmangbibaa.P
open Go.RowKit Go.Proofs.YthjpokmangbibaaW.PrintWords Go.Proofs.YthjpokmangbibaaW.PrintLast Go.Proofs.YthjpokmangbibaaW.PrintMore
open Go.Proofs.Lime (May listT topT upsP parN isN nd mayT dep upsT upN)
set_option linter.unusedVariables false
set_option linter.unusedSimpArgs false
set_option linter.unusedSectionVars false
theorem ShadeRetargets_ok (l : List S35) (a b : Int) : ∃ k, limelightlaw04_ShadeRetargets.f k l a b = some true := by
  refine Ev.rounds ?_
  unfold limelightlaw04_ShadeRetargets.f
  simp only [limelightref01_Small.f, both_f, Option.bind_some]
  have hlive : Ev (fun k => limelightlaw04_ShadeRetargets.j0 k l a b true) true := by
    refine Ev.step (fun k => by rw [limelightlaw04_ShadeRetargets.j0]) ?_
    exact Ev.yes rfl live_some
  refine Ev.ite (fun hs => ?_) (fun _ => hlive)
  cases hb1 : both (tr l) a b with
  | false => exact hlive
  | true =>
    obtain ⟨h1, ha, hb⟩ := both_iff.1 hb1
    have M := Lime.May.of h1
    have hcN : isN (tr l) (Lime.retT (tr l) a b) = true := M.ret_isN _ a ha
    have j1 : Ev (fun k => limelightlaw04_ShadeRetargets.j1 k l a b (Lime.retT (tr l) a b) false) true := by
      refine Ev.step (fun k => by rw [limelightlaw04_ShadeRetargets.j1]) ?_
      refine Ev.no (by simp) ?_
      simp only [Ret_f hs, retR_may M hcN hb, retR_may M ha ha, Option.bind_some]
      refine Ev.yes (M.ret_idem _ a ha) ?_
      have hx := isN_lt hcN
      refine Ev.ite (fun _ => Ev.yes (M.ret_self ha) live_some) (fun hne => ?_)
      refine Ev.yes hx.1 (Ev.yes hx.2 (Ev.no ?_ (Ev.yes (M.ret_self ha) live_some)))
      rw [rd_root]
      exact (M.ret_root _ a ha).resolve_left hne
    refine Ev.step (fun k => by rw [limelightlaw04_ShadeRetargets.j0]) ?_
    refine Ev.no (by simp) ?_
    simp only [Ret_f hs, retR_may M ha hb, Option.bind_some]
    refine Ev.bind (sabove_ev hs _ a) ?_
    refine Ev.yes (by rw [aboveS_may M ha]; exact decide_eq_true (M.ret_above _ a ha)) ?_
    refine Ev.bind (rtop_ev M hcN) ?_
    have htN := M.topT_isN hcN
    have hx := isN_lt htN
    refine Ev.yes hx.1 (Ev.yes hx.2 ?_)
    rw [rd_kind]
    refine Ev.ite (fun h3 => ?_) (fun _ => j1)
    refine Ev.bind (sabove_ev hs _ b) ?_
    rw [aboveS_may M hb]
    have hh := (top_kind M hcN).1.1 h3
    have hst := M.ret_stop (upsT (tr l) b) a ha
    have hroot := M.hostT_root hcN hh
    have hm : topT (tr l) (Lime.retT (tr l) a b) ∈ upsT (tr l) b := by
      apply Classical.byContradiction
      intro hm
      exact hst ⟨hh, by rw [show (nd (tr l) (Lime.hostT (tr l) (Lime.retIn (tr l) (upsT (tr l) b) ((tr l).length + 1) a))).root = _ from hroot]; exact hm⟩
    rw [decide_eq_true hm]
    exact j1

end Go.Proofs.Ythjpokmangbibaa.P
