/- Plain law: the statement ShadeNested. No conditions. -/
import Derived.Test.YthjpokmangbibaaL04
import Derived.Test.YthjpokmangbibaaMQ
import Derived.Test.YthjpokmangbibaaPx6
namespace Go.Proofs.Ythjpokmangbibaa.P
open Go.RowKit Go.Proofs.YthjpokmangbibaaW.PrintWords Go.Proofs.YthjpokmangbibaaW.PrintLast Go.Proofs.YthjpokmangbibaaW.PrintMore
open Go.Proofs.Lime (May listT topT upsP parN isN nd mayT dep upsT upN)
set_option linter.unusedVariables false
set_option linter.unusedSimpArgs false
set_option linter.unusedSectionVars false
theorem ShadeNested_ok (l : List S35) (a b c : Int) : ∃ k, limelightlaw04_ShadeNested.f k l a b c = some true := by
  refine Ev.rounds ?_
  unfold limelightlaw04_ShadeNested.f
  simp only [limelightref01_Small.f, both_f, Option.bind_some]
  have hlive : Ev (fun k => limelightlaw04_ShadeNested.j0 k l a b c true) true := by
    refine Ev.step (fun k => by rw [limelightlaw04_ShadeNested.j0]) ?_
    exact Ev.yes rfl live_some
  refine Ev.ite (fun hs => ?_) (fun _ => live_some)
  refine Ev.ite (fun hb1 => ?_) (fun _ => hlive)
  refine Ev.ite (fun hb2 => ?_) (fun _ => hlive)
  obtain ⟨h1, ha, hb⟩ := both_iff.1 hb1
  obtain ⟨_, _, hc⟩ := both_iff.1 hb2
  have M := Lime.May.of h1
  have F := M.shade
  refine Ev.bind (sabove_ev hs c b) ?_
  rw [aboveS_may M hb]
  by_cases hcb : c ∈ upsT (tr l) b
  · rw [decide_eq_true hcb]
    refine Ev.step (fun k => by rw [limelightlaw04_ShadeNested.j0]) ?_
    refine Ev.no (by simp) ?_
    have hxN : isN (tr l) (Lime.retT (tr l) a b) = true := M.ret_isN _ a ha
    simp only [Ret_f hs, retR_may M ha hb, retR_may M ha hc, retR_may M hxN hc, Option.bind_some]
    have hrr : Lime.retT (tr l) (Lime.retT (tr l) a b) c = Lime.retT (tr l) a c := M.ret_ret (fun x hx => F.up_trans (.inr hb) hx hcb) a ha
    refine Ev.bind (sabove_ev hs _ _) ?_
    refine Ev.yes ?_ ?_
    · rw [aboveS_may M hxN, ← hrr]
      exact decide_eq_true (M.ret_above _ _ hxN)
    · exact Ev.yes hrr live_some
  · rw [decide_eq_false hcb]
    exact hlive
end Go.Proofs.Ythjpokmangbibaa.P
