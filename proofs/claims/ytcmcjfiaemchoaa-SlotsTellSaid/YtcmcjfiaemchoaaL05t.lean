/- Plain law: the statement SlotsTell. No conditions. -/
import Derived.Test.YtcmcjfiaemchoaaL05
import Derived.Test.YtcmcjfiaemchoaaPx4
namespace Go.Proofs.Ytcmcjfiaemchoaa.P
open Go.RowKit Go.Proofs.YtcmcjfiaemchoaaW.PrintWords Go.Proofs.YtcmcjfiaemchoaaW.PrintLast Go.Proofs.YtcmcjfiaemchoaaW.PrintMore
open Go.Proofs.Lime (May listT topT upsP parN isN nd mayT dep upsT upN hostT slotB slotsT ofT asgT attrT nameT overT)
set_option linter.unusedVariables false
set_option linter.unusedSimpArgs false
set_option linter.unusedSectionVars false

theorem SlotsTell_ok (l : List S35) (n : Int) : ∃ k, limelightlaw05_SlotsTell.f k l n = some true := by
  refine Ev.rounds ?_
  unfold limelightlaw05_SlotsTell.f
  simp only [few_f, both_f, Option.bind_some]
  refine Ev.ite (fun hf => ?_) (fun _ => live_some)
  have hs := few_small hf
  simp only [SlOf_f hs, SlAll_f hs, SlAsg_f hs, limelightref01_Ints.f, Option.bind_some]
  refine Ev.ite (fun hb => ?_) (fun hb => ?_)
  · obtain ⟨h1, hn, _⟩ := both_iff.1 hb
    have M := Lime.May.of h1
    refine Ev.bind (rof_ev hs M hn) (Ev.yes (ofR_may hs M hn) ?_)
    refine Ev.bind (rasg_ev hs M hn) (Ev.yes (by rw [asgR_may hs M hn]; simp) ?_)
    refine Ev.bind (rall_ev hs M hn) (Ev.yes (by rw [allR_may hs M hn]; simp) live_some)
  · have h2 : ¬ (mayT (tr l) = true ∧ isN (tr l) n = true) := fun h3 => hb (both_iff.2 ⟨h3.1, h3.2, h3.2⟩)
    refine Ev.yes (if_neg h2) ?_
    rw [show Lime.asgR (tr l) n = [] from if_neg h2]
    rw [show Lime.allR (tr l) n = [] from if_neg (by simp only [Bool.and_eq_true, not_and]; intro h1 h3; exact absurd ⟨h1, h3⟩ h2)]
    exact Ev.yes rfl (Ev.yes rfl live_some)
end Go.Proofs.Ytcmcjfiaemchoaa.P
