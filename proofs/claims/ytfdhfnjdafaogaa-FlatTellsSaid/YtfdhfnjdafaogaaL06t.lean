/- Plain law: the statement FlatTells. No conditions. -/
import Derived.Test.YtfdhfnjdafaogaaE06r
import Derived.Test.YtfdhfnjdafaogaaPx10
namespace Go.Proofs.Ytfdhfnjdafaogaa.P
open Go.RowKit Go.Proofs.YtfdhfnjdafaogaaW.PrintWords Go.Proofs.YtfdhfnjdafaogaaW.PrintLast Go.Proofs.YtfdhfnjdafaogaaW.PrintMore
open Go.Proofs.Lime (May listT topT upsP parN isN nd mayT dep upsT upN hostT slotB slotsT ofT asgT kidsF parF upsF listF overF)
set_option linter.unusedVariables false
set_option linter.unusedSimpArgs false
set_option linter.unusedSectionVars false
theorem FlatTells_ok (l : List S36) (a b : Int) : ∃ k, limelightlaw06_FlatTells.f k l a b = some true := by
  refine Ev.rounds ?_
  unfold limelightlaw06_FlatTells.f
  simp only [few_f, both_f, Option.bind_some]
  refine Ev.ite (fun hf => ?_) (fun _ => live_some)
  have hs := few_small hf
  simp only [FKids_f hs, FPar_f hs, FUp_f hs, FAbove_f hs, FHas_f hs, limelightref01_Ints.f, Option.bind_some]
  refine Ev.ite (fun hb => ?_) (fun hb => ?_)
  · obtain ⟨h1, ha, hb⟩ := both_iff.1 hb
    have M := Lime.May.of h1
    refine Ev.bind (rkids6_ev hs M ha) (Ev.yes (by rw [kidsFR_may M ha]; simp) ?_)
    refine Ev.bind (rpar6_ev hs M ha) (Ev.yes (parFR_may M ha) ?_)
    refine Ev.bind (rup6_ev hs M ha) (Ev.yes (by rw [upsFR_may M ha]; simp) ?_)
    refine Ev.bind (rhas6_ev hs M ha) (Ev.yes (by rw [aboveFR_may M ha]; simp) ?_)
    exact Ev.bind (rabove6_ev hs M a hb) (Ev.yes (by rw [aboveFR_may M hb]; simp) live_some)
  · refine Ev.no ?_ (Ev.ite (fun _ => live_some) (fun h => ?_))
    · have hb' : ¬ (mayT (tr l) = true ∧ isN (tr l) a = true ∧ isN (tr l) b = true) := fun h => hb (both_iff.2 h)
      unfold Lime.aboveFR Lime.upsFR
      split
      · rename_i h
        have M := Lime.May.of h.1
        simp only [decide_eq_true_eq]
        exact fun hm => hb' ⟨h.1, M.flat.up_ok (.inr h.2) hm, h.2⟩
      · simp
    · have h2 : ¬ (mayT (tr l) = true ∧ isN (tr l) a = true) := fun h3 => h (both_iff.2 ⟨h3.1, h3.2, h3.2⟩)
      refine Ev.yes (by rw [show Lime.kidsFR (tr l) a = [] from if_neg h2]; rfl) (Ev.yes (if_neg h2) (Ev.yes (by rw [show Lime.upsFR (tr l) a = [] from if_neg h2]; rfl) (Ev.no ?_ live_some)))
      unfold Lime.aboveFR
      rw [show Lime.upsFR (tr l) a = [] from if_neg h2]
      simp
end Go.Proofs.Ytfdhfnjdafaogaa.P
