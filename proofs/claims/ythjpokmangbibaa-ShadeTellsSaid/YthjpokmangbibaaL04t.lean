/- Plain law: the statement ShadeTells. No conditions. -/
import Derived.Test.YthjpokmangbibaaL04
import Derived.Test.YthjpokmangbibaaPx3
namespace Go.Proofs.Ythjpokmangbibaa.P
open Go.RowKit Go.Proofs.YthjpokmangbibaaW.PrintWords Go.Proofs.YthjpokmangbibaaW.PrintLast Go.Proofs.YthjpokmangbibaaW.PrintMore
open Go.Proofs.Lime (May listT topT upsP parN isN nd mayT dep upsT upN)
set_option linter.unusedVariables false
set_option linter.unusedSimpArgs false
set_option linter.unusedSectionVars false
theorem ShadeTells_ok (l : List S35) (a b : Int) : ∃ k, limelightlaw04_ShadeTells.f k l a b = some true := by
  refine Ev.rounds ?_
  unfold limelightlaw04_ShadeTells.f
  simp only [limelightref01_Small.f, limelightref01_Ints.f, both_f, Option.bind_some]
  refine Ev.ite (fun hs => ?_) (fun _ => live_some)
  simp only [SUp_f hs, Ret_f hs, Host_f hs, Option.bind_some]
  refine Ev.ite (fun hb => ?_) (fun hb => ?_)
  · obtain ⟨h1, ha, hb⟩ := both_iff.1 hb
    have M := Lime.May.of h1
    refine Ev.bind (rup4_ev M ha) ?_
    refine Ev.yes (by rw [upsS_may M ha]; simp) ?_
    refine Ev.bind (sList_ev M hs ha) ?_
    refine Ev.bind (rlist4 M ha) ?_
    refine Ev.yes (by simp) ?_
    refine Ev.bind (sabove_ev hs a b) ?_
    refine Ev.bind (rabove4_ev M a hb) ?_
    refine Ev.yes (by rw [aboveS_may M hb]; simp) ?_
    refine Ev.bind (sconn_ev hs a) ?_
    refine Ev.bind (rconn4_ev M ha) ?_
    refine Ev.yes (by rw [aboveS_may M ha]; simp) ?_
    refine Ev.bind (rret4 M ha hb) ?_
    refine Ev.yes (retR_may M ha hb) ?_
    refine Ev.bind (rhost4_ev M ha) ?_
    exact Ev.yes (hostR_may M ha) live_some
  · have hb' : both (tr l) a b = false := by simpa using hb
    refine Ev.bind (sabove_ev hs a b) ?_
    refine Ev.no (by rw [aboveS_no hb']; simp) ?_
    refine Ev.yes ?_ ?_
    · unfold Lime.retR
      rw [if_neg (by rw [show (mayT (tr l) && (isN (tr l) a && isN (tr l) b)) = both (tr l) a b from rfl, hb']; simp)]
    refine Ev.ite (fun _ => live_some) (fun h => ?_)
    have h2 : ¬ (mayT (tr l) = true ∧ isN (tr l) a = true) := fun h3 => h (both_iff.2 ⟨h3.1, h3.2, h3.2⟩)
    have h3 : (mayT (tr l) && isN (tr l) a) = false := by rw [← Bool.not_eq_true]; simpa using h2
    refine Ev.yes (by rw [show Lime.upsS (tr l) a = [] from if_neg h2]; rfl) ?_
    simp only [shade_List.f, sis_f hs, h3, Option.bind_some]
    refine Ev.bind (a := ([] : List Int)) (Ev.no (by simp) (Ev.now _)) ?_
    refine Ev.yes (by rfl) ?_
    refine Ev.bind (sconn_ev hs a) ?_
    refine Ev.no ?_ ?_
    · unfold aboveS
      rw [show Lime.upsS (tr l) a = [] from if_neg h2]; simp
    · exact Ev.yes (if_neg h2) live_some

end Go.Proofs.Ythjpokmangbibaa.P
