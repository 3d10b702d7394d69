/- Plain law: the statement FlatHosts. No conditions. -/
import Derived.Test.YtfdhfnjdafaogaaE06r
import Derived.Test.YtfdhfnjdafaogaaPx9
namespace Go.Proofs.Ytfdhfnjdafaogaa.P
open Go.RowKit Go.Proofs.YtfdhfnjdafaogaaW.PrintWords Go.Proofs.YtfdhfnjdafaogaaW.PrintLast Go.Proofs.YtfdhfnjdafaogaaW.PrintMore
open Go.Proofs.Lime (May listT topT upsP parN isN nd mayT dep upsT upN hostT slotB slotsT ofT asgT kidsF parF upsF listF overF)
set_option linter.unusedVariables false
set_option linter.unusedSimpArgs false
set_option linter.unusedSectionVars false
theorem FlatHosts_ok (l : List S36) : ∃ k, limelightlaw06_FlatHosts.f k l = some true := by
  refine Ev.rounds ?_
  have hlive : Ev (fun k => limelightlaw06_FlatHosts.j0 k l true) true := by
    refine Ev.step (fun k => by rw [limelightlaw06_FlatHosts.j0]) ?_
    exact Ev.yes rfl live_some
  unfold limelightlaw06_FlatHosts.f
  simp only [few_f, limelightref01_May.f, Option.bind_some]
  refine Ev.ite (fun hf => Ev.ite (fun _ => hlive) (fun h16 => ?_)) (fun _ => hlive)
  have hs := few_small hf
  cases hm : mayT (tr l) with
  | false => exact hlive
  | true =>
    have M := Lime.May.of hm
    have hl := small16 h16
    refine Ev.step (fun k => by rw [limelightlaw06_FlatHosts.j0]) ?_
    refine Ev.no (by simp) ?_
    refine Ev.up0 (L := fun k i => limelightlaw06_FlatHosts.l0 k l i) l.length ?_ ?_
    · refine Ev.step (fun k => by rw [limelightlaw06_FlatHosts.l0]) ?_
      exact Ev.no (by omega) live_some
    · intro i hi ih
      have hn : isN (tr l) (i : Int) = true := isN_of' hi
      have next : Ev (fun k => limelightlaw06_FlatHosts.l0 k l (wrap64 ((i : Int) + 1))) true := by
        rw [w1 (by omega)]
        exact ih
      have h0 : (0 : Int) ≤ (i : Int) := by omega
      have hlt : (i : Int) < (l.length : Int) := by omega
      refine Ev.step (fun k => by rw [limelightlaw06_FlatHosts.l0]) ?_
      rw [rd_root]
      refine Ev.yes hlt (Ev.yes h0 (Ev.ite (fun _ => next) (fun hr => ?_)))
      obtain ⟨k1, g1, g2, g3⟩ := M.root hn rfl hr
      have h2 := isN_lt g1
      simp only [FKids_f hs, limelightref01_Ints.f, Option.bind_some, kidsFR_may M hn]
      rw [rd_kids]
      refine Ev.yes h2.1 (Ev.yes h2.2 (Ev.yes (by rw [kidsF, if_neg (by omega), if_pos hr]; simp) ?_))
      have hkl := kids_len hs M hn
      refine Ev.up0 (L := fun k j => limelightlaw06_FlatHosts.l1 k l i j) (nd (tr l) i).kids.length ?_ ?_
      · refine Ev.step (fun k => by rw [limelightlaw06_FlatHosts.l1]) ?_
        exact Ev.yes h0 (Ev.yes hlt (Ev.no (by rw [rd_kids]; omega) next))
      · intro j hj ihj
        have hk := M.kid hn (List.getElem_mem hj)
        have nextj : Ev (fun k => limelightlaw06_FlatHosts.l1 k l i (wrap64 ((j : Int) + 1))) true := by
          rw [w1 (by omega)]
          exact ihj
        refine Ev.step (fun k => by rw [limelightlaw06_FlatHosts.l1]) ?_
        rw [rd_kids, rd_nat hj]
        refine Ev.yes h0 (Ev.yes hlt (Ev.yes (by omega) (Ev.yes (by omega) (Ev.bind (rof_ev hs M hk.1) ?_))))
        refine Ev.ite (fun ho => ?_) (fun _ => nextj)
        have hpar : parF (tr l) (nd (tr l) i).kids[j] = -1 := by
          have : overF (tr l) (nd (tr l) i).kids[j] = -1 := by
            rw [overF, if_neg (by rw [hk.2.2.1]; omega), if_neg (by rw [hk.2.2.1]; omega), if_pos (by rw [hk.2.2.1]; exact hr), ho]
          unfold parF
          rw [if_neg (fun h => h.1 this)]
        simp only [FPar_f hs, FHas_f hs, Option.bind_some, parFR_may M hk.1, aboveFR_may M hk.1]
        refine Ev.yes hpar (Ev.no ?_ nextj)
        have := not_in M hk.1 hpar (zero_of M hk.1 (by omega))
        simpa using this
end Go.Proofs.Ytfdhfnjdafaogaa.P
