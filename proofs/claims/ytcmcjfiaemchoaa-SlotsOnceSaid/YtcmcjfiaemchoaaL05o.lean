/- Plain law: the statement SlotsOnce. No conditions. -/
import Derived.Test.YtcmcjfiaemchoaaL05
import Derived.Test.YtcmcjfiaemchoaaPx5
namespace Go.Proofs.Ytcmcjfiaemchoaa.P
open Go.RowKit Go.Proofs.YtcmcjfiaemchoaaW.PrintWords Go.Proofs.YtcmcjfiaemchoaaW.PrintLast Go.Proofs.YtcmcjfiaemchoaaW.PrintMore
open Go.Proofs.Lime (May listT topT upsP parN isN nd mayT dep upsT upN hostT slotB slotsT ofT asgT attrT nameT overT)
set_option linter.unusedVariables false
set_option linter.unusedSimpArgs false
set_option linter.unusedSectionVars false

theorem SlotsOnce_ok (l : List S35) : ∃ k, limelightlaw05_SlotsOnce.f k l = some true := by
  refine Ev.rounds ?_
  have hlive : Ev (fun k => limelightlaw05_SlotsOnce.j0 k l true) true := by
    refine Ev.step (fun k => by rw [limelightlaw05_SlotsOnce.j0]) ?_
    exact Ev.yes rfl live_some
  unfold limelightlaw05_SlotsOnce.f
  simp only [few_f, limelightref01_May.f, Option.bind_some]
  refine Ev.ite (fun hf => Ev.ite (fun _ => hlive) (fun h16 => ?_)) (fun _ => hlive)
  have hs := few_small hf
  cases hm : mayT (tr l) with
  | false => exact hlive
  | true =>
    have M := Lime.May.of hm
    have hl := small16 h16
    refine Ev.step (fun k => by rw [limelightlaw05_SlotsOnce.j0]) ?_
    refine Ev.no (by simp) ?_
    refine Ev.up0 (L := fun k i => limelightlaw05_SlotsOnce.l0 k l i) l.length ?_ ?_
    · refine Ev.step (fun k => by rw [limelightlaw05_SlotsOnce.l0]) ?_
      exact Ev.no (by omega) live_some
    · intro i hi ih
      have hn : isN (tr l) (i : Int) = true := isN_of' hi
      refine Ev.step (fun k => by rw [limelightlaw05_SlotsOnce.l0]) ?_
      simp only [SlOf_f hs, Option.bind_some, ofR_may hs M hn]
      refine Ev.yes (by omega) ?_
      refine Ev.up0 (L := fun k j => limelightlaw05_SlotsOnce.l1 k l i (ofT (tr l) i) j) l.length ?_ ?_
      · refine Ev.step (fun k => by rw [limelightlaw05_SlotsOnce.l1]) ?_
        refine Ev.no (by omega) ?_
        rw [w1 (by omega)]
        exact ih
      · intro j hj ihj
        have hsN : isN (tr l) (j : Int) = true := isN_of' hj
        have hal := asg_len hs M hsN
        have hmem := M.mem_asg (n := (i : Int)) hsN
        refine Ev.step (fun k => by rw [limelightlaw05_SlotsOnce.l1]) ?_
        simp only [SlAsg_f hs, Option.bind_some, asgR_may hs M hsN]
        refine Ev.yes (by omega) (Ev.bind (in_ev _ _ (by omega)) ?_)
        have hd : decide ((i : Int) ∈ asgT (tr l) j) = (ofT (tr l) i == (j : Int)) := by
          rw [Bool.eq_iff_iff]
          simp only [decide_eq_true_eq, beq_iff_eq, hmem, hn, true_and]
        refine Ev.no (by rw [hd]; simp) ?_
        have next : Ev (fun k => limelightlaw05_SlotsOnce.l1 k l i (ofT (tr l) i) (wrap64 ((j : Int) + 1))) true := by
          rw [w1 (by omega)]
          exact ihj
        refine Ev.ite (fun h => ?_) (fun _ => next)
        have hk := M.asg_kid hsN (of_decide_eq_true h)
        have h1 := isN_lt (M.par_mem hn hk.2.1).1
        refine Ev.yes (by omega) (Ev.yes (by omega) ?_)
        rw [rd_parent, show (nd (tr l) (i : Int)).parent = parN (tr l) i from rfl]
        refine Ev.no (by omega) (Ev.yes h1.1 (Ev.yes h1.2 (Ev.bind (rtop_ev M hsN) ?_)))
        rw [rd_root]
        exact Ev.yes hk.2.2.1 next
end Go.Proofs.Ytcmcjfiaemchoaa.P
