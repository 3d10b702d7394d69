/- Plain law: the statement SlotsHosts. No conditions. -/
import Derived.Test.YtcmcjfiaemchoaaL05
import Derived.Test.YtcmcjfiaemchoaaPx8
namespace Go.Proofs.Ytcmcjfiaemchoaa.P
open Go.RowKit Go.Proofs.YtcmcjfiaemchoaaW.PrintWords Go.Proofs.YtcmcjfiaemchoaaW.PrintLast Go.Proofs.YtcmcjfiaemchoaaW.PrintMore
open Go.Proofs.Lime (May listT topT upsP parN isN nd mayT dep upsT upN hostT slotB slotsT ofT asgT attrT nameT overT)
set_option linter.unusedVariables false
set_option linter.unusedSimpArgs false
set_option linter.unusedSectionVars false

theorem SlotsHosts_ok (l : List S35) : ∃ k, limelightlaw05_SlotsHosts.f k l = some true := by
  refine Ev.rounds ?_
  have hlive : Ev (fun k => limelightlaw05_SlotsHosts.j0 k l true) true := by
    refine Ev.step (fun k => by rw [limelightlaw05_SlotsHosts.j0]) ?_
    exact Ev.yes rfl live_some
  unfold limelightlaw05_SlotsHosts.f
  simp only [few_f, limelightref01_May.f, Option.bind_some]
  refine Ev.ite (fun hf => Ev.ite (fun _ => hlive) (fun h16 => ?_)) (fun _ => hlive)
  have hs := few_small hf
  cases hm : mayT (tr l) with
  | false => exact hlive
  | true =>
    have M := Lime.May.of hm
    have hl := small16 h16
    refine Ev.step (fun k => by rw [limelightlaw05_SlotsHosts.j0]) ?_
    refine Ev.no (by simp) ?_
    refine Ev.up0 (L := fun k i => limelightlaw05_SlotsHosts.l0 k l i) l.length ?_ ?_
    · refine Ev.step (fun k => by rw [limelightlaw05_SlotsHosts.l0]) ?_
      exact Ev.no (by omega) live_some
    · intro i hi ih
      have hn : isN (tr l) (i : Int) = true := isN_of' hi
      have next : Ev (fun k => limelightlaw05_SlotsHosts.l0 k l (wrap64 ((i : Int) + 1))) true := by
        rw [w1 (by omega)]
        exact ih
      refine Ev.step (fun k => by rw [limelightlaw05_SlotsHosts.l0]) ?_
      simp only [SlOf_f hs, Option.bind_some, ofR_may hs M hn]
      refine Ev.yes (by omega) (Ev.yes (by omega) ?_)
      rw [rd_parent, show (nd (tr l) (i : Int)).parent = parN (tr l) i from rfl]
      have none : overT (tr l) i = -1 → Ev (fun k => limelightlaw05_SlotsHosts.j2 k l i (ofT (tr l) i) (parN (tr l) i) true) true := by
        intro ho
        refine Ev.step (fun k => by rw [limelightlaw05_SlotsHosts.j2]) ?_
        exact Ev.yes rfl (Ev.yes (if_pos ho) next)
      refine Ev.ite (fun hp => none (if_pos hp)) (fun hp => ?_)
      have ho : overT (tr l) i = (nd (tr l) (parN (tr l) i)).root := by rw [overT, if_neg hp]
      have hpN := (M.par_mem hn hp).1
      have h2 := isN_lt hpN
      refine Ev.yes h2.1 (Ev.yes h2.2 ?_)
      rw [rd_root, ← ho]
      by_cases hr : overT (tr l) i = -1
      · rw [show (overT (tr l) i == -1) = true by simpa using hr]
        exact none hr
      rw [show (overT (tr l) i == -1) = false by simpa using hr]
      obtain ⟨g1, g2, g3, g4, g5, g6, g7, g8⟩ := M.over_root hn hr
      refine Ev.step (fun k => by rw [limelightlaw05_SlotsHosts.j2]) ?_
      refine Ev.no (by simp) (Ev.yes h2.1 (Ev.yes h2.2 ?_))
      rw [rd_root, ← ho]
      simp only [SlAll_f hs, Option.bind_some, allR_may hs M g5]
      rw [if_pos g6]
      have hsl := slots_len hs M _ g5
      have j3 : Ev (fun k => limelightlaw05_SlotsHosts.j3 k l i (ofT (tr l) i) (parN (tr l) i) false) true := by
        refine Ev.step (fun k => by rw [limelightlaw05_SlotsHosts.j3]) ?_
        refine Ev.no (by simp) ?_
        have hkl := kids_len hs M g2
        refine Ev.up0 (L := fun k j => limelightlaw05_SlotsHosts.l1 k l i (ofT (tr l) i) (parN (tr l) i) j) (nd (tr l) (parN (tr l) i)).kids.length ?_ ?_
        · refine Ev.step (fun k => by rw [limelightlaw05_SlotsHosts.l1]) ?_
          refine Ev.yes h2.1 (Ev.yes h2.2 (Ev.no (by rw [rd_kids]; omega) next))
        · intro j hj ihj
          have hk := M.kid g2 (List.getElem_mem hj)
          have hkl2 := isN_lt hk.1
          have nextj : Ev (fun k => limelightlaw05_SlotsHosts.l1 k l i (ofT (tr l) i) (parN (tr l) i) (wrap64 ((j : Int) + 1))) true := by
            rw [w1 (by omega)]
            exact ihj
          refine Ev.step (fun k => by rw [limelightlaw05_SlotsHosts.l1]) ?_
          rw [rd_kids, rd_nat hj]
          refine Ev.yes h2.1 (Ev.yes h2.2 (Ev.yes (by omega) (Ev.yes (by omega) (Ev.yes (by omega) (Ev.yes (by omega) ?_)))))
          rw [rd_kind]
          refine Ev.ite (fun hk1 => Ev.yes hkl2.1 (Ev.yes hkl2.2 ?_)) (fun _ => nextj)
          rw [rd_kind]
          refine Ev.ite (fun hk2 => ?_) (fun _ => nextj)
          simp only [SlOf_f hs, Option.bind_some, ofR_may hs M hk.1]
          exact Ev.yes (M.of_text hk.1 hn hk2 hk1 hk.2.2.1) nextj
      refine Ev.ite (fun _ => j3) (fun hof => Ev.bind (in_ev _ _ (by omega)) ?_)
      rw [decide_eq_true (M.of_slot hn hof).2.1]
      exact j3
end Go.Proofs.Ytcmcjfiaemchoaa.P
