/- Plain law: the statement SlotsNone. No conditions. -/
import Derived.Test.YtcmcjfiaemchoaaL05
import Derived.Test.YtcmcjfiaemchoaaPx11
namespace Go.Proofs.Ytcmcjfiaemchoaa.P
open Go.RowKit Go.Proofs.YtcmcjfiaemchoaaW.PrintWords Go.Proofs.YtcmcjfiaemchoaaW.PrintLast Go.Proofs.YtcmcjfiaemchoaaW.PrintMore
open Go.Proofs.Lime (May listT topT upsP parN isN nd mayT dep upsT upN hostT slotB slotsT ofT asgT attrT nameT overT)
set_option linter.unusedVariables false
set_option linter.unusedSimpArgs false
set_option linter.unusedSectionVars false

theorem SlotsNone_ok (l : List S35) : ∃ k, limelightlaw05_SlotsNone.f k l = some true := by
  refine Ev.rounds ?_
  have hlive : Ev (fun k => limelightlaw05_SlotsNone.j0 k l true) true := by
    refine Ev.step (fun k => by rw [limelightlaw05_SlotsNone.j0]) ?_
    exact Ev.yes rfl live_some
  unfold limelightlaw05_SlotsNone.f
  simp only [few_f, limelightref01_May.f, Option.bind_some]
  refine Ev.ite (fun hf => Ev.ite (fun _ => hlive) (fun h16 => ?_)) (fun _ => hlive)
  have hs := few_small hf
  cases hm : mayT (tr l) with
  | false => exact hlive
  | true =>
    have M := Lime.May.of hm
    have hl := small16 h16
    refine Ev.step (fun k => by rw [limelightlaw05_SlotsNone.j0]) ?_
    refine Ev.no (by simp) ?_
    refine Ev.up0 (L := fun k i => limelightlaw05_SlotsNone.l0 k l i) l.length ?_ ?_
    · refine Ev.step (fun k => by rw [limelightlaw05_SlotsNone.l0]) ?_
      exact Ev.no (by omega) live_some
    · intro i hi ih
      have hn : isN (tr l) (i : Int) = true := isN_of' hi
      have ht := isN_lt (M.topT_isN hn)
      have next : Ev (fun k => limelightlaw05_SlotsNone.l0 k l (wrap64 ((i : Int) + 1))) true := by
        rw [w1 (by omega)]
        exact ih
      have h0 : (0 : Int) ≤ (i : Int) := by omega
      have hlt : (i : Int) < (l.length : Int) := by omega
      have j3 : ∀ b : Bool, (b = false → ((nd (tr l) i).root ≠ -1 ∧ slotsT (tr l) (nd (tr l) i).root = [])) → Ev (fun k => limelightlaw05_SlotsNone.j3 k l i b) true := by
        intro b hb
        refine Ev.step (fun k => by rw [limelightlaw05_SlotsNone.j3]) ?_
        refine Ev.ite (fun _ => next) (fun h => ?_)
        obtain ⟨hr, he⟩ := hb (by simpa using h)
        have hkl := kids_len hs M hn
        refine Ev.up0 (L := fun k j => limelightlaw05_SlotsNone.l1 k l i j) (nd (tr l) i).kids.length ?_ ?_
        · refine Ev.step (fun k => by rw [limelightlaw05_SlotsNone.l1]) ?_
          exact Ev.yes h0 (Ev.yes hlt (Ev.no (by rw [rd_kids]; omega) next))
        · intro j hj ihj
          have hk := M.kid hn (List.getElem_mem hj)
          refine Ev.step (fun k => by rw [limelightlaw05_SlotsNone.l1]) ?_
          rw [rd_kids, rd_nat hj]
          simp only [SlOf_f hs, Option.bind_some, ofR_may hs M hk.1]
          refine Ev.yes h0 (Ev.yes hlt (Ev.yes (by omega) (Ev.yes (by omega) (Ev.yes ?_ ?_))))
          · have ho : overT (tr l) (nd (tr l) i).kids[j] = (nd (tr l) i).root := by rw [overT, if_neg (by rw [hk.2.2.1]; omega), hk.2.2.1]
            rw [ofT, ho, he]
            split <;> rfl
          · rw [w1 (by omega)]
            exact ihj
      have j2 : Ev (fun k => limelightlaw05_SlotsNone.j2 k l i false) true := by
        refine Ev.step (fun k => by rw [limelightlaw05_SlotsNone.j2]) ?_
        refine Ev.no (by simp) (Ev.yes h0 (Ev.yes hlt ?_))
        rw [rd_root]
        refine Ev.ite (fun h => j3 true (fun h => by cases h)) (fun hr => ?_)
        obtain ⟨_, g1, g2, g3⟩ := M.root hn rfl hr
        simp only [SlAll_f hs, Option.bind_some, allR_may hs M g1]
        rw [if_pos g2]
        refine j3 _ fun h => ⟨hr, ?_⟩
        have h' := of_decide_eq_false h
        exact List.eq_nil_of_length_eq_zero (by omega)
      have empty : slotB (tr l) i = false → decide (((asgT (tr l) i).length : Int) > 0) = false := by
        intro h
        rw [show asgT (tr l) i = [] from if_neg (by rw [h]; simp)]
        rfl
      have hk := host_kind M hn
      refine Ev.step (fun k => by rw [limelightlaw05_SlotsNone.l0]) ?_
      simp only [SlAsg_f hs, Option.bind_some, asgR_may hs M hn]
      refine Ev.yes hlt (Ev.bind (rtop_ev M hn) (Ev.yes ht.1 (Ev.yes ht.2 ?_)))
      rw [rd_kind, rd_tag]
      refine Ev.ite (fun h3 => Ev.yes h0 (Ev.ite (fun _ => j2) (fun htag => ?_))) (fun h3 => ?_)
      · rw [empty (by simp [slotB, htag])]
        exact j2
      · rw [empty (by have : hostT (tr l) i = -1 := Classical.byContradiction fun h => h3 (hk.1 h)
                      simp [slotB, this])]
        exact j2
end Go.Proofs.Ytcmcjfiaemchoaa.P
