/- Plain law: the statement ChainTells. No conditions. -/
import Derived.Test.YtbbmdpmpbggmgaaE15
import Derived.Test.YtbbmdpmpbggmgaaPx5
namespace Go.Proofs.Ytbbmdpmpbggmgaa.P
open Go.RowKit Go.Proofs.YtbbmdpmpbggmgaaW.PrintWords Go.Proofs.YtbbmdpmpbggmgaaW.PrintLast Go.Proofs.YtbbmdpmpbggmgaaW.PrintMore
open Go.Proofs.Lime (May listT topT upsP parN isN nd mayT dep upsT upN)
set_option linter.unusedVariables false
set_option linter.unusedSimpArgs false
theorem ract_ev {l : List S40} (M : May (tr l)) {f r : Int} (hf : isN (tr l) f = true) (hr : isN (tr l) r = true) : Ev (fun k => limelightref15_Active.f k l f r) (actT (tr l) f r) := by
  have h1 := isN_lt hr
  have hx := M.ret_isN (upsT (tr l) r) f hf
  have hj1 : ∀ c : Bool, Ev (fun k => limelightref15_Active.j1 k l r (Lime.retT (tr l) f r) c) (if c = true then Lime.retT (tr l) f r else if (nd (tr l) r).kind = 0 then 0 else -1) := by
    intro c
    refine Ev.step (fun k => by rw [limelightref15_Active.j1]) ?_
    cases c
    · refine Ev.cast (Ev.no (by simp) (Ev.yes h1.1 (Ev.yes h1.2 ?_))) (if_neg (by simp)).symm
      rw [rd_kind]
      exact Ev.ite (fun h => Ev.cast (Ev.now _) (if_pos h).symm) (fun h => Ev.cast (Ev.now _) (if_neg h).symm)
    · exact Ev.cast (Ev.yes rfl (Ev.now _)) (if_pos rfl).symm
  have hj0 : Ev (fun k => limelightref15_Active.j0 k l f r false) (if Lime.retT (tr l) f r ≠ r ∧ topT (tr l) (Lime.retT (tr l) f r) = r then Lime.retT (tr l) f r else if (nd (tr l) r).kind = 0 then 0 else -1) := by
    refine Ev.step (fun k => by rw [limelightref15_Active.j0]) ?_
    refine Ev.no (by simp) ?_
    refine Ev.bind (rret4 M hf hr) (Ev.bind (rtop_ev M hx) ?_)
    by_cases ht : topT (tr l) (Lime.retT (tr l) f r) = r
    · refine Ev.yes ht (Ev.cast (hj1 _) ?_)
      by_cases he : Lime.retT (tr l) f r = r
      · exact (if_neg (by simp [he])).trans (if_neg (fun h => h.1 he)).symm
      · exact (if_pos (by simpa using he)).trans (if_pos ⟨he, ht⟩).symm
    · exact Ev.no ht (Ev.cast (hj1 _) ((if_neg (by simp)).trans (if_neg (fun h => ht h.2)).symm))
  have hjt : Ev (fun k => limelightref15_Active.j0 k l f r true) (-1) := by
    refine Ev.step (fun k => by rw [limelightref15_Active.j0]) ?_
    exact Ev.yes rfl (Ev.now _)
  refine Ev.yes h1.1 (Ev.yes h1.2 ?_)
  rw [rd_kind]
  unfold actT
  by_cases k0 : (nd (tr l) r).kind = 0
  · exact Ev.yes k0 (Ev.cast hj0 (if_neg (fun h => h.1 k0)).symm)
  · refine Ev.no k0 ?_
    by_cases k3 : (nd (tr l) r).kind = 3
    · rw [show ((nd (tr l) r).kind != 3) = false by simp [k3]]
      exact Ev.cast hj0 (if_neg (fun h => h.2 k3)).symm
    · rw [show ((nd (tr l) r).kind != 3) = true by simpa using k3]
      exact Ev.cast hjt (if_pos ⟨k0, k3⟩).symm
theorem ChainTells_ok (l : List S40) (a b : Int) : ∃ k, limelightlaw15_ChainTells.f k l a b = some true := by
  refine Ev.rounds ?_
  unfold limelightlaw15_ChainTells.f
  simp only [limelightref01_Small.f, limelightref01_Ints.f, both_f, rch_f, Option.bind_some]
  refine Ev.ite (fun hs => ?_) (fun _ => live_some)
  simp only [Events_f hs, Chain_f hs, Option.bind_some]
  refine Ev.ite (fun hb => ?_) (fun hb => ?_)
  · obtain ⟨h1, ha, hb'⟩ := both_iff.1 hb
    have M := Lime.May.of h1
    have hev : Lime.evR (tr l) a b = Lime.evT a b := if_pos hb
    rw [hev]
    refine Ev.bind (rev_ev a b) ?_
    refine Ev.bind (same_ev _ (by rw [List.length_map, evT_len]; split <;> (try split) <;> omega)) ?_
    refine Ev.yes rfl ?_
    refine Ev.yes (by rw [show Lime.chR (tr l) a = Lime.chT a from if_pos ⟨h1, ha⟩]; simp) ?_
    refine Ev.bind (act_ev hs M ha hb') ?_
    refine Ev.bind (ract_ev M ha hb') ?_
    exact Ev.yes rfl live_some
  · have hb' : both (tr l) a b = false := by simpa using hb
    have hev : Lime.evR (tr l) a b = [] := if_neg hb
    rw [hev]
    refine Ev.yes rfl ?_
    refine Ev.bind (act_no hs hb') ?_
    refine Ev.yes rfl ?_
    refine Ev.ite (fun _ => live_some) (fun h => ?_)
    have h2 : ¬ (mayT (tr l) = true ∧ isN (tr l) a = true) := fun h3 => h (both_iff.2 ⟨h3.1, h3.2, h3.2⟩)
    exact Ev.yes (by rw [show Lime.chR (tr l) a = [] from if_neg h2]; rfl) live_some
end Go.Proofs.Ytbbmdpmpbggmgaa.P
