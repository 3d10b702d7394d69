/- Plain law: the statement ChainActive. No conditions. -/
import Derived.Test.YtbbmdpmpbggmgaaE15
import Derived.Test.YtbbmdpmpbggmgaaShR
import Derived.Test.YtbbmdpmpbggmgaaPx7
namespace Go.Proofs.Ytbbmdpmpbggmgaa.P
open Go.RowKit Go.Proofs.YtbbmdpmpbggmgaaW.PrintWords Go.Proofs.YtbbmdpmpbggmgaaW.PrintLast Go.Proofs.YtbbmdpmpbggmgaaW.PrintMore
open Go.Proofs.Lime (May listT topT upsP parN isN nd mayT dep upsT upN)
set_option linter.unusedVariables false
set_option linter.unusedSimpArgs false
theorem j2_ev : Ev (fun k => limelightlaw15_ChainActive.j2 k false) true := by
  refine Ev.step (fun k => by rw [limelightlaw15_ChainActive.j2]) ?_
  exact Ev.no (by simp) live_some
theorem ChainActive_ok (l : List S40) (f r : Int) : ∃ k, limelightlaw15_ChainActive.f k l f r = some true := by
  refine Ev.rounds ?_
  have hlive : Ev (fun k => limelightlaw15_ChainActive.j0 k l f r true) true := by
    refine Ev.step (fun k => by rw [limelightlaw15_ChainActive.j0]) ?_
    exact Ev.yes rfl live_some
  unfold limelightlaw15_ChainActive.f
  simp only [limelightref01_Small.f, both_f, Option.bind_some]
  refine Ev.ite (fun hs => ?_) (fun _ => hlive)
  cases hb : both (tr l) f r with
  | false => exact hlive
  | true =>
    obtain ⟨h1, hf, hr⟩ := both_iff.1 hb
    have M := Lime.May.of h1
    have hlt := isN_lt hr
    have hkk := M.kinds hr
    have hx := M.ret_isN (upsT (tr l) r) f hf
    refine Ev.step (fun k => by rw [limelightlaw15_ChainActive.j0]) ?_
    refine Ev.no (by simp) ?_
    refine Ev.bind (act_ev hs M hf hr) ?_
    -- nobody: it holds nobody
    have no : ∀ x : Int, ((nd (tr l) r).kind = 0 ∨ (nd (tr l) r).kind = 3 → ¬ (r ∈ upsT (tr l) f ∧ f ≠ r)) → Ev (fun k => limelightlaw15_ChainActive.j1 k l f r x true) true := by
      intro x h
      refine Ev.step (fun k => by rw [limelightlaw15_ChainActive.j1]) ?_
      refine Ev.yes rfl (Ev.bind (rabove4_ev M r hf) ?_)
      refine Ev.ite (fun ha => ?_) (fun _ => j2_ev)
      have ha' : r ∈ upsT (tr l) f := by simpa using ha
      refine Ev.yes hlt.1 (Ev.yes hlt.2 ?_)
      rw [rd_kind]
      have hfr : ((nd (tr l) r).kind = 0 ∨ (nd (tr l) r).kind = 3) → (f != r) = false := fun hk => by
        have := h hk
        simp only [bne_eq_false_iff_eq]
        exact Classical.byContradiction fun hn => this ⟨ha', hn⟩
      refine Ev.ite (fun k3 => ?_) (fun _ => Ev.ite (fun k0 => ?_) (fun _ => j2_ev))
      · rw [hfr (.inr k3)]; exact j2_ev
      · rw [hfr (.inl k0)]; exact j2_ev
    by_cases hk : (nd (tr l) r).kind ≠ 0 ∧ (nd (tr l) r).kind ≠ 3
    · rw [show actT (tr l) f r = -1 from if_pos hk]
      exact Ev.yes rfl (no _ (fun h => absurd h (by omega)))
    · have hk2 : (nd (tr l) r).kind = 0 ∨ (nd (tr l) r).kind = 3 := by omega
      have key := M.act_key hf hr hk2
      by_cases hc : Lime.retT (tr l) f r ≠ r ∧ topT (tr l) (Lime.retT (tr l) f r) = r
      · rw [show actT (tr l) f r = Lime.retT (tr l) f r from (if_neg hk).trans (if_pos hc)]
        have hne : Lime.retT (tr l) f r ≠ -1 := M.ne1 hx
        by_cases h0 : Lime.retT (tr l) f r = 0
        · -- the viewport is in no root but itself
          exfalso
          have ht := hc.2
          rw [h0] at ht hc
          have : topT (tr l) 0 ∈ upsT (tr l) 0 := M.topT_above M.par_0.1
          rw [M.ups_0] at this
          rw [ht] at this
          exact hc.1 (List.mem_singleton.1 this).symm
        · refine Ev.no hne ?_
          rw [show (Lime.retT (tr l) f r == 0) = false by simpa using h0]
          refine Ev.step (fun k => by rw [limelightlaw15_ChainActive.j1]) ?_
          refine Ev.no (by simp) (Ev.bind (rtop_ev M hx) ?_)
          refine Ev.yes hc.2 (Ev.no hc.1 (Ev.bind (rabove4_ev M _ hf) ?_))
          exact Ev.yes (decide_eq_true (M.ret_above _ f hf)) live_some
      · have hno := fun h => hc (key.2 h)
        rw [show actT (tr l) f r = if (nd (tr l) r).kind = 0 then 0 else -1 from (if_neg hk).trans (if_neg hc)]
        by_cases k0 : (nd (tr l) r).kind = 0
        · rw [if_pos k0]
          exact Ev.no (by omega) (no _ (fun _ => hno))
        · rw [if_neg k0]
          exact Ev.yes rfl (no _ (fun _ => hno))
end Go.Proofs.Ytbbmdpmpbggmgaa.P
