/- Plain law: the statement ChainRoots. No conditions. -/
import Derived.Test.YtbbmdpmpbggmgaaE15
import Derived.Test.YtbbmdpmpbggmgaaShR
import Derived.Test.YtbbmdpmpbggmgaaPx7
import Derived.Test.YtbbmdpmpbggmgaaPx8
namespace Go.Proofs.Ytbbmdpmpbggmgaa.P
open Go.RowKit Go.Proofs.YtbbmdpmpbggmgaaW.PrintWords Go.Proofs.YtbbmdpmpbggmgaaW.PrintLast Go.Proofs.YtbbmdpmpbggmgaaW.PrintMore
open Go.Proofs.Lime (May listT topT upsP parN isN nd mayT dep upsT upN)
set_option linter.unusedVariables false
set_option linter.unusedSimpArgs false
theorem ChainRoots_ok (l : List S40) (f : Int) : ∃ k, limelightlaw15_ChainRoots.f k l f = some true := by
  refine Ev.rounds ?_
  have hlive : Ev (fun k => limelightlaw15_ChainRoots.j0 k l f true) true := by
    refine Ev.step (fun k => by rw [limelightlaw15_ChainRoots.j0]) ?_
    exact Ev.yes rfl live_some
  unfold limelightlaw15_ChainRoots.f
  simp only [limelightref01_Few.f, limelightref01_Small.f, both_f, Option.bind_some]
  by_cases hs : Lime.smallT (tr l) = true
  case neg =>
    simp only [if_neg hs, Option.bind_some]
    exact Ev.no (by simp) hlive
  simp only [if_pos hs, Option.bind_some]
  refine Ev.ite (fun _ => ?_) (fun _ => hlive)
  cases hb : both (tr l) f f with
  | false => exact hlive
  | true =>
    obtain ⟨h1, hf, _⟩ := both_iff.1 hb
    have M := Lime.May.of h1
    have h64 := M.len2
    rw [tr_length] at h64
    refine Ev.step (fun k => by rw [limelightlaw15_ChainRoots.j0]) ?_
    refine Ev.no (by simp) ?_
    refine Ev.up0 (L := fun k i => limelightlaw15_ChainRoots.l0 k l f i) l.length ?_ ?_
    · refine Ev.step (fun k => by rw [limelightlaw15_ChainRoots.l0]) ?_
      exact Ev.no (by omega) live_some
    · intro i hi ih
      have hr : isN (tr l) (i : Int) = true := isN_of' hi
      have hkk := M.kinds hr
      have hx := M.ret_isN (upsT (tr l) i) f hf
      have h0 : (0 : Int) ≤ (i : Int) := by omega
      have hlt : (i : Int) < (l.length : Int) := by omega
      have next : ∀ x : Int, x = (i : Int) → Ev (fun k => limelightlaw15_ChainRoots.l0 k l f (wrap64 (x + 1))) true := by
        rintro x rfl
        rw [w1 (by omega)]
        exact ih
      refine Ev.step (fun k => by rw [limelightlaw15_ChainRoots.l0]) ?_
      refine Ev.yes hlt (Ev.bind (act_ev hs M hf hr) (Ev.yes h0 ?_))
      rw [rd_kind]
      -- whom the root holds
      have held : ∀ hk : (nd (tr l) i).kind = 0 ∨ (nd (tr l) i).kind = 3, Ev (fun k => limelightlaw15_ChainRoots.j2 k l f i (actT (tr l) f i) false) true := by
        intro hk
        have key := M.act_key hf hr hk
        have hne : Lime.retT (tr l) f i ≠ -1 := M.ne1 hx
        have hne0 : (Lime.retT (tr l) f i ≠ i ∧ topT (tr l) (Lime.retT (tr l) f i) = i) → Lime.retT (tr l) f i ≠ 0 := by
          intro hc e
          rw [e] at hc
          have : topT (tr l) 0 ∈ upsT (tr l) 0 := M.topT_above M.par_0.1
          rw [M.ups_0, hc.2] at this
          exact hc.1 (List.mem_singleton.1 this).symm
        have hact : actT (tr l) f i = if Lime.retT (tr l) f i ≠ i ∧ topT (tr l) (Lime.retT (tr l) f i) = i then Lime.retT (tr l) f i else if (nd (tr l) i).kind = 0 then 0 else -1 := if_neg (by omega)
        have j4 : ∀ holds : Bool, (holds = true ↔ ((i : Int) ∈ upsT (tr l) f ∧ f ≠ i)) → ∀ c : Bool, c = false → Ev (fun k => limelightlaw15_ChainRoots.j4 k l f i (actT (tr l) f i) holds c) true := by
          intro holds hh c hc
          subst hc
          refine Ev.step (fun k => by rw [limelightlaw15_ChainRoots.j4]) ?_
          refine Ev.no (by simp) (Ev.yes h0 (Ev.yes hlt ?_))
          rw [rd_kind]
          refine Ev.ite (fun k0 => Ev.no ?_ (next _ rfl)) (fun _ => next _ rfl)
          rw [hact]
          by_cases hc : Lime.retT (tr l) f i ≠ i ∧ topT (tr l) (Lime.retT (tr l) f i) = i
          · rw [if_pos hc, hh.2 (key.1 hc)]
            simpa using hne0 hc
          · rw [if_neg hc, if_pos k0, show holds = false from Bool.eq_false_iff.2 fun h => hc (key.2 (hh.1 h))]
            simp
        have j3 : ∀ holds : Bool, (holds = true ↔ ((i : Int) ∈ upsT (tr l) f ∧ f ≠ i)) → Ev (fun k => limelightlaw15_ChainRoots.j3 k l f i (actT (tr l) f i) holds) true := by
          intro holds hh
          refine Ev.step (fun k => by rw [limelightlaw15_ChainRoots.j3]) ?_
          refine Ev.yes h0 (Ev.yes hlt ?_)
          rw [rd_kind]
          refine Ev.ite (fun k3 => j4 holds hh _ ?_) (fun _ => j4 holds hh _ rfl)
          rw [hact]
          by_cases hc : Lime.retT (tr l) f i ≠ i ∧ topT (tr l) (Lime.retT (tr l) f i) = i
          · rw [if_pos hc, hh.2 (key.1 hc)]
            simpa using hne
          · rw [if_neg hc, if_neg (by omega), show holds = false from Bool.eq_false_iff.2 fun h => hc (key.2 (hh.1 h))]
            simp
        refine Ev.step (fun k => by rw [limelightlaw15_ChainRoots.j2]) ?_
        refine Ev.no (by simp) ?_
        refine Ev.ite (fun e => j3 false ?_) (fun e => Ev.bind (rabove4_ev M _ hf) (j3 _ ?_))
        · constructor
          · intro h; cases h
          · rintro ⟨_, h⟩; exact absurd e.symm h
        · constructor
          · intro h; exact ⟨by simpa using h, fun h => e h.symm⟩
          · rintro ⟨h, _⟩; simpa using h
      refine Ev.ite (fun k3 => held (.inr k3)) (fun k3 => ?_)
      by_cases k0 : (nd (tr l) i).kind = 0
      · rw [show ((nd (tr l) i).kind != 0) = false by simp [k0]]
        exact held (.inl k0)
      · rw [show ((nd (tr l) i).kind != 0) = true by simpa using k0]
        refine Ev.step (fun k => by rw [limelightlaw15_ChainRoots.j2]) ?_
        exact Ev.yes rfl (Ev.yes (if_pos ⟨k0, k3⟩) (next _ rfl))
end Go.Proofs.Ytbbmdpmpbggmgaa.P
