/- Plain law: the statement AimHides. No conditions. -/
import Derived.Test.YtbdokcdnajdmaaaE07a
import Derived.Test.YtbdokcdnajdmaaaE04
import Derived.Test.YtbdokcdnajdmaaaPx8
import Derived.Test.YtbdokcdnajdmaaaPx9
namespace Go.Proofs.Ytbdokcdnajdmaaa.P
open Go.RowKit Go.Proofs.YtbdokcdnajdmaaaW.PrintWords Go.Proofs.YtbdokcdnajdmaaaW.PrintLast Go.Proofs.YtbdokcdnajdmaaaW.PrintMore
open Go.Proofs.Lime (May listT topT upsP parN isN nd mayT dep upsT upN hostT ofT aimN aimR pathT pathR stopT endT retR hidT)
set_option linter.unusedVariables false
set_option linter.unusedSimpArgs false
set_option linter.unusedSectionVars false
theorem rhid_ev {l : List S53} (hs : Lime.smallT (tr l) = true) (M : May (tr l)) {a b : Int} (ha : isN (tr l) a = true) (hb : isN (tr l) b = true) : Ev (fun k => limelightlaw07_hidden.f k l a b) (hidT (tr l) a b) := by
  have h := isN_lt (M.topT_isN ha)
  unfold hidT
  refine Ev.bind (rtop_ev M ha) (Ev.yes h.1 (Ev.yes h.2 ?_))
  rw [rd_kind]
  refine Ev.ite (fun h3 => Ev.bind (rabove4_ev M _ hb) (Ev.pure ?_)) (fun h3 => Ev.pure ?_)
  · simp [h3]
  · simp [h3]
theorem AimHides_ok (l : List S53) (et tg re : Int) (bub can comp : Bool) : ∃ k, limelightlaw07_AimHides.f k l et tg re bub can comp = some true := by
  refine Ev.rounds ?_
  unfold limelightlaw07_AimHides.f
  simp only [few_f, both_f, Option.bind_some]
  have hlive : Ev (fun k => limelightlaw07_AimHides.j0 k l true et tg re bub can comp) true := by
    refine Ev.step (fun k => by rw [limelightlaw07_AimHides.j0]) ?_
    exact Ev.yes rfl live_some
  refine Ev.ite (fun hf => ?_) (fun _ => hlive)
  have hs := few_small hf
  cases hb : both (tr l) tg tg with
  | false => exact hlive
  | true =>
    obtain ⟨h1, ht, _⟩ := both_iff.1 hb
    have M := Lime.May.of h1
    have hp64 := pathR_len (l := l) comp tg re
    rw [pathR_may M comp re ht] at hp64
    have hmem := M.path_mem comp tg re tg (.inr ht)
    have hnd := M.path_nodup comp tg re tg (.inr ht)
    have hstep := M.path_step comp tg re ht
    have hself : retR (tr l) tg tg = tg := by rw [retR_may M ht ht]; exact M.ret_self ht
    have hend : endT (tr l) tg re tg ↔ (isN (tr l) re = true ∧ re ≠ tg ∧ Lime.retT (tr l) re tg = tg) := by
      unfold endT
      rw [hself]
      constructor
      · rintro ⟨e1, e2⟩
        by_cases hre : isN (tr l) re = true
        · rw [retR_may M hre ht] at e1
          exact ⟨hre, fun e => e2 e.symm, e1.symm⟩
        · rw [show retR (tr l) re tg = -1 from if_neg (by simp [hre])] at e1
          exact absurd e1 (M.ne1 ht)
      · rintro ⟨hre, e1, e2⟩
        rw [retR_may M hre ht]
        exact ⟨e2.symm, fun e => e1 e.symm⟩
    refine Ev.step (fun k => by rw [limelightlaw07_AimHides.j0]) ?_
    refine Ev.no (by simp) ?_
    have hpe := aim_path_ev hs et tg re bub can comp
    rw [pathR_may M comp re ht] at hpe
    refine Ev.bind hpe ?_
    generalize hp : pathT (tr l) comp tg re tg = p at hp64 hmem hnd hstep
    -- the list, stop by stop
    have loop : Ev (fun k => limelightlaw07_AimHides.l0 k l (p.map st2) 0) true := by
      have key : ∀ d i : Nat, i + d = p.length → Ev (fun k => limelightlaw07_AimHides.l0 k l (p.map st2) i) true := by
        intro d
        induction d with
        | zero =>
          intro i hi
          refine Ev.step (fun k => by rw [limelightlaw07_AimHides.l0]) ?_
          exact Ev.no (by simp; omega) live_some
        | succ d ih =>
          intro i hi
          have hlt : i < p.length := by omega
          obtain ⟨hN, hst, _, _⟩ := hmem p[i] (List.getElem_mem hlt)
          have ht2 : p[i].target = Lime.retT (tr l) tg p[i].node := by
            have := congrArg Lime.Stp3.target hst
            rw [this]
            show retR (tr l) tg p[i].node = _
            exact retR_may M ht hN
          have hr2 : p[i].related = retR (tr l) re p[i].node := congrArg Lime.Stp3.related hst
          have htN : isN (tr l) p[i].target = true := by rw [ht2]; exact M.ret_isN _ _ ht
          have h5 : Ev (fun k => limelightlaw07_AimHides.j6 k l (p.map st2) i false p[i].node p[i].target p[i].related) true := by
            refine Ev.step (fun k => by rw [limelightlaw07_AimHides.j6]) ?_
            refine Ev.no (by simp) ?_
            have key2 : ∀ d' j : Nat, j + d' = i → Ev (fun k => limelightlaw07_AimHides.l1 k l (p.map st2) i j p[i].node p[i].target p[i].related) true := by
              intro d'
              induction d' with
              | zero =>
                intro j hj
                refine Ev.step (fun k => by rw [limelightlaw07_AimHides.l1]) ?_
                have e1 := ih (i + 1) (by omega)
                rw [← w1 (by omega)] at e1
                exact Ev.no (by omega) e1
              | succ d' ih' =>
                intro j hj
                have hjl : j < p.length := by omega
                refine Ev.step (fun k => by rw [limelightlaw07_AimHides.l1]) ?_
                rw [rd_st2 hjl, w1 (i := j) (by omega)]
                refine Ev.yes (by omega) (Ev.yes (by omega) (Ev.yes (by simp; omega) (Ev.no ?_ (ih' (j + 1) (by omega)))))
                intro e
                have e' : (p.map Lime.Stp3.node)[j]'(by simp; omega) = (p.map Lime.Stp3.node)[i]'(by simp; omega) := by simpa [st2] using e
                have := (List.getElem_inj hnd).1 e'
                omega
            exact key2 i 0 (Nat.zero_add _)
          have h4 : Ev (fun k => limelightlaw07_AimHides.j5 k l (p.map st2) i false p[i].node p[i].target p[i].related) true := by
            refine Ev.step (fun k => by rw [limelightlaw07_AimHides.j5]) ?_
            refine Ev.no (by simp) (Ev.ite (fun _ => h5) (fun hne => ?_))
            simp only [limelightref01_Is.f, Option.bind_some]
            have hreN : isN (tr l) re = true := Classical.byContradiction fun h => hne (by rw [hr2]; exact if_neg (by simp [h]))
            have hr3 : p[i].related = Lime.retT (tr l) re p[i].node := by rw [hr2]; exact retR_may M hreN hN
            have hrN : isN (tr l) p[i].related = true := by rw [hr3]; exact M.ret_isN _ _ hreN
            refine Ev.yes hrN (Ev.bind (rhid_ev hs M hrN hN) ?_)
            rw [show hidT (tr l) p[i].related p[i].node = false by rw [hr3]; exact M.ret_hid hreN hN]
            exact h5
          refine Ev.step (fun k => by rw [limelightlaw07_AimHides.l0]) ?_
          rw [rd_st2 hlt]
          simp only [limelightref01_Is.f, Option.bind_some]
          refine Ev.yes (by simp; omega) (Ev.yes (by omega) (Ev.yes hN (Ev.yes htN (Ev.bind (rhid_ev hs M htN hN) ?_))))
          rw [show hidT (tr l) (st2 p[i]).f1 (st2 p[i]).f0 = false by show hidT (tr l) p[i].target p[i].node = false; rw [ht2]; exact M.ret_hid ht hN]
          exact h4
      exact key p.length 0 (Nat.zero_add _)
    have j2 : ∀ inner : Bool, (inner = true ↔ endT (tr l) tg re tg) → Ev (fun k => limelightlaw07_AimHides.j2 k l (p.map st2) inner et tg re bub can comp) true := by
      intro inner hi
      refine Ev.step (fun k => by rw [limelightlaw07_AimHides.j2]) ?_
      by_cases he : endT (tr l) tg re tg
      · rw [if_pos he] at hstep
        subst hstep
        exact Ev.yes rfl (Ev.yes (hi.2 he) live_some)
      · rw [if_neg he] at hstep
        have hl0 : 0 < p.length := by rw [hstep]; simp
        have h0 : p[0] = stopT (tr l) tg re tg := by simp [hstep]
        refine Ev.no (by simp only [List.length_map]; omega) (Ev.no (fun h => he (hi.1 h)) (Ev.yes (by simp only [List.length_map]; omega) ?_))
        have hrd := rd_st2 (p := p) (i := 0) hl0
        rw [show ((0 : Nat) : Int) = 0 from rfl] at hrd
        rw [hrd, h0]
        refine Ev.yes rfl ?_
        rw [show ((st2 (stopT (tr l) tg re tg)).f1 != tg) = false by
          have : (st2 (stopT (tr l) tg re tg)).f1 = tg := hself
          simp [this]]
        refine Ev.step (fun k => by rw [limelightlaw07_AimHides.j3]) ?_
        exact Ev.no (by simp) loop
    have j1 : ∀ b : Bool, (b = true ↔ (isN (tr l) re = true ∧ re ≠ tg)) → Ev (fun k => limelightlaw07_AimHides.j1 k l (p.map st2) b et tg re bub can comp) true := by
      intro b hbb
      refine Ev.step (fun k => by rw [limelightlaw07_AimHides.j1]) ?_
      refine Ev.ite (fun h => ?_) (fun h => j2 b ?_)
      · obtain ⟨hre, hne⟩ := hbb.1 h
        refine Ev.bind (rret4 M hre ht) (j2 _ ?_)
        rw [hend]
        simp [hre, hne]
      · rw [hend]
        exact ⟨fun h' => absurd h' h, fun h' => absurd (hbb.2 ⟨h'.1, h'.2.1⟩) h⟩
    simp only [limelightref01_Is.f, Option.bind_some]
    refine Ev.ite (fun hre => j1 _ (by simp [hre])) (fun hre => j1 _ (by simp [hre]))
end Go.Proofs.Ytbdokcdnajdmaaa.P
