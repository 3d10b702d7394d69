/- Plain law: the statement AimTells. No conditions. -/
import Derived.Test.YtbdokcdnajdmaaaE07
import Derived.Test.YtbdokcdnajdmaaaPx11
namespace Go.Proofs.Ytbdokcdnajdmaaa.P
open Go.RowKit Go.Proofs.YtbdokcdnajdmaaaW.PrintWords Go.Proofs.YtbdokcdnajdmaaaW.PrintLast Go.Proofs.YtbdokcdnajdmaaaW.PrintMore
open Go.Proofs.Lime (May listT topT upsP parN isN nd mayT dep upsT upN hostT ofT aimN aimR pathT pathR stopT endT retR)
set_option linter.unusedVariables false
set_option linter.unusedSimpArgs false
set_option linter.unusedSectionVars false
theorem AimTells_ok (l : List S53) (et tg re : Int) (bub can comp : Bool) (n : Int) : ∃ k, limelightlaw07_AimTells.f k l et tg re bub can comp n = some true := by
  refine Ev.rounds ?_
  unfold limelightlaw07_AimTells.f
  simp only [few_f, both_f, Option.bind_some]
  refine Ev.ite (fun hf => ?_) (fun _ => live_some)
  have hs := few_small hf
  have hp64 := pathR_len (l := l) comp tg re
  refine Ev.bind (aim_path_ev hs et tg re bub can comp) (Ev.ite (fun hb => ?_) (fun hb => ?_))
  · obtain ⟨h1, ht, _⟩ := both_iff.1 hb
    have M := Lime.May.of h1
    rw [pathR_may M comp re ht] at hp64 ⊢
    refine Ev.bind (rpath7_ev hs M ht et re bub can comp) (Ev.yes (by simp) ?_)
    generalize hp : pathT (tr l) comp tg re tg = p at hp64
    have key : ∀ d i : Nat, i + d = p.length → Ev (fun k => limelightlaw07_AimTells.l0 k l n (p.map st2) (p.map st3) i et tg re bub can comp) true := by
      intro d
      induction d with
      | zero =>
        intro i hi
        refine Ev.step (fun k => by rw [limelightlaw07_AimTells.l0]) ?_
        refine Ev.no (by simp; omega) ?_
        have hpar := aim_par_ev hs n et tg re bub can comp
        simp only [limelightref01_Is.f, Option.bind_some]
        refine Ev.ite (fun hn => ?_) (fun hn => ?_)
        · rw [show aimR (tr l) comp tg n = aimN (tr l) comp tg n from if_pos (by rw [h1, hn, ht]; rfl)] at hpar
          exact Ev.bind (rpar7_ev hs M hn ht et re bub can comp) (Ev.bind hpar (Ev.yes rfl live_some))
        · rw [show aimR (tr l) comp tg n = -1 from if_neg (by simp [hn])] at hpar
          exact Ev.bind hpar (Ev.yes rfl live_some)
      | succ d ih =>
        intro i hi
        have hlt : i < p.length := by omega
        refine Ev.step (fun k => by rw [limelightlaw07_AimTells.l0]) ?_
        rw [rd_st2 hlt, rd_st3 hlt, w1 (by omega)]
        refine Ev.yes (by simp; omega) (Ev.yes (by omega) (Ev.yes (by simp; omega) (Ev.no (by simp [st2, st3]) (ih (i + 1) (by omega)))))
    exact key p.length 0 (Nat.zero_add _)
  · have hR : pathR (tr l) comp tg re = [] := if_neg (fun h => hb (both_iff.2 ⟨h.1, h.2, h.2⟩))
    rw [hR]
    refine Ev.yes rfl ?_
    have hpar := aim_par_ev hs n et tg re bub can comp
    rw [show aimR (tr l) comp tg n = -1 from if_neg (fun h => hb (both_iff.2 (by simp only [Bool.and_eq_true] at h; exact ⟨h.1, h.2.2, h.2.2⟩)))] at hpar
    exact Ev.bind hpar (Ev.yes rfl live_some)
end Go.Proofs.Ytbdokcdnajdmaaa.P
