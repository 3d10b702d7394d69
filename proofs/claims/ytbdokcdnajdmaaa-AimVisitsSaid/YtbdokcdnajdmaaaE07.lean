/- Plain law: what the document's functions of an event's way tell. No conditions. -/
import Derived.Test.YtbdokcdnajdmaaaE04
import Derived.Test.YtbdokcdnajdmaaaE05r
import Derived.Test.YtbdokcdnajdmaaaMU
import Derived.Test.YtbdokcdnajdmaaaE07a
import Derived.Test.YtbdokcdnajdmaaaPx5
namespace Go.Proofs.Ytbdokcdnajdmaaa.P
open Go.RowKit Go.Proofs.YtbdokcdnajdmaaaW.PrintWords Go.Proofs.YtbdokcdnajdmaaaW.PrintLast Go.Proofs.YtbdokcdnajdmaaaW.PrintMore
open Go.Proofs.Lime (May listT topT upsP parN isN nd mayT dep upsT upN hostT ofT aimN aimR pathT pathR stopT endT retR)
set_option linter.unusedVariables false
set_option linter.unusedSimpArgs false
set_option linter.unusedSectionVars false

def st3 (s : Lime.Stp3) : S35 := ⟨s.node, s.target, s.related⟩
section
variable {l : List S53} (hs : Lime.smallT (tr l) = true) (M : May (tr l))
include hs M
theorem rpar7_ev {n tg : Int} (hn : isN (tr l) n = true) (ht : isN (tr l) tg = true) (et re : Int) (bub can comp : Bool) : Ev (fun k => limelightref07_Parent.f k l n et tg re bub can comp) (aimN (tr l) comp tg n) := by
  have hl := isN_lt hn
  unfold aimN
  refine Ev.bind (rof_ev hs M hn) (Ev.ite (fun ho => ?_) (fun ho => Ev.pure (by rw [if_pos ho])))
  rw [if_neg (show ¬ ofT (tr l) n ≠ -1 by simpa using ho)]
  refine Ev.yes hl.1 (Ev.yes hl.2 ?_)
  rw [rd_kind, rd_host, rd_parent]
  unfold upN
  refine Ev.ite (fun h3 => ?_) (fun h3 => Ev.pure ?_)
  · refine Ev.ite (fun hc => Ev.pure ?_) (fun hc => Ev.bind (rtop_ev M ht) (Ev.ite (fun htn => Ev.pure ?_) (fun htn => Ev.pure ?_)))
    · rw [if_neg (fun h => by rw [h.2.1] at hc; cases hc), if_pos h3]
    · rw [if_pos ⟨h3, by simpa using hc, htn⟩]
    · rw [if_neg (fun h => htn h.2.2), if_pos h3]
  · rw [if_neg (fun h => h3 h.1), if_neg h3]
theorem rstop7_ev {n tg : Int} (hn : isN (tr l) n = true) (ht : isN (tr l) tg = true) (et re : Int) (bub can comp : Bool) : Ev (fun k => limelightref07_stop.f k l n et tg re bub can comp) (n, retR (tr l) tg n, retR (tr l) re n) := by
  rw [retR_may M ht hn]
  unfold limelightref07_stop.f
  simp only [limelightref01_Is.f, Option.bind_some]
  refine Ev.bind (rret4 M ht hn) (Ev.ite (fun h => Ev.bind (rret4 M h hn) (Ev.pure ?_)) (fun h => Ev.pure ?_))
  · rw [retR_may M h hn]
  · rw [show retR (tr l) re n = -1 from if_neg (by simp [h])]
theorem rpath7_l {tg : Int} (ht : isN (tr l) tg = true) (et re : Int) (bub can comp : Bool) : ∀ n, (n = -1 ∨ isN (tr l) n = true) → ∀ acc : List S35, acc.length + (pathT (tr l) comp tg re n).length < 1000000 → Ev (fun k => limelightref07_Path.l0 k l acc n et tg re bub can comp) (acc ++ (pathT (tr l) comp tg re n).map st3) := by
  refine M.aim_ind comp tg ?_ ?_
  · intro acc ha
    refine Ev.step (fun k => by rw [limelightref07_Path.l0]) ?_
    refine Ev.yes rfl (Ev.pure ?_)
    rw [M.path_none', List.map_nil, List.append_nil]
  · intro n hn ih acc ha
    rw [M.path_step comp tg re hn] at ha ⊢
    refine Ev.step (fun k => by rw [limelightref07_Path.l0]) ?_
    refine Ev.no (M.ne1 hn) (Ev.bind (rstop7_ev hs M hn ht et re bub can comp) ?_)
    dsimp only
    have hp := rpar7_ev hs M hn ht et re bub can comp
    have go : ¬ endT (tr l) tg re n → Ev (fun k => if acc.length < 5864062014805 then ((limelightref07_Parent.f k l n et tg re bub can comp).bind fun t => limelightref07_Path.l0 k l (acc ++ [(⟨n, retR (tr l) tg n, retR (tr l) re n⟩ : S35)]) t et tg re bub can comp) else none) (acc ++ (if endT (tr l) tg re n then [] else stopT (tr l) tg re n :: pathT (tr l) comp tg re (aimN (tr l) comp tg n)).map st3) := by
      intro he
      rw [if_neg he] at ha ⊢
      simp only [List.length_cons] at ha
      refine Ev.yes (by omega) (Ev.bind hp ?_)
      have := ih (acc ++ [⟨n, retR (tr l) tg n, retR (tr l) re n⟩]) (by simp; omega)
      rw [List.append_assoc] at this
      exact this
    refine Ev.ite (fun h1 => Ev.ite (fun h2 => go (fun he => he.2 h2)) (fun h2 => Ev.pure ?_)) (fun h1 => go (fun he => h1 he.1))
    rw [if_pos ⟨h1, h2⟩, List.map_nil, List.append_nil]
theorem rpath7_ev {tg : Int} (ht : isN (tr l) tg = true) (et re : Int) (bub can comp : Bool) : Ev (fun k => limelightref07_Path.f k l et tg re bub can comp) ((pathT (tr l) comp tg re tg).map st3) := by
  have h1 := M.path_len comp tg re tg (.inr ht)
  have h2 := M.len2
  exact rpath7_l hs M ht et re bub can comp tg (.inr ht) [] (by simp; omega)
end
theorem rd_st3 {p : List Lime.Stp3} {i : Nat} (h : i < p.length) : rd_T35 (p.map st3) (i : Int) = st3 p[i] := by simp [rd_T35, h]
end Go.Proofs.Ytbdokcdnajdmaaa.P
