/- Plain law: the statement AimVisits. No conditions. -/
import Derived.Test.YtbdokcdnajdmaaaGRv
import Derived.Test.YtbdokcdnajdmaaaE07a
import Derived.Test.YtbdokcdnajdmaaaPx7
namespace Go.Proofs.Ytbdokcdnajdmaaa.P
open Go.RowKit Go.Proofs.YtbdokcdnajdmaaaW.PrintWords Go.Proofs.YtbdokcdnajdmaaaW.PrintLast Go.Proofs.YtbdokcdnajdmaaaW.PrintMore
open Go.Proofs.Lime (May listT topT upsP parN isN nd mayT dep upsT upN hostT ofT aimN aimR pathT pathR stopT endT retR)
set_option linter.unusedVariables false
set_option linter.unusedSimpArgs false
set_option linter.unusedSectionVars false
theorem rd_vs2 {V : List Lime.Vis} {i : Nat} (h : i < V.length) : rd_T44 (V.map vs2) (i : Int) = vs2 V[i] := by simp [rd_T44, h]
theorem rd_rv3 {V : List Lime.Vis} {i : Nat} (h : i < V.length) : rd_T46 (V.map rv3) (i : Int) = rv3 V[i] := by simp [rd_T46, h]
theorem AimVisits_ok (l : List S53) (et tg re : Int) (bub can comp : Bool) : ∃ k, limelightlaw07_AimVisits.f k l et tg re bub can comp = some true := by
  refine Ev.rounds ?_
  unfold limelightlaw07_AimVisits.f
  simp only [few_f, both_f, Option.bind_some]
  refine Ev.ite (fun hf => ?_) (fun _ => live_some)
  have hs := few_small hf
  have hp64 := pathR_len (l := l) comp tg re
  simp only [Visits_f hs, Option.bind_some]
  cases hb : both (tr l) tg tg with
  | false =>
    have h0 : pathR (tr l) comp tg re = [] := if_neg fun h => by rw [(both_iff (t := tr l) (a := tg) (b := tg)).2 ⟨h.1, h.2, h.2⟩] at hb; cases hb
    rw [h0, show Lime.visL [] bub = [] from rfl]
    exact Ev.no (by simp) (Ev.yes (by simp) live_some)
  | true =>
    obtain ⟨h1, ht, _⟩ := both_iff.1 hb
    have M := Lime.May.of h1
    rw [pathR_may M comp re ht] at hp64 ⊢
    simp only [rvisits_f hs h1 ht, Option.bind_some]
    have hV : (Lime.visL (pathT (tr l) comp tg re tg) bub).length ≤ 200 := by
      have := List.length_filter_le (fun x : Lime.Vis => bub || x.phase == 2) ((pathT (tr l) comp tg re tg).map (Lime.visOf · 3))
      rw [List.length_map] at this
      simp only [Lime.visL, List.length_append, List.length_map, List.length_reverse]
      omega
    generalize Lime.visL (pathT (tr l) comp tg re tg) bub = V at hV
    refine Ev.yes (by simp) (Ev.yes (by simp) ?_)
    have key : ∀ d i : Nat, i + d = V.length → Ev (fun k => limelightlaw07_AimVisits.l0 k (V.map vs2) (V.map rv3) i) true := by
      intro d
      induction d with
      | zero =>
        intro i hi
        refine Ev.step (fun k => by rw [limelightlaw07_AimVisits.l0]) ?_
        exact Ev.no (by simp; omega) live_some
      | succ d ih =>
        intro i hi
        have hlt : i < V.length := by omega
        refine Ev.step (fun k => by rw [limelightlaw07_AimVisits.l0]) ?_
        rw [rd_vs2 hlt, rd_rv3 hlt]
        refine Ev.yes (by simp; omega) (Ev.yes (by omega) (Ev.yes (by simp; omega) (Ev.no (by simp [vs2, rv3, st2, st3]) (Ev.yes rfl (Ev.no (by simp [vs2, rv3]) ?_)))))
        rw [w1 (by omega)]
        exact ih (i + 1) (by omega)
    exact key V.length 0 (Nat.zero_add _)
end Go.Proofs.Ytbdokcdnajdmaaa.P
