/- Plain law: the statement ShadeLaws. No conditions. -/
import Derived.Test.YthjpokmangbibaaL04
import Derived.Test.YthjpokmangbibaaMQ
import Derived.Test.YthjpokmangbibaaPx5
namespace Go.Proofs.Ythjpokmangbibaa.P
open Go.RowKit Go.Proofs.YthjpokmangbibaaW.PrintWords Go.Proofs.YthjpokmangbibaaW.PrintLast Go.Proofs.YthjpokmangbibaaW.PrintMore
open Go.Proofs.Lime (May listT topT upsP parN isN nd mayT dep upsT upN)
set_option linter.unusedVariables false
set_option linter.unusedSimpArgs false
set_option linter.unusedSectionVars false
theorem ShadeLaws_ok (l : List S35) (a b c : Int) : ∃ k, limelightlaw04_ShadeLaws.f k l a b c = some true := by
  refine Ev.rounds ?_
  unfold limelightlaw04_ShadeLaws.f
  simp only [limelightref01_Small.f, both_f, Option.bind_some]
  have hlive : Ev (fun k => limelightlaw04_ShadeLaws.j0 k l a b c true) true := by
    refine Ev.step (fun k => by rw [limelightlaw04_ShadeLaws.j0]) ?_
    exact Ev.yes rfl live_some
  refine Ev.ite (fun hs => ?_) (fun _ => live_some)
  refine Ev.ite (fun hb1 => ?_) (fun _ => hlive)
  cases hb2 : both (tr l) b c with
  | false => exact hlive
  | true =>
    obtain ⟨h1, ha, hb⟩ := both_iff.1 hb1
    obtain ⟨_, _, hc⟩ := both_iff.1 hb2
    have M := Lime.May.of h1
    have F := M.shade
    have j3 : Ev (fun k => limelightlaw04_ShadeLaws.j3 k l a false) true := by
      refine Ev.step (fun k => by rw [limelightlaw04_ShadeLaws.j3]) ?_
      refine Ev.no (by simp) ?_
      simp only [Host_f hs, hostR_may M ha, Option.bind_some]
      have hself : aboveS (tr l) a a = true := by rw [aboveS_may M ha]; exact decide_eq_true (F.self ha)
      refine Ev.ite (fun _ => ?_) (fun hh => ?_)
      · refine Ev.bind (sabove_ev hs a a) ?_
        exact Ev.yes hself live_some
      · refine Ev.bind (sabove_ev hs _ a) ?_
        refine Ev.yes (by rw [aboveS_may M ha]; simpa using M.hostT_above ha hh) ?_
        have hx := isN_lt ((M.host_or ha).resolve_left hh)
        refine Ev.yes hx.1 (Ev.yes hx.2 ?_)
        refine Ev.bind (rtop_ev M ha) ?_
        rw [rd_root]
        refine Ev.yes (M.hostT_root ha hh) ?_
        refine Ev.bind (sabove_ev hs a a) ?_
        exact Ev.yes hself live_some
    have j2 : Ev (fun k => limelightlaw04_ShadeLaws.j2 k l a b false) true := by
      refine Ev.step (fun k => by rw [limelightlaw04_ShadeLaws.j2]) ?_
      refine Ev.no (by simp) ?_
      refine Ev.bind (sconn_ev hs a) ?_
      rw [aboveS_may M ha]
      refine Ev.ite (fun h0 => ?_) (fun _ => j3)
      refine Ev.bind (sabove_ev hs b a) ?_
      rw [aboveS_may M ha]
      refine Ev.ite (fun hba => ?_) (fun _ => j3)
      refine Ev.bind (sconn_ev hs b) ?_
      rw [aboveS_may M hb]
      have h0' : (0 : Int) ∈ upsT (tr l) a := by simpa using h0
      have hba' : b ∈ upsT (tr l) a := by simpa using hba
      have : (0 : Int) ∈ upsT (tr l) b := by
        rcases F.up_two (.inr ha) h0' hba' with h | h
        · exact h
        · have h' : b ∈ upsT (tr l) 0 := h
          rw [M.ups_0, List.mem_singleton] at h'
          rw [h', M.ups_0]; simp
      rw [decide_eq_true this]
      exact j3
    have j1 : Ev (fun k => limelightlaw04_ShadeLaws.j1 k l a b false) true := by
      refine Ev.step (fun k => by rw [limelightlaw04_ShadeLaws.j1]) ?_
      refine Ev.no (by simp) ?_
      refine Ev.ite (fun _ => j2) (fun hab => ?_)
      refine Ev.bind (sabove_ev hs a b) ?_
      rw [aboveS_may M hb]
      refine Ev.ite (fun h => ?_) (fun _ => j2)
      refine Ev.bind (sabove_ev hs b a) ?_
      rw [aboveS_may M ha]
      have h' : a ∈ upsT (tr l) b := by simpa using h
      have : b ∉ upsT (tr l) a := fun h2 => hab (F.up_anti hb h' h2)
      rw [decide_eq_false this]
      exact j2
    refine Ev.step (fun k => by rw [limelightlaw04_ShadeLaws.j0]) ?_
    refine Ev.no (by simp) ?_
    refine Ev.bind (sabove_ev hs a b) ?_
    rw [aboveS_may M hb]
    refine Ev.ite (fun h1 => ?_) (fun _ => j1)
    refine Ev.bind (sabove_ev hs b c) ?_
    rw [aboveS_may M hc]
    refine Ev.ite (fun h2 => ?_) (fun _ => j1)
    refine Ev.bind (sabove_ev hs a c) ?_
    rw [aboveS_may M hc]
    have h1' : a ∈ upsT (tr l) b := by simpa using h1
    have h2' : b ∈ upsT (tr l) c := by simpa using h2
    have : a ∈ upsT (tr l) c := F.up_trans (.inr hc) h1' h2'
    rw [decide_eq_true this]
    exact j1

end Go.Proofs.Ythjpokmangbibaa.P
