/- Plain law: the statement ShadeList. No conditions. -/
import Derived.Test.YthjpokmangbibaaL04
import Derived.Test.YthjpokmangbibaaThose
import Derived.Test.YthjpokmangbibaaPx4
namespace Go.Proofs.Ythjpokmangbibaa.P
open Go.RowKit Go.Proofs.YthjpokmangbibaaW.PrintWords Go.Proofs.YthjpokmangbibaaW.PrintLast Go.Proofs.YthjpokmangbibaaW.PrintMore
open Go.Proofs.Lime (May listT topT upsP parN isN nd mayT dep upsT upN)
set_option linter.unusedVariables false
set_option linter.unusedSimpArgs false
set_option linter.unusedSectionVars false
theorem ShadeList_ok (l : List S35) (n : Int) : ∃ k, limelightlaw04_ShadeList.f k l n = some true := by
  refine Ev.rounds ?_
  unfold limelightlaw04_ShadeList.f
  simp only [limelightref01_Small.f, both_f, Option.bind_some]
  have hlive : Ev (fun k => limelightlaw04_ShadeList.j0 k l n true) true := by
    refine Ev.step (fun k => by rw [limelightlaw04_ShadeList.j0]) ?_
    exact Ev.yes rfl live_some
  refine Ev.ite (fun hs => ?_) (fun _ => hlive)
  cases hb1 : both (tr l) n n with
  | false => exact hlive
  | true =>
    obtain ⟨h1, hn, _⟩ := both_iff.1 hb1
    have M := Lime.May.of h1
    have h64 := M.len2
    rw [tr_length] at h64
    have hle := listS_le M hn
    refine Ev.step (fun k => by rw [limelightlaw04_ShadeList.j0]) ?_
    refine Ev.no (by simp) ?_
    refine Ev.bind (sList_ev M hs hn) ?_
    refine Ev.up (L := fun k i (c : Int) => limelightlaw04_ShadeList.l0 k l n (Lime.listS (tr l) n) c i) l.length (fun i => ((those (fun x => decide (n ∈ upsT (tr l) x)) i).length : Int)) ?_ ?_ 0 (Nat.zero_le _)
    · refine Ev.step (fun k => by rw [limelightlaw04_ShadeList.l0]) ?_
      refine Ev.no (by omega) (Ev.yes ?_ live_some)
      refine congrArg (fun m : Nat => (m : Int)) (those_len (M.shade.nodup_pre hn) (p := fun x => decide (n ∈ upsT (tr l) x)) (k := l.length) fun x => ?_)
      refine (M.shade.mem_pre hn).trans ?_
      rw [isN_ex, tr_length, decide_eq_true_eq]
      exact Iff.of_eq (by rw [upsT, tr_length])
    · intro i hi ih
      have hiN : isN (tr l) (i : Int) = true := isN_of' hi
      have hc := those_succ (fun x => decide (n ∈ upsT (tr l) x)) i
      have hcl : (those (fun x => decide (n ∈ upsT (tr l) x)) i).length ≤ i := by
        refine Nat.le_trans (List.length_filter_le _ _) ?_; simp
      have j2 : ∀ c, Ev (fun k => limelightlaw04_ShadeList.l0 k l n (Lime.listS (tr l) n) c ((i + 1 : Nat) : Int)) true → Ev (fun k => limelightlaw04_ShadeList.j2 k l n (Lime.listS (tr l) n) c i) true := by
        intro c hc
        refine Ev.step (fun k => by rw [limelightlaw04_ShadeList.j2]) ?_
        refine Ev.bind (sconn_ev hs i) ?_
        refine Ev.bind (sabove_ev hs 0 i) ?_
        rw [w1 (by omega)]
        exact Ev.no (by simp) hc
      refine Ev.step (fun k => by rw [limelightlaw04_ShadeList.l0]) ?_
      refine Ev.yes (by omega) ?_
      refine Ev.bind (sabove_ev hs n i) ?_
      rw [aboveS_may M hiN]
      by_cases ha : n ∈ upsT (tr l) (i : Int)
      · have hm : (i : Int) ∈ Lime.listS (tr l) n := (M.shade.mem_pre hn).2 ⟨hiN, ha⟩
        rw [if_pos (by simpa using ha)] at hc
        refine Ev.yes (by simpa using ha) ?_
        refine Ev.bind (in_ev _ _ (by omega)) ?_
        refine Ev.yes (by simpa using hm) ?_
        rw [w1 (by omega), ← hc]
        exact j2 _ ih
      · rw [if_neg (by simpa using ha)] at hc
        refine Ev.no (by simpa using ha) ?_
        simp only [hc] at ih
        exact j2 _ ih

end Go.Proofs.Ythjpokmangbibaa.P
