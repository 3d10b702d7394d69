/- Plain law: what the document's functions of the flat tree tell. No conditions. -/
import Derived.Test.YtfdhfnjdafaogaaE06
import Derived.Test.YtfdhfnjdafaogaaE05r
import Derived.Test.YtfdhfnjdafaogaaPx4
namespace Go.Proofs.Ytfdhfnjdafaogaa.P
open Go.RowKit Go.Proofs.YtfdhfnjdafaogaaW.PrintWords Go.Proofs.YtfdhfnjdafaogaaW.PrintLast Go.Proofs.YtfdhfnjdafaogaaW.PrintMore
open Go.Proofs.Lime (May listT topT upsP parN isN nd mayT dep upsT upN hostT slotB slotsT ofT asgT kidsF parF upsF listF overF)
set_option linter.unusedVariables false
set_option linter.unusedSimpArgs false
set_option linter.unusedSectionVars false
section
variable {l : List S36} (hs : Lime.smallT (tr l) = true) (M : May (tr l))
include hs M
theorem rkids6_ev {n : Int} (hn : isN (tr l) n = true) : Ev (fun k => limelightref06_Kids.f k l n) (kidsF (tr l) n) := by
  have h1 := isN_lt hn
  unfold kidsF
  refine Ev.yes h1.1 (Ev.yes h1.2 ?_)
  rw [rd_kind, rd_root]
  refine Ev.ite (fun h3 => Ev.pure (by rw [if_pos h3])) (fun h3 => ?_)
  rw [if_neg h3]
  refine Ev.ite (fun hr => ?_) (fun hr => ?_)
  · rw [if_neg (by simpa using hr)]
    refine Ev.bind (rasg_ev hs M hn) (Ev.ite (fun h => Ev.pure ?_) (fun h => Ev.pure ?_))
    · rw [if_pos (fun e => by rw [e] at h; simp at h)]
    · rw [if_neg (by
        have : (asgT (tr l) n).length = 0 := by omega
        simpa using this), rd_kids]
  · rw [if_pos hr]
    have h2 := isN_lt (M.root hn rfl hr).2.1
    refine Ev.yes h2.1 (Ev.yes h2.2 (Ev.pure ?_))
    rw [rd_kids]
theorem rpar6_ev {n : Int} (hn : isN (tr l) n = true) : Ev (fun k => limelightref06_Parent.f k l n) (parF (tr l) n) := by
  have h64 := may_len M
  have hp := (M.parF_or hn).imp id And.left
  have key : ∀ d i : Nat, i + d = l.length → Ev (fun k => limelightref06_Parent.l0 k l n i) (if (i : Int) ≤ parF (tr l) n then parF (tr l) n else -1) := by
    intro d
    induction d with
    | zero =>
      intro i hi
      refine Ev.step (fun k => by rw [limelightref06_Parent.l0]) ?_
      refine Ev.no (by omega) (Ev.pure ?_)
      rw [if_neg]
      intro h
      rcases hp with h2 | h2
      · omega
      · have := isN_lt h2; omega
    | succ d ih =>
      intro i hi
      have hiN : isN (tr l) (i : Int) = true := isN_of' (by omega)
      have hkl := kidsF_len M hiN
      refine Ev.step (fun k => by rw [limelightref06_Parent.l0]) ?_
      refine Ev.yes (by omega) (Ev.bind (rkids6_ev hs M hiN) (Ev.bind (in_ev _ _ (by omega)) ?_))
      have hm := M.mem_kidsF (n := n) hiN
      refine Ev.ite (fun h => Ev.pure ?_) (fun h => ?_)
      · have := (hm.1 (of_decide_eq_true h)).2
        rw [this, if_pos (Int.le_refl _)]
      · rw [w1 (by omega)]
        refine Ev.cast (ih (i + 1) (by omega)) ?_
        have hne : parF (tr l) n ≠ i := fun e => h (decide_eq_true (hm.2 ⟨hn, e⟩))
        by_cases hc : (i : Int) ≤ parF (tr l) n
        · rw [if_pos hc, if_pos (by omega)]
        · rw [if_neg hc, if_neg (by omega)]
  refine Ev.cast (key l.length 0 (Nat.zero_add _)) ?_
  rcases hp with h2 | h2
  · rw [if_neg (by omega), h2]
  · rw [if_pos (by have := (isN_lt h2).1; omega)]
theorem rup6_l (n : Int) (hn : n = -1 ∨ isN (tr l) n = true) : ∀ acc : List Int, acc.length + (upsF (tr l) n).length < 1000000 → Ev (fun k => limelightref06_Up.l0 k l n acc) (acc ++ upsF (tr l) n) := by
  refine M.flat.ind (P := fun n => ∀ acc : List Int, acc.length + (upsF (tr l) n).length < 1000000 → Ev (fun k => limelightref06_Up.l0 k l n acc) (acc ++ upsF (tr l) n)) ?_ ?_ n hn
  · intro acc ha
    refine Ev.step (fun k => by rw [limelightref06_Up.l0]) ?_
    refine Ev.yes rfl (Ev.pure ?_)
    rw [upsF_none M, List.append_nil]
  · intro n hn ih acc ha
    rw [upsF_step M hn] at ha ⊢
    simp only [List.length_cons] at ha
    refine Ev.step (fun k => by rw [limelightref06_Up.l0]) ?_
    refine Ev.no (M.ne1 hn) (Ev.yes (by omega) (Ev.bind (rpar6_ev hs M hn) ?_))
    have := ih (acc ++ [n]) (by simp; omega)
    rw [List.append_assoc] at this
    exact this
theorem rup6_ev {n : Int} (hn : isN (tr l) n = true) : Ev (fun k => limelightref06_Up.f k l n) (upsF (tr l) n) := by
  have h1 := upsF_len M hn
  exact rup6_l hs M n (.inr hn) [] (by simp; omega)
theorem rhas6_ev {n : Int} (hn : isN (tr l) n = true) : Ev (fun k => limelightref06_Has.f k l n) (decide (0 ∈ upsF (tr l) n)) := by
  have h1 := upsF_len M hn
  exact Ev.bind (rup6_ev hs M hn) (Ev.bind (in_ev _ _ (by omega)) (Ev.now _))
theorem rabove6_ev (a : Int) {n : Int} (hn : isN (tr l) n = true) : Ev (fun k => limelightref06_Above.f k l a n) (decide (a ∈ upsF (tr l) n)) := by
  have h1 := upsF_len M hn
  exact Ev.bind (rup6_ev hs M hn) (Ev.bind (in_ev _ _ (by omega)) (Ev.now _))
end
end Go.Proofs.Ytfdhfnjdafaogaa.P
