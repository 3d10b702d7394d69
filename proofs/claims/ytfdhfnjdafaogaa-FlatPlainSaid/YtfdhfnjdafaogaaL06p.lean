/- Plain law: the statement FlatPlain. No conditions. -/
import Derived.Test.YtfdhfnjdafaogaaE06
import Derived.Test.YtfdhfnjdafaogaaPx8
namespace Go.Proofs.Ytfdhfnjdafaogaa.P
open Go.RowKit Go.Proofs.YtfdhfnjdafaogaaW.PrintWords Go.Proofs.YtfdhfnjdafaogaaW.PrintLast Go.Proofs.YtfdhfnjdafaogaaW.PrintMore
open Go.Proofs.Lime (May listT topT upsP parN isN nd mayT dep upsT upN hostT slotB slotsT ofT asgT kidsF parF upsF listF overF)
set_option linter.unusedVariables false
set_option linter.unusedSimpArgs false
set_option linter.unusedSectionVars false
section
variable {t : List Lime.Nd} (M : May t) (hp : ∀ n, isN t n = true → (nd t n).kind ≠ 3)
include M hp
theorem plain_host {n : Int} (hn : isN t n = true) : hostT t n = -1 := Classical.byContradiction fun h => hp _ (M.topT_isN hn) ((host_kind M hn).1 h)
theorem plain_root {n : Int} (hn : isN t n = true) : (nd t n).root = -1 := Classical.byContradiction fun h => by
  obtain ⟨_, h1, h2, _⟩ := M.root hn rfl h
  exact hp _ h1 h2
theorem plain_kids {n : Int} (hn : isN t n = true) : kidsF t n = (nd t n).kids := by
  have hb : slotB t n = false := by simp [slotB, plain_host M hp hn]
  unfold kidsF
  rw [if_neg (hp n hn), if_neg (by simpa using plain_root M hp hn), if_neg (by simp [asgT, hb])]
theorem plain_par {n : Int} (hn : isN t n = true) : parF t n = parN t n := by
  by_cases h : parN t n = -1
  · rw [h, parF, if_neg (fun hc => hc.1 (if_pos h))]
  · obtain ⟨h1, h2⟩ := M.par_mem hn h
    have : overF t n = parN t n := by rw [overF, if_neg h, if_neg (hp _ h1), if_neg (by simpa using plain_root M hp h1)]
    rw [parF, this, if_pos ⟨h, by rw [plain_kids M hp h1]; exact h2⟩]
theorem plain_ups : ∀ n, isN t n = true → upsF t n = upsP t n := by
  intro n hn
  refine M.par_ind (P := fun n => isN t n = true → upsF t n = upsP t n) (fun h => absurd rfl (M.ne1 h)) (fun n hn ih _ => ?_) n (.inr hn) hn
  rw [upsF_step M hn, M.upsP_step hn, plain_par M hp hn]
  by_cases h : parN t n = -1
  · rw [h, upsF_none M, Lime.upsP_none]
  · rw [ih ((M.parN_or hn).resolve_left h)]
theorem plain_list : ∀ (f : Nat) (n : Int), isN t n = true → Lime.preIn (kidsF t) f n = Lime.listIn t f n
  | 0, _, _ => rfl
  | f + 1, n, hn => by
    rw [Lime.preIn, Lime.listIn, plain_kids M hp hn]
    congr 1
    exact Lime.flatMap_eq fun y hy => plain_list f y (M.kid hn hy).1
end
theorem FlatPlain_ok (l : List S36) : ∃ k, limelightlaw06_FlatPlain.f k l = some true := by
  refine Ev.rounds ?_
  have hlive : Ev (fun k => limelightlaw06_FlatPlain.j0 k l true) true := by
    refine Ev.step (fun k => by rw [limelightlaw06_FlatPlain.j0]) ?_
    exact Ev.yes rfl live_some
  unfold limelightlaw06_FlatPlain.f
  simp only [few_f, limelightref01_May.f, Option.bind_some]
  refine Ev.ite (fun hf => ?_) (fun _ => hlive)
  have hs := few_small hf
  cases hm : mayT (tr l) with
  | false => exact hlive
  | true =>
    have M := Lime.May.of hm
    have h64 := may_len M
    refine Ev.step (fun k => by rw [limelightlaw06_FlatPlain.j0]) ?_
    refine Ev.no (by simp) ?_
    have key : ∀ d i : Nat, i + d = l.length → (∀ j : Nat, j < i → (nd (tr l) (j : Int)).kind ≠ 3) → Ev (fun k => limelightlaw06_FlatPlain.l0 k l i) true := by
      intro d
      induction d with
      | zero =>
        intro i hi hk
        refine Ev.step (fun k => by rw [limelightlaw06_FlatPlain.l0]) ?_
        refine Ev.no (by omega) ?_
        have hp : ∀ n, isN (tr l) n = true → (nd (tr l) n).kind ≠ 3 := fun n hn => by
          obtain ⟨j, rfl, hj⟩ := isN_nat' hn
          exact hk j (by omega)
        refine Ev.up0 (L := fun k i => limelightlaw06_FlatPlain.l1 k l i) l.length ?_ ?_
        · have h0 := M.par_0.1
          refine Ev.step (fun k => by rw [limelightlaw06_FlatPlain.l1]) ?_
          simp only [FList_f hs, limelightref01_Ints.f, Option.bind_some, listFR_may M]
          refine Ev.no (by omega) (Ev.bind (rlist M h0) (Ev.yes ?_ live_some))
          rw [show listF (tr l) 0 = listT (tr l) 0 from plain_list M hp _ 0 h0]
          simp
        · intro i hi ih
          have hn : isN (tr l) (i : Int) = true := isN_of' hi
          refine Ev.step (fun k => by rw [limelightlaw06_FlatPlain.l1]) ?_
          simp only [FPar_f hs, FKids_f hs, FUp_f hs, limelightref01_Ints.f, Option.bind_some, parFR_may M hn, kidsFR_may M hn, upsFR_may M hn]
          rw [rd_parent, rd_kids, w1 (by omega)]
          refine Ev.yes (by omega) (Ev.yes (by omega) (Ev.yes (plain_par M hp hn) (Ev.yes (by rw [plain_kids M hp hn]; simp) (Ev.bind (rup_ev M hn) (Ev.yes (by rw [plain_ups M hp _ hn]; simp) ih)))))
      | succ d ih =>
        intro i hi hk
        refine Ev.step (fun k => by rw [limelightlaw06_FlatPlain.l0]) ?_
        rw [rd_kind]
        refine Ev.yes (by omega) (Ev.yes (by omega) (Ev.ite (fun _ => live_some) (fun h => ?_)))
        rw [w1 (by omega)]
        refine ih (i + 1) (by omega) fun j hj => ?_
        rcases Nat.lt_succ_iff_lt_or_eq.1 hj with h1 | rfl
        · exact hk j h1
        · exact h
    exact key l.length 0 (Nat.zero_add _) (fun j hj => by omega)
end Go.Proofs.Ytfdhfnjdafaogaa.P
