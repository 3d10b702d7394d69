/- Plain law: the statement FlatUp. No conditions. -/
import Derived.Test.YtfdhfnjdafaogaaE06
import Derived.Test.YtfdhfnjdafaogaaPx7
namespace Go.Proofs.Ytfdhfnjdafaogaa.P
open Go.RowKit Go.Proofs.YtfdhfnjdafaogaaW.PrintWords Go.Proofs.YtfdhfnjdafaogaaW.PrintLast Go.Proofs.YtfdhfnjdafaogaaW.PrintMore
open Go.Proofs.Lime (May listT topT upsP parN isN nd mayT dep upsT upN hostT slotB slotsT ofT asgT kidsF parF upsF listF overF)
set_option linter.unusedVariables false
set_option linter.unusedSimpArgs false
set_option linter.unusedSectionVars false
theorem next_up {t : List Lime.Nd} (M : May t) : ∀ n, isN t n = true → ∀ i (h : i + 1 < (upsF t n).length), (upsF t n)[i + 1] = parF t (upsF t n)[i] ∧ isN t (upsF t n)[i] = true ∧ isN t (upsF t n)[i + 1] = true := by
  intro n hn
  refine M.flat.ind (P := fun n => isN t n = true → ∀ i (h : i + 1 < (upsF t n).length), (upsF t n)[i + 1] = parF t (upsF t n)[i] ∧ isN t (upsF t n)[i] = true ∧ isN t (upsF t n)[i + 1] = true) (fun h => absurd rfl (M.ne1 h)) (fun n hn ih _ i h => ?_) n (.inr hn) hn
  have e := upsF_step M hn
  have hok : ∀ x ∈ upsF t n, isN t x = true := fun x hx => M.flat.up_ok (.inr hn) hx
  refine ⟨?_, hok _ (List.getElem_mem _), hok _ (List.getElem_mem _)⟩
  simp only [e] at h ⊢
  simp only [List.length_cons] at h
  cases i with
  | zero =>
    have hp : parF t n ≠ -1 := fun e' => by rw [e', upsF_none M] at h; simp at h
    have e2 := upsF_step M ((M.flat.up n hn).resolve_left hp)
    simp [e2]
  | succ i =>
    have hp : parF t n ≠ -1 := fun e' => by rw [e', upsF_none M] at h; simp at h
    have := (ih ((M.flat.up n hn).resolve_left hp) i (by omega)).1
    simpa using this
theorem FlatUp_ok (l : List S36) (a b c : Int) : ∃ k, limelightlaw06_FlatUp.f k l a b c = some true := by
  refine Ev.rounds ?_
  have hlive : Ev (fun k => limelightlaw06_FlatUp.j0 k l true a b c) true := by
    refine Ev.step (fun k => by rw [limelightlaw06_FlatUp.j0]) ?_
    exact Ev.yes rfl live_some
  unfold limelightlaw06_FlatUp.f
  simp only [few_f, Option.bind_some]
  refine Ev.ite (fun hf => ?_) (fun _ => hlive)
  have hs := few_small hf
  by_cases h20 : (l.length : Int) > 20
  · rw [decide_eq_true h20]; exact hlive
  rw [decide_eq_false h20]
  have hlive1 : Ev (fun k => limelightlaw06_FlatUp.j1 k l a b c true) true := by
    refine Ev.step (fun k => by rw [limelightlaw06_FlatUp.j1]) ?_
    exact Ev.yes rfl live_some
  refine Ev.step (fun k => by rw [limelightlaw06_FlatUp.j0]) ?_
  simp only [both_f, Option.bind_some]
  refine Ev.no (by simp) (Ev.ite (fun hab => ?_) (fun _ => hlive1))
  cases hbc : both (tr l) b c with
  | false => exact hlive1
  | true =>
    obtain ⟨h1, ha, hb⟩ := both_iff.1 hab
    obtain ⟨_, _, hc⟩ := both_iff.1 hbc
    have M := Lime.May.of h1
    refine Ev.step (fun k => by rw [limelightlaw06_FlatUp.j1]) ?_
    simp only [FUp_f hs, Option.bind_some, upsFR_may M ha]
    refine Ev.no (by simp) ?_
    have hul := upsF_len M ha
    have hu0 : 0 < (upsF (tr l) a).length := by rw [upsF_step M ha]; simp
    have hnext' : ∀ us, us = upsF (tr l) a → ∀ (i : Nat) (h : i + 1 < us.length), us[i + 1]'h = parF (tr l) (us[i]'(by omega)) ∧ isN (tr l) (us[i]'(by omega)) = true ∧ isN (tr l) (us[i + 1]'h) = true := by
      rintro _ rfl
      exact next_up M a ha
    -- behind the loop
    have last : Ev (fun k => limelightlaw06_FlatUp.j3 k l a b (upsF (tr l) a) false) true := by
      refine Ev.step (fun k => by rw [limelightlaw06_FlatUp.j3]) ?_
      simp only [FAbove_f hs, Option.bind_some, aboveFR_may M ha, aboveFR_may M hb]
      refine Ev.no (by simp) (Ev.ite (fun _ => Ev.yes (by omega) live_some) (fun hne => Ev.ite (fun h => Ev.no ?_ (Ev.yes (by omega) live_some)) (fun _ => Ev.yes (by omega) live_some)))
      intro h'
      exact hne (M.flat.up_anti hb (of_decide_eq_true h) (of_decide_eq_true h'))
    have tail : Ev (fun k => ((flat_Above.f l a b).bind fun t305 => (if t305 = true then ((flat_Above.f l b c).bind fun t306 => (if t306 = true then ((flat_Above.f l a c).bind fun t307 => (limelightlaw06_FlatUp.j3 k l a b (upsF (tr l) a) (!t307))) else (limelightlaw06_FlatUp.j3 k l a b (upsF (tr l) a) false))) else (limelightlaw06_FlatUp.j3 k l a b (upsF (tr l) a) false)))) true := by
      simp only [FAbove_f hs, Option.bind_some, aboveFR_may M hb, aboveFR_may M hc]
      refine Ev.ite (fun h => Ev.ite (fun h' => ?_) (fun _ => last)) (fun _ => last)
      rw [show decide (a ∈ upsF (tr l) c) = true from decide_eq_true (M.flat.up_trans (.inr hc) (of_decide_eq_true h) (of_decide_eq_true h'))]
      exact last
    generalize hus : upsF (tr l) a = us at hul hu0 tail last ⊢
    have hnext := hnext' us hus.symm
    have key : ∀ d i : Nat, i + d = us.length → 0 < i → Ev (fun k => limelightlaw06_FlatUp.l0 k l a b c us i) true := by
      intro d
      induction d with
      | zero =>
        intro i hi h0
        refine Ev.step (fun k => by rw [limelightlaw06_FlatUp.l0]) ?_
        exact Ev.no (by omega) tail
      | succ d ih =>
        intro i hi h0
        obtain ⟨j, rfl⟩ : ∃ j, i = j + 1 := ⟨i - 1, by omega⟩
        obtain ⟨e1, e2, e3⟩ := hnext j (by omega)
        have hkl := kidsF_len M e3
        refine Ev.step (fun k => by rw [limelightlaw06_FlatUp.l0]) ?_
        rw [wm1 (by omega), rd_nat (by omega : j < us.length), rd_nat (by omega : j + 1 < us.length), w1 (by omega)]
        simp only [FPar_f hs, FKids_f hs, Option.bind_some, parFR_may M e2, kidsFR_may M e3]
        refine Ev.yes (by omega) (Ev.yes (by omega) (Ev.yes (by omega) (Ev.yes (by omega) (Ev.yes e1.symm (Ev.bind (in_ev _ _ (by omega)) (Ev.yes ?_ (ih (j + 2) (by omega) (by omega))))))))
        exact decide_eq_true ((M.mem_kidsF e3).2 ⟨e2, e1.symm⟩)
    exact key (us.length - 1) 1 (by omega) (by omega)
end Go.Proofs.Ytfdhfnjdafaogaa.P
