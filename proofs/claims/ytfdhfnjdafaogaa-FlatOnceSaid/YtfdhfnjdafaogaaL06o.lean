/- Plain law: the statement FlatOnce. No conditions. -/
import Derived.Test.YtfdhfnjdafaogaaE06
import Derived.Test.YtfdhfnjdafaogaaPx6
import Derived.Test.YtfdhfnjdafaogaaThose
namespace Go.Proofs.Ytfdhfnjdafaogaa.P
open Go.RowKit Go.Proofs.YtfdhfnjdafaogaaW.PrintWords Go.Proofs.YtfdhfnjdafaogaaW.PrintLast Go.Proofs.YtfdhfnjdafaogaaW.PrintMore
open Go.Proofs.Lime (May listT topT upsP parN isN nd mayT dep upsT upN hostT slotB slotsT ofT asgT kidsF parF upsF listF overF)
set_option linter.unusedVariables false
set_option linter.unusedSimpArgs false
set_option linter.unusedSectionVars false
theorem FlatOnce_ok (l : List S36) : ∃ k, limelightlaw06_FlatOnce.f k l = some true := by
  refine Ev.rounds ?_
  have hlive : Ev (fun k => limelightlaw06_FlatOnce.j0 k l true) true := by
    refine Ev.step (fun k => by rw [limelightlaw06_FlatOnce.j0]) ?_
    exact Ev.yes rfl live_some
  unfold limelightlaw06_FlatOnce.f
  simp only [few_f, limelightref01_May.f, Option.bind_some]
  refine Ev.ite (fun hf => Ev.ite (fun _ => hlive) (fun h16 => ?_)) (fun _ => hlive)
  have hs := few_small hf
  cases hm : mayT (tr l) with
  | false => exact hlive
  | true =>
    have M := Lime.May.of hm
    have hl := small16 h16
    have h0N := M.par_0.1
    have hll := listF_len M h0N
    have hmem := fun y => mem_listF M (y := y) h0N
    have hnd : (listF (tr l) 0).Nodup := M.flat.nodup_pre h0N
    have hsub : ∀ i : Int, isN (tr l) i = true → 0 ∈ upsF (tr l) i → i ≠ 0 → [parF (tr l) i, i].Sublist (listF (tr l) 0) := by
      intro i hi h0 hne
      have hp : parF (tr l) i ≠ -1 := fun e => not_in M hi e hne h0
      obtain ⟨hpN, _, hk⟩ := (M.parF_or hi).resolve_left hp
      have h0p : 0 ∈ upsF (tr l) (parF (tr l) i) := by
        rw [upsF_step M hi] at h0
        exact (List.mem_cons.1 h0).resolve_left (fun e => hne e.symm)
      refine List.Sublist.trans ?_ (M.flat.sub _ hpN h0p)
      rw [M.flat.pre_step hpN]
      exact Lime.sub_two (List.mem_flatMap.2 ⟨i, hk, M.flat.mem_pre hi |>.2 ⟨hi, M.flat.self hi⟩⟩)
    refine Ev.step (fun k => by rw [limelightlaw06_FlatOnce.j0]) ?_
    simp only [FList_f hs, Option.bind_some, listFR_may M]
    refine Ev.no (by simp) ?_
    have hlen : (listF (tr l) 0).length = (those (fun x => decide (0 ∈ upsF (tr l) x)) l.length).length := those_len hnd fun x => by
      rw [hmem, isN_ex, tr_length, decide_eq_true_eq]
    generalize hxs : listF (tr l) 0 = xs at hll hmem hnd hsub hlen
    refine Ev.up (L := fun k i (s : Int) => limelightlaw06_FlatOnce.l0 k l xs s i) l.length (fun i => ((those (fun x => decide (0 ∈ upsF (tr l) x)) i).length : Int)) ?_ ?_ 0 (Nat.zero_le _)
    · refine Ev.step (fun k => by rw [limelightlaw06_FlatOnce.l0]) ?_
      exact Ev.no (by omega) (Ev.yes (by rw [hlen]) live_some)
    · intro i hi ih
      have hn : isN (tr l) (i : Int) = true := isN_of' hi
      have hin : decide ((i : Int) ∈ xs) = decide (0 ∈ upsF (tr l) (i : Int)) := decide_eq_decide.2 (by rw [hmem]; simp [hn])
      have hcl : (those (fun x => decide (0 ∈ upsF (tr l) x)) i).length ≤ i := by
        have := List.length_filter_le (fun x : Int => decide (0 ∈ upsF (tr l) x)) ((List.range i).map fun i : Nat => (i : Int))
        rw [List.length_map, List.length_range] at this
        exact this
      have hsu := those_succ (fun x => decide (0 ∈ upsF (tr l) x)) i
      -- whoever is in, or not: what is asked of him
      have rest : ∀ c : Int, c = ((those (fun x => decide (0 ∈ upsF (tr l) x)) (i + 1)).length : Int) → Ev (fun k => limelightlaw06_FlatOnce.j2 k l xs c i) true := by
        intro c hc
        have l1 : Ev (fun k => limelightlaw06_FlatOnce.l1 k l xs c i (parF (tr l) i) 0) true := by
          refine Ev.up0 (L := fun k j => limelightlaw06_FlatOnce.l1 k l xs c i (parF (tr l) i) j) l.length ?_ ?_
          · refine Ev.step (fun k => by rw [limelightlaw06_FlatOnce.l1]) ?_
            refine Ev.no (by omega) ?_
            rw [w1 (by omega), hc]
            exact ih
          · intro j hj ihj
            have hjN : isN (tr l) (j : Int) = true := isN_of' hj
            have hkl := kidsF_len M hjN
            refine Ev.step (fun k => by rw [limelightlaw06_FlatOnce.l1]) ?_
            simp only [FKids_f hs, Option.bind_some, kidsFR_may M hjN]
            refine Ev.yes (by omega) (Ev.bind (in_ev _ _ (by omega)) (Ev.no ?_ ?_))
            · have : decide ((i : Int) ∈ kidsF (tr l) j) = ((j : Int) == parF (tr l) i) := by
                rw [Bool.eq_iff_iff, decide_eq_true_eq, M.mem_kidsF hjN, beq_iff_eq]
                exact ⟨fun h => h.2.symm, fun h => ⟨hn, h.symm⟩⟩
              rw [this]; simp
            · rw [w1 (by omega)]
              exact ihj
        have j4 : Ev (fun k => limelightlaw06_FlatOnce.j4 k l xs c i (parF (tr l) i) false) true := by
          refine Ev.step (fun k => by rw [limelightlaw06_FlatOnce.j4]) ?_
          exact Ev.no (by simp) l1
        have j3 : Ev (fun k => limelightlaw06_FlatOnce.j3 k l xs c i false) true := by
          refine Ev.step (fun k => by rw [limelightlaw06_FlatOnce.j3]) ?_
          simp only [FPar_f hs, Option.bind_some, parFR_may M hn]
          refine Ev.no (by simp) (Ev.bind (in_ev _ _ (by omega)) (Ev.ite (fun h => Ev.ite (fun h0 => ?_) (fun _ => j4)) (fun _ => j4)))
          refine Ev.bind (place_ev _ _ (by omega)) (Ev.bind (place_ev _ _ (by omega)) ?_)
          have := plc_lt hnd (hsub i hn (by rw [hin] at h; simpa using h) (by omega))
          rw [decide_eq_false (by omega)]
          exact j4
        refine Ev.step (fun k => by rw [limelightlaw06_FlatOnce.j2]) ?_
        simp only [FHas_f hs, Option.bind_some, aboveFR_may M hn]
        refine Ev.bind (in_ev _ _ (by omega)) ?_
        rw [hin]
        refine Ev.no (by simp) (Ev.bind (in_ev _ _ (by omega)) ?_)
        refine Ev.ite (fun h => Ev.yes (by omega) (Ev.yes (by omega) ?_)) (fun _ => j3)
        rw [rd_kind]
        have hk : (nd (tr l) (i : Int)).kind ≠ 3 := by
          intro h3
          rw [hin] at h
          exact not_in M hn (shadow_par M hn h3) (zero_of M hn (by omega)) (of_decide_eq_true h)
        rw [show ((nd (tr l) (i : Int)).kind == 3) = false by simpa using hk]
        exact j3
      refine Ev.step (fun k => by rw [limelightlaw06_FlatOnce.l0]) ?_
      simp only [FHas_f hs, Option.bind_some, aboveFR_may M hn]
      refine Ev.yes (by omega) (Ev.ite (fun h => rest _ ?_) (fun h => rest _ ?_))
      · rw [w1 (by omega), hsu, if_pos h]
      · rw [hsu, if_neg h]; rfl
end Go.Proofs.Ytfdhfnjdafaogaa.P
