/- Plain law: the statement FlatList. No conditions. -/
import Derived.Test.YtfdhfnjdafaogaaE06r
import Derived.Test.YtfdhfnjdafaogaaPx5
namespace Go.Proofs.Ytfdhfnjdafaogaa.P
open Go.RowKit Go.Proofs.YtfdhfnjdafaogaaW.PrintWords Go.Proofs.YtfdhfnjdafaogaaW.PrintLast Go.Proofs.YtfdhfnjdafaogaaW.PrintMore
open Go.Proofs.Lime (May listT topT upsP parN isN nd mayT dep upsT upN hostT slotB slotsT ofT asgT kidsF parF upsF listF overF)
set_option linter.unusedVariables false
set_option linter.unusedSimpArgs false
set_option linter.unusedSectionVars false
section
variable {l : List S36} (hs : Lime.smallT (tr l) = true) (M : May (tr l))
include hs M
theorem rbelow_ev : ∀ (d : Nat) (n : Int), isN (tr l) n = true → (tr l).length < (upsF (tr l) n).length + d → Ev (fun k => limelightref06_below.f k l n) (listF (tr l) n) := by
  intro d
  induction d with
  | zero => intro n hn hd; have := M.flat.bound n hn; unfold upsF at hd; omega
  | succ d ih =>
    intro n hn hd
    have hle := listF_len M hn
    have hkl := kidsF_len M hn
    have hstep : listF (tr l) n = n :: (kidsF (tr l) n).flatMap (listF (tr l)) := M.flat.pre_step hn
    refine Ev.step (fun k => by rw [limelightref06_below.f]) ?_
    refine Ev.bind (rkids6_ev hs M hn) ?_
    have hki : ∀ y ∈ kidsF (tr l) n, isN (tr l) y = true ∧ (upsF (tr l) y).length = (upsF (tr l) n).length + 1 := fun y hy => by
      obtain ⟨h1, _, h3⟩ := M.flat.kid hn hy
      exact ⟨h1, h3⟩
    rw [hstep] at hle ⊢
    generalize kidsF (tr l) n = ks at hkl hki hle
    have key : ∀ e i : Nat, i + e = ks.length → ∀ acc : List Int, acc.length + ((ks.drop i).flatMap (listF (tr l))).length < 1000 → Ev (fun k => limelightref06_below.l0 k l acc ks i) (acc ++ (ks.drop i).flatMap (listF (tr l))) := by
      intro e
      induction e with
      | zero =>
        intro i hi acc ha
        refine Ev.step (fun k => by rw [limelightref06_below.l0]) ?_
        refine Ev.no (by omega) (Ev.pure ?_)
        rw [List.drop_eq_nil_of_le (by omega)]; simp
      | succ e ihe =>
        intro i hi acc ha
        have hlt : i < ks.length := by omega
        rw [drop_at hlt, List.flatMap_cons, List.length_append] at ha
        obtain ⟨hk1, hk3⟩ := hki _ (List.getElem_mem hlt)
        refine Ev.step (fun k => by rw [limelightref06_below.l0]) ?_
        refine Ev.yes (by omega) (Ev.yes (by omega) ?_)
        rw [rd_nat hlt, w1 (by omega), drop_at hlt, List.flatMap_cons]
        refine Ev.bind (ih _ hk1 (by omega)) (Ev.yes (by omega) ?_)
        have := ihe (i + 1) (by omega) (acc ++ listF (tr l) ks[i]) (by rw [List.length_append]; omega)
        rw [List.append_assoc] at this
        exact this
    have := key ks.length 0 (by omega) [n] (by simp at hle ⊢; omega)
    exact this
end
theorem FlatList_ok (l : List S36) : ∃ k, limelightlaw06_FlatList.f k l = some true := by
  refine Ev.rounds ?_
  unfold limelightlaw06_FlatList.f
  simp only [few_f, limelightref01_May.f, Option.bind_some]
  refine Ev.ite (fun hf => ?_) (fun _ => live_some)
  have hs := few_small hf
  simp only [FList_f hs, limelightref01_Ints.f, Option.bind_some]
  refine Ev.ite (fun hm => ?_) (fun hm => ?_)
  · have M := Lime.May.of hm
    have h0 := M.par_0.1
    refine Ev.bind (a := listF (tr l) 0) (Ev.bind (rbelow_ev hs M _ 0 h0 (Nat.lt_add_of_pos_left (by rw [upsF_step M h0]; simp))) (Ev.now _)) (Ev.yes (by rw [listFR_may M]; simp) live_some)
  · rw [show Lime.listFR (tr l) = [] from if_neg hm]
    exact Ev.yes rfl live_some
end Go.Proofs.Ytfdhfnjdafaogaa.P
