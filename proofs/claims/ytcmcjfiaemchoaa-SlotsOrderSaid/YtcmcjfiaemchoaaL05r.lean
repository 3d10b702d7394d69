/- Plain law: the statement SlotsOrder. No conditions. -/
import Derived.Test.YtcmcjfiaemchoaaL05
import Derived.Test.YtcmcjfiaemchoaaPx10
namespace Go.Proofs.Ytcmcjfiaemchoaa.P
open Go.RowKit Go.Proofs.YtcmcjfiaemchoaaW.PrintWords Go.Proofs.YtcmcjfiaemchoaaW.PrintLast Go.Proofs.YtcmcjfiaemchoaaW.PrintMore
open Go.Proofs.Lime (May listT topT upsP parN isN nd mayT dep upsT upN hostT slotB slotsT ofT asgT attrT nameT overT)
set_option linter.unusedVariables false
set_option linter.unusedSimpArgs false
set_option linter.unusedSectionVars false

theorem plc_lt {a b : Int} : ∀ {xs : List Int}, xs.Nodup → [a, b].Sublist xs → plc xs a < plc xs b
  | [], _, h => by cases h
  | x :: xs, hd, h => by
    obtain ⟨h1, h2⟩ := List.nodup_cons.1 hd
    rw [plc_cons, plc_cons]
    cases h with
    | cons _ h =>
      have ha : a ∈ xs := h.subset (by simp)
      have hb : b ∈ xs := h.subset (by simp)
      have hxa : ¬ x = a := by rintro rfl; exact h1 ha
      have hxb : ¬ x = b := by rintro rfl; exact h1 hb
      rw [if_neg hxa, if_neg hxb, if_pos ha, if_pos hb]
      have := plc_lt h2 h
      omega
    | cons_cons _ h =>
      have hb : b ∈ xs := h.subset (by simp)
      have hne : ¬ a = b := by rintro rfl; exact h1 hb
      rw [if_pos rfl, if_neg hne, if_pos hb]
      have := plc_iff.2 hb
      omega
theorem two_at {xs : List Int} {i : Nat} (h : i + 1 < xs.length) : [xs[i], xs[i + 1]].Sublist xs := by
  have h1 : xs.drop i = xs[i] :: xs[i + 1] :: xs.drop (i + 2) := by rw [List.drop_eq_getElem_cons (by omega), List.drop_eq_getElem_cons h]
  have h2 : [xs[i], xs[i + 1]].Sublist (xs.drop i) := by rw [h1]; exact List.Sublist.cons_cons _ (List.Sublist.cons_cons _ (List.nil_sublist _))
  exact h2.trans (List.drop_sublist _ _)
theorem wm1' {i : Nat} (h : i < 4611686018427387904) (h0 : 0 < i) : wrap64 ((i : Int) - 1) = ((i - 1 : Nat) : Int) := by
  obtain ⟨j, rfl⟩ : ∃ j, i = j + 1 := ⟨i - 1, by omega⟩
  rw [wm1 (by omega)]; simp
theorem SlotsOrder_ok (l : List S35) (n : Int) : ∃ k, limelightlaw05_SlotsOrder.f k l n = some true := by
  refine Ev.rounds ?_
  have hlive : Ev (fun k => limelightlaw05_SlotsOrder.j0 k l n true) true := by
    refine Ev.step (fun k => by rw [limelightlaw05_SlotsOrder.j0]) ?_
    exact Ev.yes rfl live_some
  unfold limelightlaw05_SlotsOrder.f
  simp only [few_f, both_f, Option.bind_some]
  refine Ev.ite (fun hf => ?_) (fun _ => hlive)
  have hs := few_small hf
  cases hb : both (tr l) n n with
  | false => exact hlive
  | true =>
    obtain ⟨h1, hn, _⟩ := both_iff.1 hb
    have M := Lime.May.of h1
    have hal := asg_len hs M hn
    have hask := fun x hx => M.asg_kid (n := x) hn hx
    have hsub := M.asg_sub hn
    refine Ev.step (fun k => by rw [limelightlaw05_SlotsOrder.j0]) ?_
    simp only [SlAsg_f hs, Option.bind_some, asgR_may hs M hn]
    refine Ev.no (by simp) ?_
    generalize asgT (tr l) n = xs at hal hask hsub
    -- one behind the other, in the list of one top
    have before : ∀ (top : Int) (ys : List Int), (∀ y ∈ ys, isN (tr l) y = true ∧ topT (tr l) y = top) → isN (tr l) top = true → ys.Sublist (listT (tr l) top) → ∀ i, (h : i + 1 < ys.length) → Ev (fun k => limelightref03_Before.f k l ys[i] ys[i + 1]) true := by
      intro top ys hy ht hsub i h
      have ha := hy _ (List.getElem_mem (show i < ys.length by omega))
      have e := rbefore_ev M ha.1 ys[i + 1]
      have : rbefore (tr l) ys[i] ys[i + 1] = true := by
        unfold rbefore
        rw [ha.2]
        have hl := plc_lt (M.nodup_listT ht) ((two_at h).trans hsub)
        simp only [Bool.and_eq_true, decide_eq_true_eq]
        exact ⟨hsub.subset (List.getElem_mem h), hl⟩
      rwa [this] at e
    have second : Ev (fun k => ((slots_All.f l n).bind fun t => limelightlaw05_SlotsOrder.l1 k l t 1)) true := by
      simp only [SlAll_f hs, Option.bind_some, allR_may hs M hn]
      by_cases h3 : (nd (tr l) n).kind = 3
      · rw [if_pos h3]
        have hsl := slots_len hs M n hn
        have hin := fun y hy => M.slot_in (s := y) hn hy
        have hsub2 : (slotsT (tr l) n).Sublist (listT (tr l) n) := List.filter_sublist
        generalize slotsT (tr l) n = ys at hsl hin hsub2
        have key : ∀ d i : Nat, i + d = ys.length → 0 < i → Ev (fun k => limelightlaw05_SlotsOrder.l1 k l ys i) true := by
          intro d
          induction d with
          | zero =>
            intro i hi h0
            refine Ev.step (fun k => by rw [limelightlaw05_SlotsOrder.l1]) ?_
            exact Ev.no (by omega) live_some
          | succ d ih =>
            intro i hi h0
            obtain ⟨j, rfl⟩ : ∃ j, i = j + 1 := ⟨i - 1, by omega⟩
            refine Ev.step (fun k => by rw [limelightlaw05_SlotsOrder.l1]) ?_
            rw [wm1 (by omega), rd_nat (by omega : j < ys.length), rd_nat (by omega : j + 1 < ys.length), w1 (by omega)]
            refine Ev.yes (by omega) (Ev.yes (by omega) (Ev.yes (by omega) (Ev.yes (by omega) (Ev.bind (before n ys ?_ hn hsub2 j (by omega)) (Ev.yes rfl (ih (j + 2) (by omega) (by omega)))))))
            exact fun y hy => ⟨(hin y hy).1, M.root_top (M.par_3 hn h3) (hin y hy).1 (hin y hy).2.1⟩
        rcases Nat.eq_zero_or_pos ys.length with h0 | h0
        · refine Ev.step (fun k => by rw [limelightlaw05_SlotsOrder.l1]) ?_
          exact Ev.no (by omega) live_some
        · exact key (ys.length - 1) 1 (by omega) (by omega)
      · rw [if_neg h3]
        refine Ev.step (fun k => by rw [limelightlaw05_SlotsOrder.l1]) ?_
        exact Ev.no (by simp) live_some
    have key : ∀ d i : Nat, i + d = xs.length → 0 < i → Ev (fun k => limelightlaw05_SlotsOrder.l0 k l n xs i) true := by
      intro d
      induction d with
      | zero =>
        intro i hi h0
        refine Ev.step (fun k => by rw [limelightlaw05_SlotsOrder.l0]) ?_
        exact Ev.no (by omega) second
      | succ d ih =>
        intro i hi h0
        obtain ⟨j, rfl⟩ : ∃ j, i = j + 1 := ⟨i - 1, by omega⟩
        obtain ⟨hhN, hsub'⟩ := hsub.resolve_left (by rintro rfl; simp at hi)
        have e0 : xs[0] ∈ xs := List.getElem_mem (by omega)
        have e1 : xs[j + 1] ∈ xs := List.getElem_mem (by omega)
        have l0 := isN_lt (hask _ e0).2.2.2
        have l1 := isN_lt (hask _ e1).2.2.2
        refine Ev.step (fun k => by rw [limelightlaw05_SlotsOrder.l0]) ?_
        rw [wm1 (by omega), rd_nat (by omega : j < xs.length), rd_nat (by omega : j + 1 < xs.length), w1 (by omega), show rd xs 0 = xs[0] from rd_nat (i := 0) (by omega)]
        refine Ev.yes (by omega) (Ev.yes (by omega) (Ev.yes (by omega) (Ev.yes (by omega) (Ev.bind (before (topT (tr l) (hostT (tr l) n)) xs ?_ (M.topT_isN hhN) hsub' j (by omega)) (Ev.yes rfl ?_)))))
        · intro y hy
          obtain ⟨k1, k2, _, k4⟩ := hask y hy
          exact ⟨k4, by rw [M.topT_step k4, if_neg k2, k1]⟩
        · refine Ev.yes l1.1 (Ev.yes l1.2 (Ev.yes (by omega) (Ev.yes l0.1 (Ev.yes l0.2 ?_))))
          rw [rd_parent, rd_parent]
          exact Ev.yes ((hask _ e1).1.trans (hask _ e0).1.symm) (ih (j + 2) (by omega) (by omega))
    rcases Nat.eq_zero_or_pos xs.length with h0 | h0
    · refine Ev.step (fun k => by rw [limelightlaw05_SlotsOrder.l0]) ?_
      exact Ev.no (by omega) second
    · exact key (xs.length - 1) 1 (by omega) (by omega)
end Go.Proofs.Ytcmcjfiaemchoaa.P
