/- Plain law: the statements of tree order, but for Laws. No conditions. -/
import Derived.Test.YtiekphenmbigeaaPx3
import Derived.Test.YtiekphenmbigeaaMF
namespace Go.Proofs.Ytiekphenmbigeaa.P
open Go.RowKit Go.Proofs.YtiekphenmbigeaaW.PrintWords Go.Proofs.YtiekphenmbigeaaW.PrintLast Go.Proofs.YtiekphenmbigeaaW.PrintMore
open Go.Proofs.Lime (May listT topT upsP parN isN nd mayT dep upsT upN)
set_option linter.unusedVariables false
set_option linter.unusedSimpArgs false
set_option linter.unusedSectionVars false

theorem live_some : Ev (fun k => (limelightlaw03_live.f k).bind fun t => some t) true := Ev.bind (f := fun _ t => some t) live_ev (Ev.now _)
theorem both_iff {t : List Lime.Nd} {a b : Int} : both t a b = true ↔ mayT t = true ∧ isN t a = true ∧ isN t b = true := by simp [both]
theorem upsR_no {t : List Lime.Nd} {a : Int} (h : ¬ (mayT t = true ∧ isN t a = true)) : Lime.upsR t a = [] := if_neg h
theorem above_no {t : List Lime.Nd} {a b : Int} (h : both t a b = false) : aboveR t a b = false := by
  unfold aboveR
  rw [decide_eq_false_iff_not]
  intro hm
  obtain ⟨h1, h2, h3, _⟩ := aboveR_isN hm
  rw [both_iff.2 ⟨h1, h2, h3⟩] at h; cases h
theorem firstOf_none {p : Int → Bool} {l : List Int} (h : ∀ x ∈ l, p x = false) : firstOf p l = -1 := by
  unfold firstOf
  rw [List.find?_eq_none.2 (fun x hx => by rw [h x hx]; simp)]; rfl
theorem common_no {t : List Lime.Nd} {a b : Int} (h : both t a b = false) : commonR t a b = -1 := by
  unfold commonR
  refine firstOf_none fun x hx => ?_
  unfold aboveR
  rw [decide_eq_false_iff_not]
  intro hm
  obtain ⟨h1, _, h2, _⟩ := aboveR_isN hx
  obtain ⟨_, _, h3, _⟩ := aboveR_isN hm
  rw [both_iff.2 ⟨h1, h2, h3⟩] at h; cases h
theorem before_eq {t : List Lime.Nd} (M : May t) {a b : Int} (ha : isN t a = true) (hb : isN t b = true) : Lime.beforeR t a b = rbefore t a b := by
  have hm := Lime.May.iff.2 M
  unfold Lime.beforeR rbefore
  by_cases hab : a = b
  · subst hab
    rw [if_neg (by simp)]
    simp
  · rw [if_pos ⟨by simp [hm, ha, hb], hab⟩, scan_place hab _ ((mem_list_top M ha ha).2 rfl)]
theorem above_may {t : List Lime.Nd} (M : May t) {a b : Int} (hb : isN t b = true) : aboveR t a b = decide (a ∈ upsP t b) := by
  unfold aboveR
  rw [show Lime.upsR t b = upsP t b from if_pos ⟨Lime.May.iff.2 M, hb⟩]
theorem listR_may {t : List Lime.Nd} (M : May t) {a : Int} (ha : isN t a = true) : Lime.listR t a = listT t a := if_pos ⟨Lime.May.iff.2 M, ha⟩
theorem upsR_may {t : List Lime.Nd} (M : May t) {a : Int} (ha : isN t a = true) : Lime.upsR t a = upsP t a := if_pos ⟨Lime.May.iff.2 M, ha⟩
theorem topR_may {t : List Lime.Nd} (M : May t) {a : Int} (ha : isN t a = true) : Lime.topR t a = topT t a := if_pos ⟨Lime.May.iff.2 M, ha⟩

theorem OrderTells_ok (l : List S38) (a b : Int) : ∃ k, limelightlaw03_OrderTells.f k l a b = some true := by
  refine Ev.rounds ?_
  unfold limelightlaw03_OrderTells.f
  simp only [limelightref01_Small.f, limelightref01_Ints.f, both_f, Option.bind_some]
  refine Ev.ite (fun hs => ?_) (fun _ => live_some)
  simp only [List_f hs, Up_f hs, Top_f hs, Before_f hs, Option.bind_some]
  refine Ev.ite (fun hb => ?_) (fun hb => ?_)
  · obtain ⟨h1, ha, hb⟩ := both_iff.1 hb
    have M := Lime.May.of h1
    refine Ev.bind (rup_ev M hb) ?_
    refine Ev.bind (rlist M ha) ?_
    refine Ev.yes (by rw [listR_may M ha]; simp) ?_
    refine Ev.yes (by rw [upsR_may M hb]; simp) ?_
    refine Ev.bind (rtop_ev M ha) ?_
    refine Ev.yes (topR_may M ha) ?_
    refine Ev.bind (above_ev hs a b) ?_
    refine Ev.bind (in_ev _ _ (by have := M.upsP_le hb; have := M.len2; omega)) ?_
    refine Ev.yes (by rw [above_may M hb]; simp) ?_
    refine Ev.bind (rbefore_ev M ha b) ?_
    refine Ev.yes (by rw [before_eq M ha hb]; simp) ?_
    refine Ev.bind (common_ev hs a b) ?_
    refine Ev.bind (rcommon_ev M ha hb) ?_
    exact Ev.yes rfl live_some
  · have hb' : both (tr l) a b = false := by simpa using hb
    refine Ev.bind (above_ev hs a b) ?_
    refine Ev.no (by rw [above_no hb']; simp) ?_
    refine Ev.no ?_ ?_
    · unfold Lime.beforeR
      rw [if_neg (by rintro ⟨h, _⟩; rw [show both (tr l) a b = true from h] at hb'; cases hb')]; simp
    · refine Ev.bind (common_ev hs a b) ?_
      refine Ev.yes (common_no hb') ?_
      refine Ev.ite (fun _ => live_some) (fun h => ?_)
      have h2 : ¬ (mayT (tr l) = true ∧ isN (tr l) a = true) := fun h3 => h (both_iff.2 ⟨h3.1, h3.2, h3.2⟩)
      refine Ev.yes (by rw [show Lime.listR (tr l) a = [] from if_neg h2]; rfl) ?_
      refine Ev.yes (by rw [upsR_no h2]; rfl) ?_
      exact Ev.yes (if_neg h2) live_some
end Go.Proofs.Ytiekphenmbigeaa.P
