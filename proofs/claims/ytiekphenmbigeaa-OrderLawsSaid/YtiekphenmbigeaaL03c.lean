/- Plain law: OrderLaws. No conditions. -/
import Derived.Test.YtiekphenmbigeaaL03a
import Derived.Test.YtiekphenmbigeaaPx6
namespace Go.Proofs.Ytiekphenmbigeaa.P
open Go.RowKit Go.Proofs.YtiekphenmbigeaaW.PrintWords Go.Proofs.YtiekphenmbigeaaW.PrintLast Go.Proofs.YtiekphenmbigeaaW.PrintMore
open Go.Proofs.Lime (May listT topT upsP parN isN nd mayT dep upsT upN)
set_option linter.unusedVariables false
set_option linter.unusedSimpArgs false
set_option linter.unusedSectionVars false

theorem first_best {t : List Lime.Nd} (M : May t) {p : Int → Bool} {x : Int} (hx : p x = true) {n : Int} (hn : isN t n = true) (h : x ∈ upsP t n) : firstOf p (upsP t n) ∈ upsP t n ∧ p (firstOf p (upsP t n)) = true ∧ dep t x ≤ dep t (firstOf p (upsP t n)) := by
  revert h
  refine M.par_ind (P := fun n => isN t n = true → x ∈ upsP t n → firstOf p (upsP t n) ∈ upsP t n ∧ p (firstOf p (upsP t n)) = true ∧ dep t x ≤ dep t (firstOf p (upsP t n))) (fun h => absurd rfl (M.ne1 h)) (fun n hn ih _ hm => ?_) n (.inr hn) hn
  have e := M.upsP_step hn
  have hd := M.upsP_dep (.inr hn) hm
  rw [e, firstOf_cons]
  by_cases hp : p n = true
  · rw [if_pos hp]
    exact ⟨List.mem_cons_self, hp, by rcases hd with rfl | h; exact Nat.le_refl _; omega⟩
  · rw [if_neg hp]
    rw [e, List.mem_cons] at hm
    have hm2 := hm.resolve_left (by rintro rfl; exact hp hx)
    have hne : parN t n ≠ -1 := fun e => by rw [e, Lime.upsP_none] at hm2; simp at hm2
    obtain ⟨h1, h2, h3⟩ := ih ((M.parN_or hn).resolve_left hne) hm2
    exact ⟨List.mem_cons_of_mem _ h1, h2, h3⟩
section
variable {t : List Lime.Nd} (M : May t)
include M
theorem bef_iff {a b : Int} (ha : isN t a = true) (hb : isN t b = true) : rbefore t a b = true ↔ topT t b = topT t a ∧ plc (listT t (topT t a)) a < plc (listT t (topT t a)) b := by
  unfold rbefore
  rw [Bool.and_eq_true, decide_eq_true_iff, decide_eq_true_iff, mem_list_top M ha hb]
theorem above_before {a b : Int} (hb : isN t b = true) (h : a ∈ upsP t b) (hne : a ≠ b) : rbefore t a b = true := by
  have ha := M.upsP_isN (.inr hb) h
  have hT := top_above M hb h
  rw [bef_iff M ha hb]
  refine ⟨hT.symm, ?_⟩
  rw [hT]
  have htN := Lime.topT_isN M hb
  have key : ∀ c, isN t c = true → topT t c = topT t b → a ∈ upsP t c → a ≠ c → plc (listT t (topT t b)) a < plc (listT t (topT t b)) c := by
    intro c hc
    refine M.par_ind (P := fun c => isN t c = true → topT t c = topT t b → a ∈ upsP t c → a ≠ c → plc (listT t (topT t b)) a < plc (listT t (topT t b)) c) (fun h => absurd rfl (M.ne1 h)) (fun c hc ih _ hT2 hm hne => ?_) c (.inr hc) hc
    rw [M.upsP_step hc, List.mem_cons] at hm
    have hm2 := hm.resolve_left hne
    have hp : parN t c ≠ -1 := fun e => by rw [e, Lime.upsP_none] at hm2; simp at hm2
    have hpN := (M.parN_or hc).resolve_left hp
    have hct : c ≠ topT t b := by
      intro e
      have := top_par M hb
      rw [← e] at this
      exact hp this
    have h1 := (parent_place M _ (topT t b) c htN (Nat.lt_add_of_pos_left (by rw [M.dep_step htN]; omega)) ((mem_list_top M hb hc).2 hT2) hct).2
    by_cases hap : a = parN t c
    · rw [hap]; exact h1
    · have h2 := ih hpN (by rw [← hT2, top_step M hc, if_neg hp]) hm2 hap
      omega
  exact key b hb rfl h hne
theorem same_iff {a b : Int} (ha : isN t a = true) (hb : isN t b = true) : topT t a = topT t b ↔ a = b ∨ rbefore t a b = true ∨ rbefore t b a = true := by
  rw [bef_iff M ha hb, bef_iff M hb ha]
  constructor
  · intro h
    by_cases hab : a = b
    · exact .inl hab
    · refine .inr ?_
      rw [h]
      have hma : a ∈ listT t (topT t b) := (mem_list_top M hb ha).2 h
      have : plc (listT t (topT t b)) a ≠ plc (listT t (topT t b)) b := fun e => hab (plc_inj hma e)
      rcases Int.lt_or_gt_of_ne this with h1 | h1
      · exact .inl ⟨rfl, h1⟩
      · exact .inr ⟨rfl, h1⟩
  · rintro (rfl | ⟨h, _⟩ | ⟨h, _⟩)
    · rfl
    · exact h.symm
    · exact h
theorem common_may {a b : Int} (ha : isN t a = true) (hb : isN t b = true) : commonR t a b = firstOf (fun n => decide (n ∈ upsP t b)) (upsP t a) := by
  unfold commonR
  rw [upsR_may M ha, show (fun n => aboveR t n b) = fun n => decide (n ∈ upsP t b) from funext fun n => above_may M hb]
theorem common_spec {a b : Int} (ha : isN t a = true) (hb : isN t b = true) : (topT t a = topT t b ∧ commonR t a b ∈ upsP t a ∧ commonR t a b ∈ upsP t b ∧ ∀ x, x ∈ upsP t a → x ∈ upsP t b → dep t x ≤ dep t (commonR t a b)) ∨ (topT t a ≠ topT t b ∧ commonR t a b = -1) := by
  rw [common_may M ha hb]
  by_cases h : topT t a = topT t b
  · refine .inl ⟨h, ?_⟩
    have key : ∀ x, x ∈ upsP t a → x ∈ upsP t b → _ := fun x h1 h2 => first_best M (p := fun n => decide (n ∈ upsP t b)) (x := x) (by simpa using h2) ha h1
    obtain ⟨h1, h2, _⟩ := key (topT t a) (top_mem M ha) (h ▸ top_mem M hb)
    exact ⟨h1, by simpa using h2, fun x h3 h4 => (key x h3 h4).2.2⟩
  · refine .inr ⟨h, firstOf_none fun x hx => ?_⟩
    rw [decide_eq_false_iff_not]
    intro hx2
    exact h ((top_above M ha hx).symm.trans (top_above M hb hx2))
theorem common_sym {a b : Int} (ha : isN t a = true) (hb : isN t b = true) : commonR t a b = commonR t b a := by
  rcases common_spec M ha hb with ⟨h1, h2, h3, h4⟩ | ⟨h1, h2⟩
  · rcases common_spec M hb ha with ⟨g1, g2, g3, g4⟩ | ⟨g1, _⟩
    · exact M.upsP_depth (.inr ha) h2 g3 (Nat.le_antisymm (g4 _ h3 h2) (h4 _ g3 g2))
    · exact absurd h1.symm g1
  · rcases common_spec M hb ha with ⟨g1, _⟩ | ⟨_, g2⟩
    · exact absurd g1.symm h1
    · rw [h2, g2]
end
theorem OrderLaws_ok (l : List S38) (a b c : Int) : ∃ k, limelightlaw03_OrderLaws.f k l a b c = some true := by
  refine Ev.rounds ?_
  unfold limelightlaw03_OrderLaws.f
  simp only [limelightref01_Small.f, both_f, Option.bind_some]
  have hlive : Ev (fun k => limelightlaw03_OrderLaws.j0 k l a b c true) true := by
    refine Ev.step (fun k => by rw [limelightlaw03_OrderLaws.j0]) ?_
    exact Ev.yes rfl live_some
  refine Ev.ite (fun hs => ?_) (fun _ => live_some)
  refine Ev.ite (fun hb1 => ?_) (fun _ => hlive)
  cases hb2 : both (tr l) b c with
  | false => exact hlive
  | true =>
    obtain ⟨h1, ha, hb⟩ := both_iff.1 hb1
    obtain ⟨_, _, hc⟩ := both_iff.1 hb2
    have M := Lime.May.of h1
    refine Ev.step (fun k => by rw [limelightlaw03_OrderLaws.j0]) ?_
    refine Ev.no (by simp) ?_
    simp only [Top_f hs, topR_may M ha, topR_may M hb, Before_f hs, before_eq M ha hb, before_eq M hb ha, Option.bind_some]
    have hanti : rbefore (tr l) a b = true → rbefore (tr l) b a = false := by
      intro h
      rw [← Bool.not_eq_true]
      intro h'
      rw [bef_iff M ha hb] at h
      rw [bef_iff M hb ha, h.1] at h'
      omega
    have hsame := same_iff M ha hb
    have j4 : ∀ same, same = (topT (tr l) a == topT (tr l) b) → Ev (fun k => limelightlaw03_OrderLaws.j4 k l a b same false) true := by
      rintro same rfl
      refine Ev.step (fun k => by rw [limelightlaw03_OrderLaws.j4]) ?_
      refine Ev.no (by simp) ?_
      refine Ev.bind (common_ev hs a b) ?_
      have hspec := common_spec M ha hb
      have hge : commonR (tr l) a b ≥ 0 ↔ topT (tr l) a = topT (tr l) b := by
        rcases hspec with ⟨g1, g2, _⟩ | ⟨g1, g2⟩
        · have := Lime.isN_iff.1 (M.upsP_isN (.inr ha) g2)
          exact ⟨fun _ => g1, fun _ => this.1⟩
        · rw [g2]; exact ⟨fun h => by omega, fun h => absurd h g1⟩
      refine Ev.yes (by simp [hge]; rfl) ?_
      refine Ev.bind (common_ev hs b a) ?_
      refine Ev.yes (common_sym M ha hb) ?_
      refine Ev.ite (fun _ => live_some) (fun hk => ?_)
      rcases hspec with ⟨g1, g2, g3, _⟩ | ⟨g1, g2⟩
      · refine Ev.bind (above_ev hs _ a) ?_
        refine Ev.yes (by rw [above_may M ha]; simpa using g2) ?_
        refine Ev.bind (above_ev hs _ b) ?_
        exact Ev.yes (by rw [above_may M hb]; simpa using g3) live_some
      · omega
    have j3 : ∀ same, same = (topT (tr l) a == topT (tr l) b) → Ev (fun k => limelightlaw03_OrderLaws.j3 k l a b same false) true := by
      intro same he
      refine Ev.step (fun k => by rw [limelightlaw03_OrderLaws.j3]) ?_
      refine Ev.no (by simp) ?_
      refine Ev.ite (fun _ => j4 same he) (fun hab => ?_)
      refine Ev.bind (above_ev hs a b) ?_
      refine Ev.ite (fun h => ?_) (fun _ => j4 same he)
      rw [above_may M hb] at h
      simp only [Before_f hs, before_eq M ha hb, Option.bind_some]
      rw [above_before M hb (by simpa using h) hab]
      exact j4 same he
    have j2 : ∀ same, same = (topT (tr l) a == topT (tr l) b) → Ev (fun k => limelightlaw03_OrderLaws.j2 k l a b c same false) true := by
      intro same he
      refine Ev.step (fun k => by rw [limelightlaw03_OrderLaws.j2]) ?_
      refine Ev.no (by simp) ?_
      simp only [Before_f hs, before_eq M ha hb, before_eq M hb hc, before_eq M ha hc, Option.bind_some]
      refine Ev.ite (fun h2 => ?_) (fun _ => j3 same he)
      refine Ev.ite (fun h3 => ?_) (fun _ => j3 same he)
      rw [show rbefore (tr l) a c = true by
        rw [bef_iff M ha hb] at h2
        rw [bef_iff M hb hc, h2.1] at h3
        rw [bef_iff M ha hc]
        exact ⟨h3.1, by omega⟩]
      exact j3 same he
    have j1 : Ev (fun k => limelightlaw03_OrderLaws.j1 k l a b c (topT (tr l) a == topT (tr l) b) false) true := by
      refine Ev.step (fun k => by rw [limelightlaw03_OrderLaws.j1]) ?_
      refine Ev.no (by simp) ?_
      simp only [Before_f hs, before_eq M ha hb, before_eq M hb ha, Option.bind_some]
      refine Ev.ite (fun hab => ?_) (fun hab => Ev.ite (fun hab2 => ?_) (fun hab2 => ?_))
      · rw [show ((topT (tr l) a == topT (tr l) b) != true) = false by simp [hab]]
        exact j2 _ rfl
      · rw [show ((topT (tr l) a == topT (tr l) b) != true) = false by simp; exact hsame.2 (.inr (.inl hab2))]
        exact j2 _ rfl
      · rw [show ((topT (tr l) a == topT (tr l) b) != rbefore (tr l) b a) = false by
          cases h : rbefore (tr l) b a with
          | true => simp; exact hsame.2 (.inr (.inr h))
          | false =>
            simp
            intro e
            rcases hsame.1 e with h2 | h2 | h2
            · exact hab h2
            · exact hab2 h2
            · rw [h] at h2; cases h2]
        exact j2 _ rfl
    refine Ev.ite (fun h => ?_) (fun h => j1)
    rw [hanti h]
    exact j1
end Go.Proofs.Ytiekphenmbigeaa.P
