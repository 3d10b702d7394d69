/- Plain law: OrderList, OrderUp, OrderTops. No conditions. -/
import Derived.Test.YtiekphenmbigeaaL03a
import Derived.Test.YtiekphenmbigeaaPx3
import Derived.Test.YtiekphenmbigeaaPx4
import Derived.Test.YtiekphenmbigeaaPx5
namespace Go.Proofs.Ytiekphenmbigeaa.P
open Go.RowKit Go.Proofs.YtiekphenmbigeaaW.PrintWords Go.Proofs.YtiekphenmbigeaaW.PrintLast Go.Proofs.YtiekphenmbigeaaW.PrintMore
open Go.Proofs.Lime (May listT topT upsP parN isN nd mayT dep upsT upN)
set_option linter.unusedVariables false
set_option linter.unusedSimpArgs false
set_option linter.unusedSectionVars false

theorem rd_zero {l : List Int} (h : 0 < l.length) : rd l 0 = l[0] := rd_nat (i := 0) h
theorem nodup_sub : ∀ {l1 l2 : List Int}, l1.Nodup → (∀ x ∈ l1, x ∈ l2) → l1.length ≤ l2.length
  | [], _, _, _ => by simp
  | x :: l1, l2, hd, h => by
    have hx := h x List.mem_cons_self
    have h1 := nodup_sub (l1 := l1) (l2 := l2.erase x) (List.nodup_cons.1 hd).2 (fun y hy => by
      have hne : y ≠ x := by rintro rfl; exact (List.nodup_cons.1 hd).1 hy
      exact (List.mem_erase_of_ne hne).2 (h y (List.mem_cons_of_mem _ hy)))
    have h2 := List.length_erase_of_mem hx
    have h3 : 0 < l2.length := List.length_pos_of_mem hx
    simp only [List.length_cons]
    omega
/-- All nodes below k of which p holds. -/
def those (p : Int → Bool) (k : Nat) : List Int := ((List.range k).map fun i : Nat => (i : Int)).filter p
theorem those_succ (p : Int → Bool) (k : Nat) : (those p (k + 1)).length = (those p k).length + if p k = true then 1 else 0 := by
  unfold those
  rw [List.range_succ, List.map_append, List.filter_append, List.length_append]
  congr 1
  simp only [List.map_cons, List.map_nil, List.filter_cons, List.filter_nil]
  split <;> simp
theorem mem_those {p : Int → Bool} {k : Nat} {x : Int} : x ∈ those p k ↔ (∃ i : Nat, i < k ∧ x = i) ∧ p x = true := by
  unfold those
  rw [List.mem_filter, List.mem_map]
  constructor
  · rintro ⟨⟨i, hi, rfl⟩, h⟩
    exact ⟨⟨i, List.mem_range.1 hi, rfl⟩, h⟩
  · rintro ⟨⟨i, hi, rfl⟩, h⟩
    exact ⟨⟨i, List.mem_range.2 hi, rfl⟩, h⟩
theorem those_nodup (p : Int → Bool) (k : Nat) : (those p k).Nodup := by
  unfold those
  rw [List.nodup_iff_pairwise_ne]
  refine List.Pairwise.filter _ ?_
  rw [List.pairwise_map]
  refine List.Pairwise.imp (fun {a b} h => ?_) (List.nodup_iff_pairwise_ne.1 (List.nodup_range (n := k)))
  intro e; exact h (by omega)
/-- A list that has just those, each once, is as long. -/
theorem those_len {p : Int → Bool} {k : Nat} {l : List Int} (hd : l.Nodup) (h : ∀ x, x ∈ l ↔ (∃ i : Nat, i < k ∧ x = i) ∧ p x = true) : l.length = (those p k).length := by
  have h1 := nodup_sub hd (fun x hx => mem_those.2 ((h x).1 hx))
  have h2 := nodup_sub (those_nodup p k) (fun x hx => (h x).2 (mem_those.1 hx))
  omega
theorem isN_ex {t : List Lime.Nd} {x : Int} : isN t x = true ↔ ∃ i : Nat, i < t.length ∧ x = i := by
  constructor
  · intro h
    obtain ⟨k, h1, h2⟩ := Lime.isN_nat h
    exact ⟨k, h2, h1⟩
  · rintro ⟨k, h1, rfl⟩
    exact Lime.isN_of h1

theorem OrderList_ok (l : List S38) (n : Int) : ∃ k, limelightlaw03_OrderList.f k l n = some true := by
  refine Ev.rounds ?_
  unfold limelightlaw03_OrderList.f
  simp only [limelightref01_Small.f, both_f, Option.bind_some]
  have hlive : Ev (fun k => limelightlaw03_OrderList.j0 k l n true) true := by
    refine Ev.step (fun k => by rw [limelightlaw03_OrderList.j0]) ?_
    exact Ev.yes rfl live_some
  refine Ev.ite (fun hs => ?_) (fun _ => hlive)
  cases hb : both (tr l) n n with
  | false => exact hlive
  | true =>
    obtain ⟨h1, hn, _⟩ := both_iff.1 hb
    have M := Lime.May.of h1
    have h64 := M.len2
    rw [tr_length] at h64
    have hle := M.listT_le hn
    rw [tr_length] at hle
    refine Ev.step (fun k => by rw [limelightlaw03_OrderList.j0]) ?_
    refine Ev.no (by simp) ?_
    simp only [List_f hs, listR_may M hn, Option.bind_some]
    have h0 : listT (tr l) n = n :: (nd (tr l) n).kids.flatMap (listT (tr l)) := M.listT_step hn
    have hlen : 0 < (listT (tr l) n).length := by rw [h0]; simp
    refine Ev.no (by omega) (Ev.yes (by omega) ?_)
    rw [rd_zero hlen, show ((listT (tr l) n)[0] != n) = false by simp [h0]]
    refine Ev.step (fun k => by rw [limelightlaw03_OrderList.j1]) ?_
    refine Ev.no (by simp) ?_
    refine Ev.up (L := fun k i (c : Int) => limelightlaw03_OrderList.l0 k l n (listT (tr l) n) c i) l.length (fun i => ((those (fun x => decide (n ∈ upsP (tr l) x)) i).length : Int)) ?_ ?_ 0 (Nat.zero_le _)
    · refine Ev.step (fun k => by rw [limelightlaw03_OrderList.l0]) ?_
      refine Ev.no (by omega) (Ev.yes ?_ live_some)
      rw [those_len (M.nodup_listT hn) (p := fun x => decide (n ∈ upsP (tr l) x)) (k := l.length)]
      intro x
      rw [M.mem_listT hn, isN_ex, tr_length]; simp
    · intro i hi ih
      have hiN : isN (tr l) (i : Int) = true := isN_of' hi
      have hc := those_succ (fun x => decide (n ∈ upsP (tr l) x)) i
      have hcl : (those (fun x => decide (n ∈ upsP (tr l) x)) i).length ≤ i := by
        refine Nat.le_trans (List.length_filter_le _ _) ?_; simp
      refine Ev.step (fun k => by rw [limelightlaw03_OrderList.l0]) ?_
      refine Ev.yes (by omega) ?_
      refine Ev.bind (above_ev hs n i) ?_
      rw [above_may M hiN]
      by_cases ha : n ∈ upsP (tr l) (i : Int)
      · have hm : (i : Int) ∈ listT (tr l) n := (M.mem_listT hn).2 ⟨hiN, ha⟩
        rw [if_pos (by simpa using ha)] at hc
        refine Ev.yes (by simpa using ha) ?_
        refine Ev.bind (in_ev _ _ (by omega)) ?_
        refine Ev.yes (by simpa using hm) ?_
        rw [w1 (by omega), w1 (by omega), ← hc]
        refine Ev.ite (fun _ => ih) (fun hne => ?_)
        refine Ev.yes (by omega) ?_
        refine Ev.bind (place_ev _ _ (by omega)) ?_
        refine Ev.bind (place_ev _ _ (by omega)) ?_
        refine Ev.no ?_ ih
        rw [rd_parent]
        have := (parent_place M _ n i hn (Nat.lt_add_of_pos_left (by rw [M.dep_step hn]; omega)) hm hne).2
        unfold parN at this
        omega
      · rw [if_neg (by simpa using ha)] at hc
        refine Ev.no (by simpa using ha) ?_
        rw [w1 (by omega)]
        simp only [hc] at ih
        exact ih

theorem OrderUp_ok (l : List S38) (n : Int) : ∃ k, limelightlaw03_OrderUp.f k l n = some true := by
  refine Ev.rounds ?_
  unfold limelightlaw03_OrderUp.f
  simp only [limelightref01_Small.f, both_f, Option.bind_some]
  have hlive : Ev (fun k => limelightlaw03_OrderUp.j0 k l n true) true := by
    refine Ev.step (fun k => by rw [limelightlaw03_OrderUp.j0]) ?_
    exact Ev.yes rfl live_some
  refine Ev.ite (fun hs => ?_) (fun _ => hlive)
  cases hb : both (tr l) n n with
  | false => exact hlive
  | true =>
    obtain ⟨h1, hn, _⟩ := both_iff.1 hb
    have M := Lime.May.of h1
    have h64 := M.len2
    rw [tr_length] at h64
    have hle := M.upsP_le hn
    rw [tr_length] at hle
    have h0 : upsP (tr l) n = n :: upsP (tr l) (parN (tr l) n) := M.upsP_step hn
    have hlen : 0 < (upsP (tr l) n).length := by rw [h0]; simp
    have hlast : (upsP (tr l) n)[(upsP (tr l) n).length - 1] = topT (tr l) n := by
      rw [topT, List.getLastD_eq_getLast?, List.getLast?_eq_getElem?, List.getElem?_eq_getElem (by omega)]; rfl
    have hw : wrap64 (((upsP (tr l) n).length : Int) - 1) = (((upsP (tr l) n).length - 1 : Nat) : Int) := by rw [wid (by omega) (by omega)]; omega
    refine Ev.step (fun k => by rw [limelightlaw03_OrderUp.j0]) ?_
    refine Ev.no (by simp) ?_
    simp only [Up_f hs, Top_f hs, upsR_may M hn, topR_may M hn, Option.bind_some, hw]
    refine Ev.no (by omega) (Ev.yes (by omega) (Ev.yes ?_ (Ev.yes (by omega) (Ev.yes (by omega) ?_))))
    · rw [rd_zero hlen]; simp [h0]
    rw [rd_nat (by omega), hlast, show (topT (tr l) n != topT (tr l) n) = false by simp]
    refine Ev.step (fun k => by rw [limelightlaw03_OrderUp.j1]) ?_
    refine Ev.no (by simp) ?_
    have hall : ∀ i (h : i < (upsP (tr l) n).length), isN (tr l) (upsP (tr l) n)[i] = true := fun i h => M.upsP_isN (.inr hn) (List.getElem_mem h)
    refine Ev.up0 (L := fun k i => limelightlaw03_OrderUp.l0 k l n (upsP (tr l) n) i) (upsP (tr l) n).length ?_ ?_
    · refine Ev.step (fun k => by rw [limelightlaw03_OrderUp.l0]) ?_
      refine Ev.no (by omega) ?_
      refine Ev.up0 (L := fun k i => limelightlaw03_OrderUp.l1 k l n (upsP (tr l) n) i) l.length ?_ ?_
      · refine Ev.step (fun k => by rw [limelightlaw03_OrderUp.l1]) ?_
        have htop := hall ((upsP (tr l) n).length - 1) (by omega)
        rw [hw, rd_nat (by omega)]
        have hx := isN_lt htop
        refine Ev.no (by omega) (Ev.yes (by omega) (Ev.yes (by omega) (Ev.yes hx.1 (Ev.yes hx.2 (Ev.yes ?_ live_some)))))
        rw [rd_parent, hlast]
        exact top_par M hn
      · intro i hi ih
        have hiN : isN (tr l) (i : Int) = true := isN_of' hi
        refine Ev.step (fun k => by rw [limelightlaw03_OrderUp.l1]) ?_
        refine Ev.yes (by omega) ?_
        refine Ev.bind (above_ev hs i n) ?_
        refine Ev.bind (in_ev _ _ (by omega)) ?_
        rw [above_may M hn, w1 (by omega)]
        exact Ev.no (by simp) ih
    · intro i hi ih
      refine Ev.step (fun k => by rw [limelightlaw03_OrderUp.l0]) ?_
      refine Ev.yes (by omega) ?_
      rw [w1 (by omega)]
      refine Ev.ite (fun h0 => ?_) (fun _ => ih)
      obtain ⟨j, rfl⟩ : ∃ j, i = j + 1 := ⟨i - 1, by omega⟩
      have hx := isN_lt (hall j (by omega))
      rw [wm1 (by omega), rd_nat (by omega)]
      refine Ev.yes (by omega) (Ev.yes (by omega) (Ev.yes hx.1 (Ev.yes hx.2 (Ev.yes (by omega) (Ev.yes ?_ ih)))))
      rw [rd_parent, rd_nat hi]
      exact chain_next M hn j hi

theorem few_f (l : List S38) : limelightref01_Few.f l = some (Lime.smallT (tr l) && decide ((l.length : Int) ≤ 30)) := by
  simp only [limelightref01_Few.f, limelightref01_Small.f, Option.bind_some]
  cases Lime.smallT (tr l) <;> simp
theorem OrderTops_ok (l : List S38) (n : Int) : ∃ k, limelightlaw03_OrderTops.f k l n = some true := by
  refine Ev.rounds ?_
  unfold limelightlaw03_OrderTops.f
  simp only [few_f, both_f, Option.bind_some]
  have hlive : Ev (fun k => limelightlaw03_OrderTops.j0 k l n true) true := by
    refine Ev.step (fun k => by rw [limelightlaw03_OrderTops.j0]) ?_
    exact Ev.yes rfl live_some
  refine Ev.ite (fun hs => ?_) (fun _ => hlive)
  replace hs : Lime.smallT (tr l) = true := by simp only [Bool.and_eq_true] at hs; exact hs.1
  cases hb : both (tr l) n n with
  | false => exact hlive
  | true =>
    obtain ⟨h1, hn, _⟩ := both_iff.1 hb
    have M := Lime.May.of h1
    have h64 := M.len2
    rw [tr_length] at h64
    have htN := Lime.topT_isN M hn
    have hle := M.listT_le htN
    rw [tr_length] at hle
    refine Ev.step (fun k => by rw [limelightlaw03_OrderTops.j0]) ?_
    refine Ev.no (by simp) ?_
    simp only [List_f hs, Top_f hs, topR_may M hn, listR_may M htN, Option.bind_some]
    refine Ev.up0 (L := fun k i => limelightlaw03_OrderTops.l0 k l n (listT (tr l) (topT (tr l) n)) i) l.length ?_ ?_
    · refine Ev.step (fun k => by rw [limelightlaw03_OrderTops.l0]) ?_
      exact Ev.no (by omega) live_some
    · intro i hi ih
      have hiN : isN (tr l) (i : Int) = true := isN_of' hi
      refine Ev.step (fun k => by rw [limelightlaw03_OrderTops.l0]) ?_
      refine Ev.yes (by omega) ?_
      refine Ev.bind (in_ev _ _ (by omega)) ?_
      simp only [Top_f hs, topR_may M hn, topR_may M hiN, Before_f hs, Option.bind_some]
      refine Ev.no ?_ ?_
      · have := mem_list_top M hn hiN
        simp [this]; rfl
      · refine Ev.bind (place_ev _ _ (by omega)) ?_
        refine Ev.bind (place_ev _ _ (by omega)) ?_
        rw [w1 (by omega)]
        refine Ev.no ?_ ih
        rw [before_eq M hn hiN]
        unfold rbefore
        have hnm : n ∈ listT (tr l) (topT (tr l) n) := (mem_list_top M hn hn).2 rfl
        by_cases hm : (i : Int) ∈ listT (tr l) (topT (tr l) n)
        · simp [hm]
        · have h1 := plc_none hm
          have h2 := plc_iff.2 hnm
          have h3 : ¬ (plc (listT (tr l) (topT (tr l) n)) i > plc (listT (tr l) (topT (tr l) n)) n) := by omega
          simp only [hm, decide_false, Bool.false_and]
          rw [decide_eq_false h3]; simp
end Go.Proofs.Ytiekphenmbigeaa.P
