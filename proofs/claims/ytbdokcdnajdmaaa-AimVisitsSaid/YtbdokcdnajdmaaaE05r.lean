/- Plain law: what the document's functions of attributes and slots tell. No conditions. -/
import Derived.Test.YtbdokcdnajdmaaaE05
import Derived.Test.YtbdokcdnajdmaaaER3
import Derived.Test.YtbdokcdnajdmaaaPx4
import Derived.Test.YtbdokcdnajdmaaaPx5
namespace Go.Proofs.Ytbdokcdnajdmaaa.P
open Go.RowKit Go.Proofs.YtbdokcdnajdmaaaW.PrintWords Go.Proofs.YtbdokcdnajdmaaaW.PrintLast Go.Proofs.YtbdokcdnajdmaaaW.PrintMore
open Go.Proofs.Lime (May listT topT upsP parN isN nd mayT dep upsT upN hostT slotB slotsT ofT asgT attrT nameT overT)
set_option linter.unusedVariables false
set_option linter.unusedSimpArgs false
set_option linter.unusedSectionVars false

theorem rget_ev {l : List S53} (hs : Lime.smallT (tr l) = true) {n : Int} (hn : isN (tr l) n = true) (name : Int) : Ev (fun k => limelightref02_Get.f k l n name) ((attrT (tr l) n name).getD 0, (attrT (tr l) n name).isSome) := by
  have h1 := isN_lt hn
  have h20 := small_attrs hs hn
  simp only [limelightref02_Get.f, limelightref01_Is.f, hn, Option.bind_some, if_true]
  have key : ∀ d i : Nat, i + d = (rd_T53 l n).f6.length → Ev (fun k => limelightref02_Get.l0 k l n name i) ((Lime.attrOf (((rd_T53 l n).f6.drop i).map at1) name).getD 0, (Lime.attrOf (((rd_T53 l n).f6.drop i).map at1) name).isSome) := by
    intro d
    induction d with
    | zero =>
      intro i hi
      refine Ev.step (fun k => by rw [limelightref02_Get.l0]) ?_
      refine Ev.yes h1.1 (Ev.yes h1.2 (Ev.no (by omega) (Ev.pure ?_)))
      rw [List.drop_eq_nil_of_le (by omega)]; rfl
    | succ d ih =>
      intro i hi
      have hlt : i < (rd_T53 l n).f6.length := by omega
      refine Ev.step (fun k => by rw [limelightref02_Get.l0]) ?_
      refine Ev.yes h1.1 (Ev.yes h1.2 (Ev.yes (by omega) (Ev.yes (by omega) ?_)))
      rw [rd_attr_at hlt, w1 (by omega), List.drop_eq_getElem_cons hlt, List.map_cons, attrOf_cons]
      by_cases hx : ((rd_T53 l n).f6[i]).f0 = name
      · refine Ev.yes hx (Ev.pure ?_)
        rw [if_pos (show (at1 ((rd_T53 l n).f6[i])).name = name from hx)]; rfl
      · refine Ev.no hx ?_
        rw [if_neg (show ¬ (at1 ((rd_T53 l n).f6[i])).name = name from hx)]
        exact ih (i + 1) (by omega)
  have := key _ 0 (Nat.zero_add _)
  rw [List.drop_zero, rd_attrs] at this
  exact this
theorem rhas_ev {l : List S53} (hs : Lime.smallT (tr l) = true) {n : Int} (hn : isN (tr l) n = true) (name : Int) : Ev (fun k => limelightref02_Has.f k l n name) (attrT (tr l) n name).isSome := by
  have h := Ev.bind (f := fun _ (t : Int × Bool) => some t.2) (rget_ev hs hn name) (Ev.now _)
  exact h
theorem rname_ev {l : List S53} (hs : Lime.smallT (tr l) = true) {n : Int} (hn : isN (tr l) n = true) : Ev (fun k => limelightref05_name.f k l n) (nameT (tr l) n) := by
  have h := Ev.bind (f := fun _ (t : Int × Bool) => some t.1) (rget_ev hs hn 4) (Ev.now _)
  exact h
section
variable {l : List S53} (hs : Lime.smallT (tr l) = true) (M : May (tr l))
include hs M
theorem ris5_ev {n : Int} (hn : isN (tr l) n = true) : Ev (fun k => limelightref05_Is.f k l n) (slotB (tr l) n) := by
  have h1 := isN_lt hn
  have ht := isN_lt (M.topT_isN hn)
  have hk := host_kind M hn
  unfold slotB
  refine Ev.yes h1.1 (Ev.yes h1.2 ?_)
  rw [rd_kind, rd_tag]
  refine Ev.ite (fun k1 => Ev.ite (fun k3 => Ev.bind (rtop_ev M hn) (Ev.yes ht.1 (Ev.yes ht.2 (Ev.pure ?_)))) (fun k3 => Ev.pure (by simp [k3]))) (fun k1 => Ev.pure (by simp [k1]))
  rw [rd_kind]
  simp only [k1, k3, decide_true, Bool.true_and, hk]
  congr 1
theorem rall_ev {r : Int} (hr : isN (tr l) r = true) : Ev (fun k => limelightref05_All.f k l r) (if (nd (tr l) r).kind = 3 then slotsT (tr l) r else []) := by
  have h1 := isN_lt hr
  have h2 := M.listT_le hr
  have h3 := M.len2
  refine Ev.yes h1.1 (Ev.yes h1.2 ?_)
  rw [rd_kind]
  by_cases hk : (nd (tr l) r).kind = 3
  · rw [if_pos hk]
    refine Ev.yes hk (Ev.bind (rlist M hr) ?_)
    have hm : ∀ x ∈ listT (tr l) r, isN (tr l) x = true := fun x hx => ((M.mem_listT hr).1 hx).1
    unfold slotsT
    generalize listT (tr l) r = xs at h2 hm
    have key : ∀ d i : Nat, i + d = xs.length → ∀ acc : List Int, acc.length ≤ i → Ev (fun k => limelightref05_All.l0 k l acc xs i) (acc ++ (xs.drop i).filter (slotB (tr l))) := by
      intro d
      induction d with
      | zero =>
        intro i hi acc ha
        refine Ev.step (fun k => by rw [limelightref05_All.l0]) ?_
        refine Ev.no (by omega) (Ev.pure ?_)
        rw [List.drop_eq_nil_of_le (by omega)]; simp
      | succ d ih =>
        intro i hi acc ha
        have hlt : i < xs.length := by omega
        refine Ev.step (fun k => by rw [limelightref05_All.l0]) ?_
        refine Ev.yes (by omega) (Ev.yes (by omega) ?_)
        rw [rd_nat hlt, w1 (by omega), List.drop_eq_getElem_cons hlt]
        refine Ev.bind (ris5_ev hs M (hm _ (List.getElem_mem hlt))) ?_
        refine Ev.ite (fun h => Ev.yes (by omega) ?_) (fun h => ?_)
        · have := ih (i + 1) (by omega) (acc ++ [xs[i]]) (by simp; omega)
          rw [List.filter_cons_of_pos h]
          rw [List.append_assoc] at this
          exact this
        · rw [List.filter_cons_of_neg h]
          exact ih (i + 1) (by omega) acc (by omega)
    exact key _ 0 (Nat.zero_add _) [] (by simp)
  · rw [if_neg hk]
    exact Ev.no hk (Ev.now _)
theorem fst_some (at_ mine : Int) (t : List Lime.Nd) (xs : List Int) : Lime.fstOf (Lime.fitB t true (some at_) mine) xs = if at_ ∈ xs then at_ else -1 := by
  induction xs with
  | nil => rfl
  | cons x xs ih =>
    rw [Lime.fstOf_cons, ih]
    by_cases h : at_ = x
    · subst h
      simp [Lime.fitB]
    · have : Lime.fitB t true (some at_) mine x = false := by
        rw [Lime.fitB, if_pos rfl]
        exact beq_eq_false_iff_ne.2 fun e => h (Option.some.inj e)
      rw [this]
      simp [h]
theorem fst_none (mine : Int) (t : List Lime.Nd) (xs : List Int) : Lime.fstOf (Lime.fitB t true none mine) xs = -1 := by
  induction xs with
  | nil => rfl
  | cons x xs ih => rw [Lime.fstOf_cons, ih]; rfl
theorem rof_ev {n : Int} (hn : isN (tr l) n = true) : Ev (fun k => limelightref05_Of.f k l n) (ofT (tr l) n) := by
  have h1 := isN_lt hn
  refine Ev.yes h1.1 (Ev.yes h1.2 ?_)
  rw [rd_parent]
  unfold ofT
  by_cases hp : parN (tr l) n = -1
  · refine Ev.yes hp (Ev.pure ?_)
    rw [if_pos (by rw [overT, if_pos hp])]
  · have ho : overT (tr l) n = (nd (tr l) (parN (tr l) n)).root := by rw [overT, if_neg hp]
    have hpN := (M.par_mem hn hp).1
    have h2 := isN_lt hpN
    refine Ev.no hp (Ev.yes h2.1 (Ev.yes h2.2 ?_))
    rw [show (nd (tr l) n).parent = parN (tr l) n from rfl, rd_root, ← ho]
    refine Ev.ite (fun h => Ev.pure (by rw [if_pos h])) (fun h => ?_)
    rw [if_neg h]
    obtain ⟨g1, g2, g3, g4, g5, g6, g7, g8⟩ := M.over_root hn h
    have hl := slots_len hs M _ g5
    have hall := rall_ev hs M g5
    rw [if_pos g6] at hall
    refine Ev.bind hall (Ev.bind (rhas_ev hs g5 8) ?_)
    have hx : ∀ x ∈ slotsT (tr l) (overT (tr l) n), isN (tr l) x = true := fun x hx => (M.slot_in g5 hx).1
    generalize slotsT (tr l) (overT (tr l) n) = xs at hl hx
    refine Ev.ite (fun hm => ?_) (fun hm => ?_)
    · rw [hm]
      refine Ev.bind (rget_ev hs hn 9) ?_
      cases ha : attrT (tr l) n 9 with
      | none => exact Ev.no (by simp) (Ev.pure (by rw [fst_none hs M]))
      | some x =>
        refine Ev.yes rfl (Ev.bind (in_ev _ _ (by omega)) ?_)
        rw [fst_some hs M]
        refine Ev.ite (fun h => Ev.pure ?_) (fun h => Ev.pure ?_)
        · rw [if_pos (by simpa using h)]; rfl
        · rw [if_neg (by simpa using h)]
    · rw [Bool.not_eq_true] at hm
      rw [hm]
      have key : ∀ d i : Nat, i + d = xs.length → Ev (fun k => limelightref05_Of.l0 k l n xs i) (Lime.fstOf (Lime.fitB (tr l) false (attrT (tr l) n 9) (nameT (tr l) n)) (xs.drop i)) := by
        intro d
        induction d with
        | zero =>
          intro i hi
          refine Ev.step (fun k => by rw [limelightref05_Of.l0]) ?_
          refine Ev.no (by omega) (Ev.pure ?_)
          rw [List.drop_eq_nil_of_le (by omega)]; rfl
        | succ d ih =>
          intro i hi
          have hlt : i < xs.length := by omega
          refine Ev.step (fun k => by rw [limelightref05_Of.l0]) ?_
          refine Ev.yes (by omega) (Ev.yes (by omega) ?_)
          rw [rd_nat hlt, w1 (by omega), List.drop_eq_getElem_cons hlt, Lime.fstOf_cons]
          refine Ev.bind (rname_ev hs (hx _ (List.getElem_mem hlt))) (Ev.bind (rname_ev hs hn) ?_)
          refine Ev.ite (fun h => Ev.pure ?_) (fun h => ?_)
          · rw [if_pos (by simp [Lime.fitB, h])]
          · rw [if_neg (by simp [Lime.fitB, h])]
            exact ih (i + 1) (by omega)
      exact key _ 0 (Nat.zero_add _)
end
end Go.Proofs.Ytbdokcdnajdmaaa.P
