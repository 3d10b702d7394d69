/- Plain law: the statement SlotsNamed. No conditions. -/
import Derived.Test.YtcmcjfiaemchoaaL05
import Derived.Test.YtcmcjfiaemchoaaPx7
namespace Go.Proofs.Ytcmcjfiaemchoaa.P
open Go.RowKit Go.Proofs.YtcmcjfiaemchoaaW.PrintWords Go.Proofs.YtcmcjfiaemchoaaW.PrintLast Go.Proofs.YtcmcjfiaemchoaaW.PrintMore
open Go.Proofs.Lime (May listT topT upsP parN isN nd mayT dep upsT upN hostT slotB slotsT ofT asgT attrT nameT overT)
set_option linter.unusedVariables false
set_option linter.unusedSimpArgs false
set_option linter.unusedSectionVars false

theorem value_ev (x : S35) (h20 : x.f6.length ≤ 20) : Ev (fun k => limelightlaw05_value.f k x.f0 x.f1 x.f2 x.f3 x.f4 x.f5 x.f6) ((Lime.attrOf (x.f6.map at1) 4).getD 0) := by
  have key : ∀ d i : Nat, i + d = x.f6.length → Ev (fun k => limelightlaw05_value.l0 k i x.f0 x.f1 x.f2 x.f3 x.f4 x.f5 x.f6) ((Lime.attrOf ((x.f6.drop i).map at1) 4).getD 0) := by
    intro d
    induction d with
    | zero =>
      intro i hi
      refine Ev.step (fun k => by rw [limelightlaw05_value.l0]) ?_
      refine Ev.no (by omega) (Ev.pure ?_)
      rw [List.drop_eq_nil_of_le (by omega)]; rfl
    | succ d ih =>
      intro i hi
      have hlt : i < x.f6.length := by omega
      refine Ev.step (fun k => by rw [limelightlaw05_value.l0]) ?_
      refine Ev.yes (by omega) (Ev.yes (by omega) ?_)
      rw [rd_attr_at hlt, w1 (by omega), List.drop_eq_getElem_cons hlt, List.map_cons, attrOf_cons]
      by_cases hx : (x.f6[i]).f0 = 4
      · refine Ev.yes hx (Ev.pure ?_)
        rw [if_pos (show (at1 (x.f6[i])).name = 4 from hx)]; rfl
      · refine Ev.no hx ?_
        rw [if_neg (show ¬ (at1 (x.f6[i])).name = 4 from hx)]
        exact ih (i + 1) (by omega)
  have := key _ 0 (Nat.zero_add _)
  rw [List.drop_zero] at this
  exact this
theorem value_nd {l : List S35} (hs : Lime.smallT (tr l) = true) {n : Int} (hn : isN (tr l) n = true) : Ev (fun k => limelightlaw05_value.f k (rd_T35 l n).f0 (rd_T35 l n).f1 (rd_T35 l n).f2 (rd_T35 l n).f3 (rd_T35 l n).f4 (rd_T35 l n).f5 (rd_T35 l n).f6) (nameT (tr l) n) := by
  have := value_ev (rd_T35 l n) (small_attrs hs hn)
  rw [rd_attrs] at this
  exact this
/-- Does one of some attributes have a name? -/
def anyA (name : Int) (r : List Lime.Attr) : Bool := (Lime.attrOf r name).isSome
theorem anyA_cons (name : Int) (a : Lime.Attr) (r : List Lime.Attr) : anyA name (a :: r) = ((a.name == name) || anyA name r) := by
  unfold anyA
  rw [attrOf_cons]
  by_cases h : a.name = name <;> simp [h]
theorem SlotsNamed_ok (l : List S35) (r : Int) : ∃ k, limelightlaw05_SlotsNamed.f k l r = some true := by
  refine Ev.rounds ?_
  have hlive : Ev (fun k => limelightlaw05_SlotsNamed.j0 k l r true) true := by
    refine Ev.step (fun k => by rw [limelightlaw05_SlotsNamed.j0]) ?_
    exact Ev.yes rfl live_some
  unfold limelightlaw05_SlotsNamed.f
  simp only [few_f, both_f, Option.bind_some]
  refine Ev.ite (fun hf => ?_) (fun _ => hlive)
  have hs := few_small hf
  cases hb : both (tr l) r r with
  | false => exact hlive
  | true =>
    obtain ⟨h1, hr, _⟩ := both_iff.1 hb
    have M := Lime.May.of h1
    have hrl := isN_lt hr
    have h20 := small_attrs hs hr
    refine Ev.step (fun k => by rw [limelightlaw05_SlotsNamed.j0]) ?_
    simp only [SlAll_f hs, Option.bind_some, allR_may hs M hr]
    refine Ev.no (by simp) (Ev.yes hrl.1 (Ev.yes hrl.2 ?_))
    rw [rd_kind]
    refine Ev.ite (fun h3 => ?_) (fun h3 => Ev.yes (by rw [if_neg h3]; rfl) live_some)
    rw [if_pos h3]
    have hsl := slots_len hs M r hr
    have fin : ∀ m : Bool, m = (attrT (tr l) r 8).isSome → Ev (fun k => limelightlaw05_SlotsNamed.l1 k l (slotsT (tr l) r) m 0) true := by
      intro m hm
      refine Ev.up0 (L := fun k i => limelightlaw05_SlotsNamed.l1 k l (slotsT (tr l) r) m i) (slotsT (tr l) r).length ?_ ?_
      · refine Ev.step (fun k => by rw [limelightlaw05_SlotsNamed.l1]) ?_
        refine Ev.no (by omega) ?_
        refine Ev.step (fun k => by rw [limelightlaw05_SlotsNamed.j3]) ?_
        exact Ev.no (by simp) live_some
      · intro i hi ih
        have hiN := (M.slot_in hr (List.getElem_mem hi)).1
        have hil := isN_lt hiN
        refine Ev.step (fun k => by rw [limelightlaw05_SlotsNamed.l1]) ?_
        refine Ev.yes (by omega) ?_
        refine Ev.step (fun k => by rw [limelightlaw05_SlotsNamed.j3]) ?_
        refine Ev.ite (fun hm2 => ?_) (fun _ => live_some)
        have hman : (attrT (tr l) r 8).isSome = false := by rw [← hm]; simpa using hm2
        refine Ev.up0 (L := fun k j => limelightlaw05_SlotsNamed.l2 k l (slotsT (tr l) r) m i j) i ?_ ?_
        · refine Ev.step (fun k => by rw [limelightlaw05_SlotsNamed.l2]) ?_
          refine Ev.no (by omega) ?_
          rw [w1 (by omega)]
          exact ih
        · intro j hj ihj
          have hjl : j < (slotsT (tr l) r).length := by omega
          have hjN := (M.slot_in hr (List.getElem_mem hjl)).1
          have hjL := isN_lt hjN
          have next : Ev (fun k => limelightlaw05_SlotsNamed.l2 k l (slotsT (tr l) r) m i (wrap64 ((j : Int) + 1))) true := by
            rw [w1 (by omega)]
            exact ihj
          refine Ev.step (fun k => by rw [limelightlaw05_SlotsNamed.l2]) ?_
          rw [rd_nat hi, rd_nat hjl]
          refine Ev.yes (by omega) (Ev.yes (by omega) (Ev.yes (by omega) (Ev.yes hil.1 (Ev.yes hil.2 (Ev.bind (value_nd hs hiN) ?_)))))
          refine Ev.yes (by omega) (Ev.yes (by omega) (Ev.yes hjL.1 (Ev.yes hjL.2 (Ev.bind (value_nd hs hjN) ?_))))
          refine Ev.ite (fun e => ?_) (fun _ => next)
          simp only [SlAsg_f hs, Option.bind_some, asgR_may hs M hiN, M.asg_named hr h3 hman hi hj e]
          exact Ev.no (by simp) next
    have key : ∀ d i : Nat, i + d = (rd_T35 l r).f6.length → ∀ m : Bool, (m || anyA 8 (((rd_T35 l r).f6.drop i).map at1)) = (attrT (tr l) r 8).isSome → Ev (fun k => limelightlaw05_SlotsNamed.l0 k l r (slotsT (tr l) r) m i) true := by
      intro d
      induction d with
      | zero =>
        intro i hi m hm
        refine Ev.step (fun k => by rw [limelightlaw05_SlotsNamed.l0]) ?_
        refine Ev.yes hrl.1 (Ev.yes hrl.2 (Ev.no (by omega) (fin m ?_)))
        rw [List.drop_eq_nil_of_le (by omega)] at hm
        rw [← hm]; cases m <;> rfl
      | succ d ih =>
        intro i hi m hm
        have hlt : i < (rd_T35 l r).f6.length := by omega
        rw [List.drop_eq_getElem_cons hlt, List.map_cons, anyA_cons] at hm
        refine Ev.step (fun k => by rw [limelightlaw05_SlotsNamed.l0]) ?_
        refine Ev.yes hrl.1 (Ev.yes hrl.2 (Ev.yes (by omega) ?_))
        rw [rd_attr_at hlt, w1 (by omega)]
        cases m with
        | true => exact Ev.yes rfl (ih (i + 1) (by omega) true (by rw [← hm]; rfl))
        | false =>
          refine Ev.no (by simp) (Ev.yes (by omega) (ih (i + 1) (by omega) _ ?_))
          rw [← hm, Bool.false_or]; rfl
    refine key _ 0 (Nat.zero_add _) false ?_
    rw [List.drop_zero, rd_attrs]
    rfl
end Go.Proofs.Ytcmcjfiaemchoaa.P
