/- Plain law: chains, what is told of a step, and who is active. No conditions. -/
import Derived.Test.YtbbmdpmpbggmgaaE04
import Derived.Test.YtbbmdpmpbggmgaaMH
import Derived.Test.YtbbmdpmpbggmgaaMP
import Derived.Test.YtbbmdpmpbggmgaaPx2
import Derived.Test.YtbbmdpmpbggmgaaPx3
namespace Go.Proofs.Ytbbmdpmpbggmgaa.P
open Go.RowKit Go.Proofs.YtbbmdpmpbggmgaaW.PrintWords Go.Proofs.YtbbmdpmpbggmgaaW.PrintLast Go.Proofs.YtbbmdpmpbggmgaaW.PrintMore
open Go.Proofs.Lime (May listT topT upsP parN isN nd mayT dep upsT upN)
set_option linter.unusedVariables false
set_option linter.unusedSimpArgs false
set_option linter.unusedSectionVars false

theorem live_ev : Ev (fun k => limelightlaw15_live.f k) true := Ev.of limelightlaw15_live.mono (k := 30) (by decide +kernel)
theorem live_some : Ev (fun k => (limelightlaw15_live.f k).bind fun t => some t) true := Ev.bind (f := fun _ t => some t) live_ev (Ev.now _)
theorem rch_f (a : Int) : limelightref15_Chain.f a = some (Lime.chT a) := by
  unfold limelightref15_Chain.f Lime.chT
  split <;> rfl
theorem event_f (x y z : Int) : limelightref15_event.f x y z = some (x, y, Lime.relV z, decide (x ≥ 2), false, true) := by
  unfold limelightref15_event.f Lime.relV
  split <;> rfl
theorem l2_ev (a : Int) (q : List Int) (hq : q.length < 1000) : ∀ (i : Nat), i ≤ q.length → ∀ out : List S37, out.length + 2 * i < 10000 → Ev (fun k => limelightref15_Events.l2 k a out q ((i : Int) - 1)) (out ++ ((q.take i).reverse.flatMap fun y => (Lime.pairL 0 2 y a).map ev2)) := by
  intro i
  induction i with
  | zero =>
    intro _ out _
    refine Ev.step (fun k => by rw [limelightref15_Events.l2]) ?_
    exact Ev.no (by omega) (Ev.pure (by simp))
  | succ i ih =>
    intro hi out ho
    have e : ((i + 1 : Nat) : Int) - 1 = (i : Int) := by omega
    refine Ev.step (fun k => by rw [e, limelightref15_Events.l2]) ?_
    refine Ev.yes (by omega) (Ev.yes (by omega) (Ev.yes (by omega) ?_))
    rw [rd_nat (by omega : i < q.length)]
    simp only [event_f, Option.bind_some]
    refine Ev.yes (by omega) (Ev.yes (by simp only [List.length_append, List.length_singleton]; omega) ?_)
    rw [wid (by omega) (by omega)]
    refine Ev.cast (ih (by omega) _ (by simp only [List.length_append, List.length_singleton]; omega)) ?_
    rw [List.take_succ_eq_append_getElem (by omega : i < q.length), List.reverse_append, List.flatMap_append]
    simp [Lime.pairL, ev2]
theorem l1_ev (a b : Int) (p q : List Int) (hp : p.length < 1000) (hq : q.length < 1000) : ∀ (d i : Nat), i + d = p.length → ∀ out : List S37, out.length + 2 * d < 5000 → Ev (fun k => limelightref15_Events.l1 k a b out p q i) (out ++ ((p.drop i).flatMap fun x => (Lime.pairL 1 3 x b).map ev2) ++ (q.reverse.flatMap fun y => (Lime.pairL 0 2 y a).map ev2)) := by
  intro d
  induction d with
  | zero =>
    intro i hi out ho
    refine Ev.step (fun k => by rw [limelightref15_Events.l1]) ?_
    refine Ev.no (by omega) ?_
    rw [wid (by omega) (by omega)]
    refine Ev.cast (l2_ev a q hq q.length (Nat.le_refl _) out (by omega)) ?_
    rw [List.take_of_length_le (Nat.le_refl _), List.drop_eq_nil_of_le (by omega)]; simp
  | succ d ih =>
    intro i hi out ho
    have hlt : i < p.length := by omega
    refine Ev.step (fun k => by rw [limelightref15_Events.l1]) ?_
    refine Ev.yes (by omega) (Ev.yes (by omega) ?_)
    rw [rd_nat hlt]
    simp only [event_f, Option.bind_some]
    refine Ev.yes (by omega) (Ev.yes (by simp only [List.length_append, List.length_singleton]; omega) ?_)
    rw [w1 (by omega)]
    refine Ev.cast (ih (i + 1) (by omega) _ (by simp only [List.length_append, List.length_singleton]; omega)) ?_
    rw [drop_at hlt, List.flatMap_cons]
    simp [Lime.pairL, ev2]
theorem l0_pop (a b c : Int) {p q : List Int} (hp : p.length < 1000) (hq : q.length < 1000) {r : List S37} (h : Ev (fun k => limelightref15_Events.l0 k a b p q) r) : Ev (fun k => limelightref15_Events.l0 k a b (p ++ [c]) (q ++ [c])) r := by
  have lp : (p ++ [c]).length = p.length + 1 := by simp
  have lq : (q ++ [c]).length = q.length + 1 := by simp
  have rp : rd (p ++ [c]) (p.length : Int) = c := by rw [rd_nat (by omega)]; simp
  have rq : rd (q ++ [c]) (q.length : Int) = c := by rw [rd_nat (by omega)]; simp
  refine Ev.step (fun k => by rw [limelightref15_Events.l0]) ?_
  rw [lp, lq, wm1 (by omega), wm1 (by omega), rp, rq]
  refine Ev.yes (by omega) (Ev.yes (by omega) (Ev.yes (by omega) (Ev.yes (by omega) (Ev.yes (by omega) (Ev.yes (by omega) (Ev.yes rfl (Ev.yes (by omega) (Ev.yes (by omega) ?_))))))))
  simpa using h
theorem j1_ev (a b : Int) (p q : List Int) (hp : p.length < 1000) (hq : q.length < 1000) : Ev (fun k => limelightref15_Events.j1 k a b [] p q) ((p.flatMap fun x => (Lime.pairL 1 3 x b).map ev2) ++ (q.reverse.flatMap fun y => (Lime.pairL 0 2 y a).map ev2)) := by
  refine Ev.step (fun k => by rw [limelightref15_Events.j1]) ?_
  exact l1_ev a b p q hp hq p.length 0 (Nat.zero_add _) [] (by simp; omega)
theorem rev_ev (a b : Int) : Ev (fun k => limelightref15_Events.f k a b) ((Lime.evT a b).map ev2) := by
  simp only [limelightref15_Events.f, rch_f, Option.bind_some]
  by_cases hab : a = b
  · subst hab
    have h0 : Ev (fun k => limelightref15_Events.l0 k a a [] []) ((Lime.evT a a).map ev2) := by
      refine Ev.step (fun k => by rw [limelightref15_Events.l0]) ?_
      refine Ev.no (by simp) ?_
      exact Ev.cast (j1_ev a a [] [] (by simp) (by simp)) (by simp [Lime.evT])
    by_cases ha : a = 0
    · rw [show Lime.chT a = [] ++ [0] from if_pos ha]
      exact l0_pop a a 0 (by simp) (by simp) h0
    · rw [show Lime.chT a = ([] ++ [a]) ++ [0] from if_neg ha]
      exact l0_pop a a 0 (by simp) (by simp) (l0_pop a a a (by simp) (by simp) h0)
  · by_cases ha : a = 0
    · have hb : b ≠ 0 := fun h => hab (ha.trans h.symm)
      rw [show Lime.chT a = [] ++ [0] from if_pos ha, show Lime.chT b = [b] ++ [0] from if_neg hb]
      refine l0_pop a b 0 (by simp) (by simp) ?_
      refine Ev.step (fun k => by rw [limelightref15_Events.l0]) ?_
      refine Ev.no (by simp) ?_
      exact Ev.cast (j1_ev a b [] [b] (by simp) (by simp)) (by simp [Lime.evT, hab, ha, hb, Ne.symm hb])
    · by_cases hb : b = 0
      · rw [show Lime.chT a = [a] ++ [0] from if_neg ha, show Lime.chT b = [] ++ [0] from if_pos hb]
        refine l0_pop a b 0 (by simp) (by simp) ?_
        refine Ev.step (fun k => by rw [limelightref15_Events.l0]) ?_
        refine Ev.yes (by simp) (Ev.no (by simp) ?_)
        exact Ev.cast (j1_ev a b [a] [] (by simp) (by simp)) (by simp [Lime.evT, hab, ha, hb])
      · rw [show Lime.chT a = [a] ++ [0] from if_neg ha, show Lime.chT b = [b] ++ [0] from if_neg hb]
        refine l0_pop a b 0 (by simp) (by simp) ?_
        refine Ev.step (fun k => by rw [limelightref15_Events.l0]) ?_
        have e1 : wrap64 (([a].length : Int) - 1) = 0 := wm1 (i := 0) (by omega)
        have e2 : wrap64 (([b].length : Int) - 1) = 0 := wm1 (i := 0) (by omega)
        rw [e1, e2]
        refine Ev.yes (by simp) (Ev.yes (by simp) (Ev.yes (by omega) (Ev.yes (by simp) (Ev.yes (by omega) (Ev.yes (by simp) (Ev.no hab ?_))))))
        exact Ev.cast (j1_ev a b [a] [b] (by simp) (by simp)) (by simp [Lime.evT, hab, ha, hb, Ne.symm hb])
theorem same_ev (l : List S37) (hl : l.length < 1000000) : Ev (fun k => limelightref15_Same.f k l l) true := by
  refine Ev.yes rfl ?_
  refine Ev.up0 (L := fun k i => limelightref15_Same.l0 k l l i) l.length ?_ ?_
  · refine Ev.step (fun k => by rw [limelightref15_Same.l0]) ?_
    exact Ev.no (by omega) (Ev.now _)
  · intro i hi ih
    refine Ev.step (fun k => by rw [limelightref15_Same.l0]) ?_
    refine Ev.yes (by omega) (Ev.yes (by omega) (Ev.yes (by omega) (Ev.no (by simp) ?_)))
    rw [w1 (by omega)]
    exact ih
theorem evT_len (a b : Int) : (Lime.evT a b).length = if a = b then 0 else if a = 0 ∨ b = 0 then 2 else 4 := by
  unfold Lime.evT
  split
  · rfl
  · rename_i h
    by_cases ha : a = 0 <;> by_cases hb : b = 0
    · exact absurd (ha.trans hb.symm) h
    all_goals simp [ha, hb, Lime.pairL]
/-- Who is active in a root. -/
def actT (t : List Lime.Nd) (f r : Int) : Int :=
  if (nd t r).kind ≠ 0 ∧ (nd t r).kind ≠ 3 then -1 else if Lime.retT t f r ≠ r ∧ topT t (Lime.retT t f r) = r then Lime.retT t f r else if (nd t r).kind = 0 then 0 else -1
section
variable {l : List S40} (hs : Lime.smallT (tr l) = true)
include hs
theorem act_no {f r : Int} (h : both (tr l) f r = false) : Ev (fun k => chain_Active.f k l f r) (-1) := by
  simp only [chain_Active.f, cis_f hs, Option.bind_some]
  exact Ev.no (by rw [show (mayT (tr l) && (isN (tr l) f && isN (tr l) r)) = both (tr l) f r from rfl, h]; simp) (Ev.now _)
theorem act_ev (M : May (tr l)) {f r : Int} (hf : isN (tr l) f = true) (hr : isN (tr l) r = true) : Ev (fun k => chain_Active.f k l f r) (actT (tr l) f r) := by
  have h1 := isN_lt hr
  have hx := M.ret_isN (upsT (tr l) r) f hf
  have hj : ∀ x : Int, Ev (fun k => chain_Active.j0 k l f r x) (if Lime.retT (tr l) f r ≠ r ∧ topT (tr l) (Lime.retT (tr l) f r) = r then Lime.retT (tr l) f r else x) := by
    intro x
    refine Ev.step (fun k => by rw [chain_Active.j0]) ?_
    simp only [Ret_f hs, retR_may M hf hr, Option.bind_some]
    by_cases he : Lime.retT (tr l) f r = r
    · exact Ev.cast (Ev.yes he (Ev.now _)) (if_neg (fun h => h.1 he)).symm
    · refine Ev.no he ?_
      simp only [show order_Top.f l (Lime.retT (tr l) f r) = some (Lime.topR (tr l) (Lime.retT (tr l) f r)) from ifSmall_yes hs, show Lime.topR (tr l) (Lime.retT (tr l) f r) = topT (tr l) (Lime.retT (tr l) f r) from if_pos ⟨Lime.May.iff.2 M, hx⟩, Option.bind_some]
      by_cases ht : topT (tr l) (Lime.retT (tr l) f r) = r
      · exact Ev.cast (Ev.yes ht (Ev.now _)) (if_pos ⟨he, ht⟩).symm
      · exact Ev.cast (Ev.no ht (Ev.now _)) (if_neg (fun h => ht h.2)).symm
  have hk := M.kinds hr
  simp only [chain_Active.f, cis_f hs, Lime.May.iff.2 M, hf, hr, Option.bind_some]
  refine Ev.yes rfl (Ev.yes h1.1 (Ev.yes h1.2 ?_))
  rw [rd_kind]
  unfold actT
  by_cases k0 : (nd (tr l) r).kind = 0
  · rw [if_neg (fun h => h.1 k0), if_pos k0]
    exact Ev.yes k0 (hj 0)
  · refine Ev.no k0 ?_
    by_cases k1 : (nd (tr l) r).kind = 1
    · rw [if_pos ⟨k0, by omega⟩]; exact Ev.yes k1 (Ev.now _)
    · refine Ev.no k1 ?_
      by_cases k2 : (nd (tr l) r).kind = 2
      · rw [if_pos ⟨k0, by omega⟩]; exact Ev.yes k2 (Ev.now _)
      · rw [if_neg (fun h => h.2 (by omega)), if_neg k0]
        exact Ev.no k2 (hj (-1))
end
end Go.Proofs.Ytbbmdpmpbggmgaa.P
