/- Plain law: the statement ChainSides. No conditions. -/
import Derived.Test.YtbbmdpmpbggmgaaE15
import Derived.Test.YtbbmdpmpbggmgaaPx6
namespace Go.Proofs.Ytbbmdpmpbggmgaa.P
open Go.RowKit Go.Proofs.YtbbmdpmpbggmgaaW.PrintWords Go.Proofs.YtbbmdpmpbggmgaaW.PrintLast Go.Proofs.YtbbmdpmpbggmgaaW.PrintMore
open Go.Proofs.Lime (May listT topT upsP parN isN nd mayT dep upsT upN)
set_option linter.unusedVariables false
set_option linter.unusedSimpArgs false
/-- One that leaves. -/
theorem out_ev (a b : Int) (ls : List S37) (want : Int) (i : Nat) (e : S37) (hl : ls.length < 1000) (hi : i < ls.length) (he : ls[i] = e) (h0 : e.f0 ≠ 0) (h2 : e.f0 ≠ 2) (ht : e.f1 = a) (ha : a ≠ 0) (hr : e.f2 ≠ 0) (hc : e.f4 = false) (hm : e.f5 = true)
    (next : Ev (fun k => limelightlaw15_ChainSides.l0 k a b ls want false ((i + 1 : Nat) : Int)) true) : Ev (fun k => limelightlaw15_ChainSides.l0 k a b ls want false (i : Int)) true := by
  have hrd : rd_T37 ls (i : Int) = e := by
    simp only [rd_T37, Int.toNat_natCast, List.getD_eq_getElem?_getD, List.getElem?_eq_getElem hi, Option.getD_some]; exact he
  refine Ev.step (fun k => by rw [limelightlaw15_ChainSides.l0]) ?_
  rw [hrd]
  refine Ev.yes (by omega) (Ev.yes (by omega) (Ev.no h0 ?_))
  rw [show (e.f0 == 2) = false by simpa using h2]
  refine Ev.step (fun k => by rw [limelightlaw15_ChainSides.j3]) ?_
  refine Ev.no (by simp) ?_
  refine Ev.step (fun k => by rw [limelightlaw15_ChainSides.j4]) ?_
  refine Ev.no (by simp) (Ev.no (by simp) (Ev.no (by rw [ht]; exact ha) (Ev.no hr (Ev.no (by rw [hc]; simp) (Ev.yes hm (Ev.no (by simp) (Ev.yes ht ?_)))))))
  rw [w1 (by omega)]
  exact next
/-- One that comes. -/
theorem in_ev15 (a b : Int) (ls : List S37) (want : Int) (came : Bool) (i : Nat) (e : S37) (hl : ls.length < 1000) (hi : i < ls.length) (he : ls[i] = e) (h02 : e.f0 = 0 ∨ e.f0 = 2) (ht : e.f1 = b) (hb : b ≠ 0) (hr : e.f2 ≠ 0) (hc : e.f4 = false) (hm : e.f5 = true)
    (next : Ev (fun k => limelightlaw15_ChainSides.l0 k a b ls want true ((i + 1 : Nat) : Int)) true) : Ev (fun k => limelightlaw15_ChainSides.l0 k a b ls want came (i : Int)) true := by
  have hrd : rd_T37 ls (i : Int) = e := by
    simp only [rd_T37, Int.toNat_natCast, List.getD_eq_getElem?_getD, List.getElem?_eq_getElem hi, Option.getD_some]; exact he
  have h3 : Ev (fun k => limelightlaw15_ChainSides.j3 k a b ls want came (i : Int) true e.f0 e.f1 e.f2 e.f3 e.f4 e.f5) true := by
    have h4 : Ev (fun k => limelightlaw15_ChainSides.j4 k a b ls want came (i : Int) true false e.f0 e.f1 e.f2 e.f3 e.f4 e.f5) true := by
      refine Ev.step (fun k => by rw [limelightlaw15_ChainSides.j4]) ?_
      refine Ev.no (by simp) ?_
      have tail : Ev (fun k => if e.f1 = 0 then none else (if e.f2 = 0 then none else (if e.f4 = true then none else (if e.f5 = true then (if e.f1 = b then (limelightlaw15_ChainSides.l0 k a b ls want true (wrap64 ((i : Int) + 1))) else none) else none)))) true := by
        refine Ev.no (by rw [ht]; exact hb) (Ev.no hr (Ev.no (by rw [hc]; simp) (Ev.yes hm (Ev.yes ht ?_))))
        rw [w1 (by omega)]
        exact next
      simpa using tail
    refine Ev.step (fun k => by rw [limelightlaw15_ChainSides.j3]) ?_
    exact Ev.ite (fun _ => by simpa using h4) (fun _ => h4)
  refine Ev.step (fun k => by rw [limelightlaw15_ChainSides.l0]) ?_
  rw [hrd]
  refine Ev.yes (by omega) (Ev.yes (by omega) ?_)
  refine Ev.ite (fun _ => h3) (fun h => ?_)
  rw [show (e.f0 == 2) = true by simpa using h02.resolve_left h]
  exact h3
theorem end_ev (a b : Int) (ls : List S37) (want : Int) (came : Bool) (hw : (ls.length : Int) = want) : Ev (fun k => limelightlaw15_ChainSides.l0 k a b ls want came (ls.length : Int)) true := by
  refine Ev.step (fun k => by rw [limelightlaw15_ChainSides.l0]) ?_
  exact Ev.no (by omega) (Ev.yes hw live_some)
theorem relV_ne (n : Int) : Lime.relV n ≠ 0 := by unfold Lime.relV; split <;> omega
theorem ChainSides_ok (l : List S40) (a b : Int) : ∃ k, limelightlaw15_ChainSides.f k l a b = some true := by
  refine Ev.rounds ?_
  have hlive : Ev (fun k => limelightlaw15_ChainSides.j0 k l a b true) true := by
    refine Ev.step (fun k => by rw [limelightlaw15_ChainSides.j0]) ?_
    exact Ev.yes rfl live_some
  unfold limelightlaw15_ChainSides.f
  simp only [limelightref01_Small.f, both_f, Option.bind_some]
  refine Ev.ite (fun hs => ?_) (fun _ => hlive)
  cases hb : both (tr l) a b with
  | false => exact hlive
  | true =>
    refine Ev.step (fun k => by rw [limelightlaw15_ChainSides.j0]) ?_
    refine Ev.no (by simp) ?_
    simp only [Events_f hs, Option.bind_some]
    rw [show Lime.evR (tr l) a b = Lime.evT a b from if_pos hb]
    have hj : ∀ want : Int, Ev (fun k => limelightlaw15_ChainSides.l0 k a b ((Lime.evT a b).map ev2) want false 0) true → Ev (fun k => limelightlaw15_ChainSides.j1 k a b ((Lime.evT a b).map ev2) want) true := fun want h => by
      refine Ev.step (fun k => by rw [limelightlaw15_ChainSides.j1]) ?_
      exact h
    refine Ev.ite (fun e => hj _ ?_) (fun e => ?_)
    · rw [show Lime.evT a b = [] from if_pos e]
      exact end_ev a b [] 0 false rfl
    refine Ev.ite (fun ha => hj _ ?_) (fun ha => ?_)
    · have hb0 : b ≠ 0 := fun h => e (ha.trans h.symm)
      rw [show Lime.evT a b = Lime.pairL 0 2 b a by simp [Lime.evT, e, ha, hb0, Ne.symm hb0]]
      refine in_ev15 a b _ 2 false 0 _ (by simp [Lime.pairL]) (by simp [Lime.pairL]) rfl (.inl rfl) rfl hb0 (relV_ne a) rfl rfl ?_
      refine in_ev15 a b _ 2 true 1 _ (by simp [Lime.pairL]) (by simp [Lime.pairL]) rfl (.inr rfl) rfl hb0 (relV_ne a) rfl rfl ?_
      exact end_ev a b _ 2 true rfl
    refine Ev.ite (fun hb0 => hj _ ?_) (fun hb0 => hj _ ?_)
    · rw [show Lime.evT a b = Lime.pairL 1 3 a b by simp [Lime.evT, e, ha, hb0]]
      refine out_ev a b _ 2 0 _ (by simp [Lime.pairL]) (by simp [Lime.pairL]) rfl (by show (1 : Int) ≠ 0; decide) (by show (1 : Int) ≠ 2; decide) rfl ha (relV_ne b) rfl rfl ?_
      refine out_ev a b _ 2 1 _ (by simp [Lime.pairL]) (by simp [Lime.pairL]) rfl (by show (3 : Int) ≠ 0; decide) (by show (3 : Int) ≠ 2; decide) rfl ha (relV_ne b) rfl rfl ?_
      exact end_ev a b _ 2 false rfl
    · rw [show Lime.evT a b = Lime.pairL 1 3 a b ++ Lime.pairL 0 2 b a by simp [Lime.evT, e, ha, hb0]]
      refine out_ev a b _ 4 0 _ (by simp [Lime.pairL]) (by simp [Lime.pairL]) rfl (by show (1 : Int) ≠ 0; decide) (by show (1 : Int) ≠ 2; decide) rfl ha (relV_ne b) rfl rfl ?_
      refine out_ev a b _ 4 1 _ (by simp [Lime.pairL]) (by simp [Lime.pairL]) rfl (by show (3 : Int) ≠ 0; decide) (by show (3 : Int) ≠ 2; decide) rfl ha (relV_ne b) rfl rfl ?_
      refine in_ev15 a b _ 4 false 2 _ (by simp [Lime.pairL]) (by simp [Lime.pairL]) rfl (.inl rfl) rfl hb0 (relV_ne a) rfl rfl ?_
      refine in_ev15 a b _ 4 true 3 _ (by simp [Lime.pairL]) (by simp [Lime.pairL]) rfl (.inr rfl) rfl hb0 (relV_ne a) rfl rfl ?_
      exact end_ev a b _ 4 true rfl
end Go.Proofs.Ytbbmdpmpbggmgaa.P
