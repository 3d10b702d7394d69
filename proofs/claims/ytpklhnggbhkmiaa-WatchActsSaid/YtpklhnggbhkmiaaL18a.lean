/- Plain law: the statement WatchActs. No conditions. -/
import Derived.Test.YtpklhnggbhkmiaaE18
import Derived.Test.YtpklhnggbhkmiaaPx2
namespace Go.Proofs.Ytpklhnggbhkmiaa.P
open Go.RowKit Go.Proofs.YtpklhnggbhkmiaaW.PrintWords Go.Proofs.YtpklhnggbhkmiaaW.PrintLast Go.Proofs.YtpklhnggbhkmiaaW.PrintMore
open Go.Proofs.Lime (okG openG dropG closeL closeA actA outG okG_iff)
set_option linter.unusedVariables false
set_option linter.unusedSimpArgs false
/-- What is held between two rounds. -/
structure ActSt (i : Nat) (acts : Nat) (op : Bool) (G : List (List Int)) (a : Int) (x : Bool) : Prop where mk ::
  acts_le : acts ≤ i
  a1 : 1 ≤ a
  a2 : a ≤ acts + 1
  nx : x = true → op = true ∨ acts = 0
  gl : G.length ≤ acts + 1
  b : bd (i + 1) G
theorem watchActs_l (l : List Int) (hl : l.length ≤ 60) : ∀ d i : Nat, i + d = l.length → ∀ (acts : Nat) (op : Bool) (G : List (List Int)) (a : Int) (x : Bool), ActSt i acts op G a x → Ev (fun k => limelightlaw18_WatchActs.l0 k l acts op i G a x) true := by
  intro d
  induction d with
  | zero =>
    intro i hi acts op G a x _
    refine Ev.step (fun k => by rw [limelightlaw18_WatchActs.l0]) ?_
    exact Ev.no (by omega) live_some
  | succ d ih =>
    intro i hi acts op G a x H
    obtain ⟨h1, h2, h3, h4, h5, h6⟩ := H
    have hlt : i < l.length := by omega
    have hok := h6.ok (by omega)
    refine Ev.step (fun k => by rw [limelightlaw18_WatchActs.l0]) ?_
    refine Ev.yes (by omega) (Ev.yes (by omega) ?_)
    rw [rd_nat hlt, w1 (by omega), w1 (by omega)]
    have hA : watch_Act.f G a x = some (G, actA a x, false) := if_pos hok
    have hO : watch_Open.f G a x l[i] = some (openG G a l[i], a, true) := if_pos hok
    simp only [hA, hO, Option.bind_some]
    have ha : actA a x = if x = true then a + 1 else a := by
      unfold Lime.actA
      cases x with
      | true => rw [if_pos ⟨rfl, by omega⟩, if_pos rfl, wid (by omega) (by omega)]
      | false => simp
    refine Ev.ite (fun hneg => ?_) (fun hpos => ?_)
    · refine Ev.ite (fun ho => ?_) (fun ho => Ev.ite (fun h0 => ?_) (fun h0 => ?_))
      · refine ih (i + 1) (by omega) (acts + 1) false G _ false ⟨by omega, ?_, ?_, fun h => (by cases h), by omega, h6.more (by omega)⟩
        · rw [ha]; split <;> omega
        · rw [ha]; split <;> (push_cast; omega)
      · refine ih (i + 1) (by omega) (acts + 1) false G _ false ⟨by omega, ?_, ?_, fun h => (by cases h), by omega, h6.more (by omega)⟩
        · rw [ha]; split <;> omega
        · rw [ha]; split <;> (push_cast; omega)
      · have hx : x = false := by
          cases x with
          | false => rfl
          | true => rcases h4 rfl with h | h
                    · exact absurd h ho
                    · exact absurd (by omega) h0
        refine ih (i + 1) (by omega) acts false G _ false ⟨by omega, ?_, ?_, fun h => (by cases h), by omega, h6.more (by omega)⟩
        · rw [ha, hx]; simpa using h2
        · rw [ha, hx]; simpa using h3
    · have hol := open_len G a l[i]
      obtain ⟨g, hg, hc⟩ := close_open G a l[i]
      have hb := h6.opened a l[i]
      have hol2 : (openG G a l[i]).length ≤ acts + 1 := by
        rw [hol]; split <;> omega
      have hol1 : 1 ≤ (openG G a l[i]).length := by
        rw [hol]; split <;> omega
      generalize openG G a l[i] = G' at hol hg hc hb hol1 hol2
      have hC : watch_Close.f G' a true = some (G', closeA a, true, closeL G') := if_pos (hb.ok (by omega))
      have j1 : Ev (fun k => limelightlaw18_WatchActs.j1 k l acts true i false G' a true) true := by
        refine Ev.step (fun k => by rw [limelightlaw18_WatchActs.j1]) ?_
        refine Ev.no (by simp) ?_
        simp only [hC, Option.bind_some, hc]
        have hlast : G'.length - 1 < G'.length := by omega
        have hrl : rd_L1 G' (wrap64 ((G'.length : Int) - 1)) = g ++ [l[i]] := by
          rw [wid (by omega) (by omega), show (G'.length : Int) - 1 = ((G'.length - 1 : Nat) : Int) by omega, rd_L1, ← hg]; rfl
        refine Ev.no (by simp; omega) (Ev.yes (by simp) (Ev.yes (by omega) (Ev.yes (by omega) (Ev.yes ?_ (Ev.yes ?_ (Ev.yes ?_ (Ev.yes ?_ ?_)))))))
        · rw [rd_nat hlt]; rfl
        · rw [wid (by omega) (by omega)]; omega
        · rw [wid (by omega) (by omega)]; omega
        · rw [hrl]; simp
        · rw [w1 (by omega)]
          exact ih (i + 1) (by omega) acts true G' a true ⟨by omega, h2, h3, fun _ => .inl rfl, hol2, hb.more (by omega)⟩
      refine Ev.no (by omega) ?_
      rw [show decide ((G'.length : Int) < 1) = false by simp; omega]
      exact j1
theorem WatchActs_ok (l : List Int) : ∃ k, limelightlaw18_WatchActs.f k l = some true := by
  refine Ev.rounds ?_
  unfold limelightlaw18_WatchActs.f
  refine Ev.ite (fun _ => live_some) (fun hl => ?_)
  have hN : watch_New.f = some (([] : List (List Int)), 1, true) := rfl
  simp only [hN, Option.bind_some]
  exact watchActs_l l (by omega) l.length 0 (Nat.zero_add _) 0 false [] 1 true ⟨Nat.le_refl _, by omega, by omega, fun _ => .inr rfl, by simp, ⟨by simp, fun g hg => by simp at hg⟩⟩
end Go.Proofs.Ytpklhnggbhkmiaa.P
namespace Go.Proofs.Ytpklhnggbhkmiaa.Pure
open Go.Proofs.Ytpklhnggbhkmiaa.P
theorem WatchActs : limelightlaw18_WatchActs.Pure := fun l _ _ _ => WatchActs_ok l
end Go.Proofs.Ytpklhnggbhkmiaa.Pure
