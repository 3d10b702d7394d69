/- Plain law: the statement WatchRooms. No conditions. -/
import Derived.Test.YtpklhnggbhkmiaaE18
import Derived.Test.YtpklhnggbhkmiaaPx6
namespace Go.Proofs.Ytpklhnggbhkmiaa.P
open Go.RowKit Go.Proofs.YtpklhnggbhkmiaaW.PrintWords Go.Proofs.YtpklhnggbhkmiaaW.PrintLast Go.Proofs.YtpklhnggbhkmiaaW.PrintMore
open Go.Proofs.Lime (okG openG dropG closeL closeA actA outG okG_iff)
set_option linter.unusedVariables false
set_option linter.unusedSimpArgs false
theorem watchRooms_l (l : List Int) (hl : l.length ≤ 60) : ∀ d i : Nat, i + d = l.length → ∀ (G : List (List Int)) (a : Int) (x : Bool), bd (i + 1) G → 1 ≤ a → a ≤ i + 1 → Ev (fun k => limelightlaw18_WatchRooms.l0 k l i G a x) true := by
  intro d
  induction d with
  | zero =>
    intro i hi G a x _ _ _
    refine Ev.step (fun k => by rw [limelightlaw18_WatchRooms.l0]) ?_
    exact Ev.no (by omega) live_some
  | succ d ih =>
    intro i hi G a x hb h1 h2
    have hlt : i < l.length := by omega
    have hok := hb.ok (by omega)
    refine Ev.step (fun k => by rw [limelightlaw18_WatchRooms.l0]) ?_
    refine Ev.yes (by omega) (Ev.yes (by omega) ?_)
    rw [w1 (by omega)]
    have hA : ∀ (a : Int) (x : Bool), watch_Act.f G a x = some (G, actA a x, false) := fun a x => if_pos hok
    have hO : watch_Open.f G a x i = some (openG G a i, a, true) := if_pos hok
    have hC : watch_Close.f G a x = some (G, closeA a, x, closeL G) := if_pos hok
    simp only [hA, hO, hC, Option.bind_some]
    have ha : actA a x = if x = true then a + 1 else a := by
      unfold Lime.actA
      cases x with
      | true => rw [if_pos ⟨rfl, by omega⟩, if_pos rfl, wid (by omega) (by omega)]
      | false => simp
    have ha2 : actA (actA a x) false = actA a x := by unfold Lime.actA; simp
    refine Ev.ite (fun _ => ?_) (fun _ => Ev.ite (fun _ => ?_) (fun _ => ?_))
    · refine Ev.no ?_ (Ev.no ?_ (Ev.no (by simp) (Ev.yes ha2 ?_)))
      · rw [ha]; split <;> omega
      · rw [ha, wid (by omega) (by omega)]; split <;> omega
      · refine ih (i + 1) (by omega) G _ false (hb.more (by omega)) ?_ ?_
        · rw [ha]; split <;> omega
        · rw [ha]; split <;> (push_cast; omega)
    · have hc : closeA a = mx (wrap64 (a - 1)) 1 := by
        unfold Lime.closeA mx
        rw [wid (x := a - 1) (by omega) (by omega)]
        by_cases h : a < 2
        · rw [if_pos h, if_pos (by omega), wid (by omega) (by omega)]; omega
        · rw [if_neg h, if_neg (by omega), wid (by omega) (by omega)]
      refine Ev.yes hc (Ev.yes (by simp) ?_)
      have hc2 : 1 ≤ closeA a ∧ closeA a ≤ a := by
        rw [hc]; unfold mx; rw [wid (by omega) (by omega)]; split <;> omega
      exact ih (i + 1) (by omega) G _ x (hb.more (by omega)) hc2.1 (by push_cast; omega)
    · have hol := open_len G a i
      have hb2 := hb.opened a i
      have hgl := hb.1
      generalize openG G a i = G' at hol hb2
      have next := ih (i + 1) (by omega) G' a true (hb2.more (by omega)) h1 (by push_cast; omega)
      refine Ev.no ?_ (Ev.no ?_ (Ev.ite (fun hgt => Ev.no ?_ (Ev.yes (by simp) next)) (fun _ => Ev.yes (by simp) next)))
      · rw [hol]; split <;> omega
      · rw [hol, wid (by omega) (by omega)]; split <;> omega
      · rw [hol] at hgt
        unfold mx
        split at hgt
        · rename_i h
          split <;> omega
        · omega
theorem WatchRooms_ok (l : List Int) : ∃ k, limelightlaw18_WatchRooms.f k l = some true := by
  refine Ev.rounds ?_
  unfold limelightlaw18_WatchRooms.f
  refine Ev.ite (fun _ => live_some) (fun hl => ?_)
  have hN : watch_New.f = some (([] : List (List Int)), 1, true) := rfl
  simp only [hN, Option.bind_some]
  exact watchRooms_l l (by omega) l.length 0 (Nat.zero_add _) [] 1 true ⟨by simp, fun g hg => by simp at hg⟩ (by omega) (by omega)
end Go.Proofs.Ytpklhnggbhkmiaa.P
namespace Go.Proofs.Ytpklhnggbhkmiaa.Pure
open Go.Proofs.Ytpklhnggbhkmiaa.P
theorem WatchRooms : limelightlaw18_WatchRooms.Pure := fun l _ _ _ => WatchRooms_ok l
end Go.Proofs.Ytpklhnggbhkmiaa.Pure
