/- Plain law: TreeStays. No conditions. -/
import Derived.Test.YtclhmgchllenlaaE01s
import Derived.Test.YtclhmgchllenlaaPres
import Derived.Test.YtclhmgchllenlaaPlcOpen
import Derived.Test.YtclhmgchllenlaaPx9
namespace Go.Proofs.Ytclhmgchllenlaa.P
open Go.RowKit Go.Proofs.YtclhmgchllenlaaW.PrintWords Go.Proofs.YtclhmgchllenlaaW.PrintLast Go.Proofs.YtclhmgchllenlaaW.PrintMore
open Go.Proofs.Lime (isN nd mayT insR rmR mkR atR noNd Nd May)
set_option linter.unusedVariables false
set_option linter.unusedSimpArgs false
set_option linter.unusedSectionVars false
theorem new_may : mayT [Lime.freshN 0 0] = true := by decide +kernel
theorem rdP {l : List S33} {i : Nat} (h : i < l.length) : rd_T33 l (i : Int) = l[i] := by simp [rd_T33, h]
section
variable {l : List S33}
theorem stays_len {i n : Nat} (hi : i < 30) (h : n ≤ i + 2) : ¬ ((n : Int) > wrap64 (wrap64 (1 + (i : Int)) + 1)) := by
  rw [show (1 + (i : Int)) = (i : Int) + 1 by omega, w1 (i := i) (by omega), w1 (i := i + 1) (by omega)]
  omega
theorem stays_step {r : List Nd} (M : May r) {i : Nat} (hi : i < 30) (hr : r.length ≤ i + 2) (hk : Ev (fun k => limelightlaw01_TreeStays.l0 k l (rt r) ((i + 1 : Nat) : Int)) true) :
    Ev (fun k => (limelightref01_May.f (rt r)).bind fun t => (if t = true then (if ((rt r).length : Int) > (wrap64 ((wrap64 (1 + (i : Int))) + 1)) then (none) else (limelightlaw01_TreeStays.l0 k l (rt r) (wrap64 ((i : Int) + 1)))) else (none))) true := by
  have h1 : limelightref01_May.f (rt r) = some true := by rw [limelightref01_May.f, tr_rt, May.iff.2 M]
  refine Ev.bind (Ev.pure h1) ?_
  refine Ev.yes rfl ?_
  refine Ev.no (by rw [rt_length]; exact stays_len hi hr) ?_
  rw [w1 (i := i) (by omega)]
  exact hk
theorem stays_l0 (hl : l.length ≤ 30) : ∀ (d i : Nat) (t : List Nd), i + d = l.length → May t → t.length ≤ i + 1 → Ev (fun k => limelightlaw01_TreeStays.l0 k l (rt t) (i : Int)) true
  | 0, i, t, hi, M, ht => by
    refine Ev.step (fun k => by rw [limelightlaw01_TreeStays.l0]) ?_
    exact Ev.no (by omega) live_some
  | d + 1, i, t, hi, M, ht => by
    have hil : i < l.length := by omega
    have ok := Lime.may_okT M
    refine Ev.step (fun k => by rw [limelightlaw01_TreeStays.l0]) ?_
    refine Ev.yes (by omega) (Ev.yes (by omega) ?_)
    rw [rdP hil]
    have go := fun (r : List Nd) (h : May r ∧ r.length ≤ t.length + 1) => stays_step h.1 (i := i) (by omega) (by have := h.2; omega) (stays_l0 hl d (i + 1) r (by omega) h.1 (by have := h.2; omega))
    by_cases h2 : l[i].f2 = -2
    · refine Ev.yes h2 ?_
      unfold tree_Make.f ifOk
      rw [tr_rt, if_pos ok]
      simp only [Option.bind_some]
      exact go _ (Lime.may_mkR M _ _)
    refine Ev.no h2 ?_
    by_cases h3 : l[i].f2 = -3
    · refine Ev.yes h3 ?_
      unfold tree_Attach.f ifOk
      rw [tr_rt, if_pos ok]
      simp only [Option.bind_some]
      exact go _ (Lime.may_atR M _)
    refine Ev.no h3 ?_
    by_cases h4 : l[i].f2 = -4
    · refine Ev.yes h4 ?_
      unfold tree_Remove.f ifOk
      rw [tr_rt, if_pos ok]
      simp only [Option.bind_some]
      exact go _ (Lime.may_rmR M _)
    refine Ev.no h4 ?_
    unfold limelightlaw01_own.f
    simp only [Option.bind_some]
    unfold tree_Insert.f ifOk
    rw [tr_rt, if_pos ok]
    simp only [Option.bind_some]
    exact go _ (Lime.may_insR M _ _ _)
end
theorem TreeStays_ok (l : List S33) : ∃ k, limelightlaw01_TreeStays.f k l = some true := by
  refine Ev.rounds ?_
  unfold limelightlaw01_TreeStays.f
  by_cases hl : (l.length : Int) > 30
  · exact Ev.yes hl live_some
  · refine Ev.no hl ?_
    unfold tree_New.f
    simp only [Option.bind_some]
    exact stays_l0 (by omega) l.length 0 _ (by omega) (May.iff.1 new_may) (by simp)
def pl3 (p : Lime.PlV) : S33 := ⟨p.parent, p.child, p.before⟩
theorem C_places {S : Nat → Prop} {w : World} {A : Option Addr} {n c : Nat} {xs : List Lime.PlV} (h : Lime.Row Lime.plK S w (.slice A n c) xs) : Kd.C k33 w A n (xs.map pl3) ∧ n ≤ c ∧ n = xs.length :=
  C_of_row (d := k33) pl3 rfl (fun x cs h => by rw [show cs = _ from h]; exact k33_mk w (pl3 x)) h
end Go.Proofs.Ytclhmgchllenlaa.P
