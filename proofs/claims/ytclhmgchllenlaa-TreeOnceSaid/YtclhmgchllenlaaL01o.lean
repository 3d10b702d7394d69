/- Plain law: TreeOnce. No conditions. -/
import Derived.Test.YtclhmgchllenlaaE01
import Derived.Test.YtclhmgchllenlaaMay
import Derived.Test.YtclhmgchllenlaaPx11
namespace Go.Proofs.Ytclhmgchllenlaa.P
open Go.RowKit Go.Proofs.YtclhmgchllenlaaW.PrintWords Go.Proofs.YtclhmgchllenlaaW.PrintLast Go.Proofs.YtclhmgchllenlaaW.PrintMore
open Go.Proofs.Lime (May parN isN nd mayT)
set_option linter.unusedVariables false
set_option linter.unusedSimpArgs false
theorem kid_count {t : List Lime.Nd} (M : May t) {n j : Int} (hn : isN t n = true) (hj : isN t j = true) : (nd t j).kids.count n = if parN t n = j then 1 else 0 := by
  by_cases h : n ∈ (nd t j).kids
  · obtain ⟨_, h2, h3, _⟩ := M.kid hj h
    rw [h2, if_pos h3]
  · rw [List.count_eq_zero.2 h, if_neg]
    intro e
    have hne : parN t n ≠ -1 := by rw [e]; exact M.ne1 hj
    have := (M.par_mem hn hne).2
    rw [e] at this
    exact h this
theorem root_iff {t : List Lime.Nd} (M : May t) {n j : Int} (hn : isN t n = true) (hj : isN t j = true) : (nd t j).root = n ↔ ((nd t n).kind = 3 ∧ (nd t n).host = j) := by
  constructor
  · intro h
    obtain ⟨_, _, h3, h4⟩ := M.root hj h (M.ne1 hn)
    exact ⟨h3, h4⟩
  · rintro ⟨h1, h2⟩
    obtain ⟨_, _, _, _, h5⟩ := M.sh3 hn h1
    rw [h2] at h5
    exact h5
/-- How often n is a kid, or a shadow, of the first k. -/
def cP (t : List Lime.Nd) (n : Int) : Nat → Nat
  | 0 => 0
  | k + 1 => cP t n k + (nd t k).kids.count n
def cH (t : List Lime.Nd) (n : Int) : Nat → Nat
  | 0 => 0
  | k + 1 => cH t n k + (if (nd t k).root = n then 1 else 0)
theorem cP_eq {t : List Lime.Nd} (M : May t) {n : Int} (hn : isN t n = true) : ∀ k, k ≤ t.length → cP t n k = if 0 ≤ parN t n ∧ parN t n < k then 1 else 0 := by
  intro k
  induction k with
  | zero => intro _; rw [cP, if_neg (by omega)]
  | succ k ih =>
    intro hk
    rw [cP, ih (by omega), kid_count M hn (Lime.isN_of (by omega))]
    by_cases h : parN t n = (k : Int)
    · rw [if_neg (by omega), if_pos h, if_pos (by omega)]
    · rw [if_neg h]
      by_cases h2 : 0 ≤ parN t n ∧ parN t n < (k : Int)
      · rw [if_pos h2, if_pos (by omega)]
      · rw [if_neg h2, if_neg (by omega)]
theorem cH_eq {t : List Lime.Nd} (M : May t) {n : Int} (hn : isN t n = true) : ∀ k, k ≤ t.length → cH t n k = if (nd t n).kind = 3 ∧ (0 ≤ (nd t n).host ∧ (nd t n).host < k) then 1 else 0 := by
  intro k
  induction k with
  | zero => intro _; rw [cH, if_neg (by omega)]
  | succ k ih =>
    intro hk
    rw [cH, ih (by omega)]
    have hr := root_iff M hn (Lime.isN_of (show k < t.length by omega))
    by_cases h : (nd t (k : Int)).root = n
    · obtain ⟨h1, h2⟩ := hr.1 h
      rw [if_neg (by omega), if_pos h, if_pos (by omega)]
    · rw [if_neg h]
      have h' : ¬ ((nd t n).kind = 3 ∧ (nd t n).host = (k : Int)) := fun e => h (hr.2 e)
      by_cases h2 : (nd t n).kind = 3 ∧ (0 ≤ (nd t n).host ∧ (nd t n).host < (k : Int))
      · rw [if_pos h2, if_pos (by omega)]
      · rw [if_neg h2, if_neg (by omega)]
section
variable {l : List S49} (hb : Bnd l)
include hb
theorem once_l2 {n : Int} {P H j : Nat} (hP : P ≤ 1000000000) (hj : j < l.length) {H2 : Nat} (hH : H2 = H + (if l[j].f5 = n then 1 else 0)) (hHb : H ≤ 1000000000) (hk : Ev (fun k => limelightlaw01_TreeOnce.l1 k l n ((P + l[j].f3.count n : Nat) : Int) (H2 : Int) ((j + 1 : Nat) : Int)) true) :
    ∀ d i : Nat, i + d = l[j].f3.length → Ev (fun k => limelightlaw01_TreeOnce.l2 k l n ((P + (l[j].f3.take i).count n : Nat) : Int) (H : Int) (j : Int) (i : Int)) true := by
  have h3 := (hb.all _ (List.getElem_mem hj)).1
  have hl := hb.len
  intro d
  induction d with
  | zero =>
    intro i hi
    refine Ev.step (fun k => by rw [limelightlaw01_TreeOnce.l2]) ?_
    refine Ev.yes (by omega) (Ev.yes (by omega) ?_)
    rw [rdS hj]
    refine Ev.no (by omega) ?_
    rw [List.take_of_length_le (by omega)]
    by_cases hr : l[j].f5 = n
    · refine Ev.yes hr ?_
      rw [if_pos hr] at hH
      rw [w1 (by omega), w1 (by omega), ← hH]
      exact hk
    · refine Ev.no hr ?_
      rw [if_neg hr] at hH
      rw [w1 (by omega)]
      have : H2 = H := hH
      rw [this] at hk
      exact hk
  | succ d ih =>
    intro i hi
    have hil : i < l[j].f3.length := by omega
    have hc := List.count_le_length (a := n) (l := l[j].f3.take i)
    rw [List.length_take] at hc
    refine Ev.step (fun k => by rw [limelightlaw01_TreeOnce.l2]) ?_
    refine Ev.yes (by omega) (Ev.yes (by omega) ?_)
    rw [rdS hj]
    refine Ev.yes (by omega) (Ev.yes (by omega) ?_)
    rw [rd_nat hil]
    have hnext := ih (i + 1) (by omega)
    rw [List.take_succ_eq_append_getElem hil, List.count_append] at hnext
    by_cases hx : l[j].f3[i] = n
    · refine Ev.yes hx ?_
      rw [w1 (by omega), w1 (by omega)]
      rw [hx, List.count_singleton_self, ← Nat.add_assoc] at hnext
      exact hnext
    · refine Ev.no hx ?_
      rw [w1 (by omega)]
      rw [List.count_singleton, if_neg (by simpa using hx), Nat.add_zero] at hnext
      exact hnext
theorem once_l1 (hmy : mayT (tr l) = true) {n : Nat} (hn : n < l.length) (hk : Ev (fun k => limelightlaw01_TreeOnce.l0 k l ((n + 1 : Nat) : Int)) true) :
    ∀ d j : Nat, j + d = l.length → Ev (fun k => limelightlaw01_TreeOnce.l1 k l (n : Int) (cP (tr l) n j : Int) (cH (tr l) n j : Int) (j : Int)) true := by
  have hl := hb.len
  have M := May.of hmy
  have hN : isN (tr l) (n : Int) = true := isN_of' hn
  have hP1 : ∀ j, j ≤ l.length → cP (tr l) n j ≤ 1 := fun j hj => by rw [cP_eq M hN j (by rw [tr_length]; exact hj)]; split <;> omega
  have hH1 : ∀ j, j ≤ l.length → cH (tr l) n j ≤ 1 := fun j hj => by rw [cH_eq M hN j (by rw [tr_length]; exact hj)]; split <;> omega
  intro d
  induction d with
  | zero =>
    intro j hj
    obtain rfl : j = l.length := by omega
    refine Ev.step (fun k => by rw [limelightlaw01_TreeOnce.l1]) ?_
    refine Ev.no (by omega) (Ev.yes (by omega) (Ev.yes (by omega) ?_))
    rw [rd_parent, rd_kind]
    have e1 := cP_eq M hN l.length (by rw [tr_length]; exact Nat.le_refl _)
    have e2 := cH_eq M hN l.length (by rw [tr_length]; exact Nat.le_refl _)
    have hp := M.par hN
    have hpar : (nd (tr l) (n : Int)).parent = -1 ∧ cP (tr l) n l.length = 0 ∨ (nd (tr l) (n : Int)).parent ≠ -1 ∧ cP (tr l) n l.length = 1 := by
      rcases hp with h | ⟨h, _⟩
      · left; exact ⟨h, by rw [e1, if_neg]; unfold parN at *; omega⟩
      · right
        have h2 := isN_lt h
        refine ⟨fun e => ?_, by rw [e1, if_pos h2]⟩
        have : parN (tr l) n = -1 := e
        omega
    have hkind : (nd (tr l) (n : Int)).kind = 3 ∧ cH (tr l) n l.length = 1 ∨ (nd (tr l) (n : Int)).kind ≠ 3 ∧ cH (tr l) n l.length = 0 := by
      by_cases h3 : (nd (tr l) (n : Int)).kind = 3
      · left
        have h4 := isN_lt (M.sh3 hN h3).2.2.1
        exact ⟨h3, by rw [e2, if_pos ⟨h3, h4⟩]⟩
      · right
        exact ⟨h3, by rw [e2, if_neg (fun e => h3 e.1)]⟩
    refine Ev.no ?_ (Ev.no ?_ (Ev.no ?_ (Ev.no ?_ ?_)))
    · rcases hpar with ⟨h1, h2⟩ | ⟨h1, h2⟩
      · rw [h1, h2]; simp
      · rw [h2]; simp [h1]
    · rcases hpar with ⟨_, h2⟩ | ⟨_, h2⟩ <;> rw [h2] <;> omega
    · rcases hkind with ⟨h1, h2⟩ | ⟨h1, h2⟩
      · rw [h1, h2]; simp
      · rw [h2]; simp [h1]
    · rcases hkind with ⟨_, h2⟩ | ⟨_, h2⟩ <;> rw [h2] <;> omega
    · rw [w1 (by omega)]; exact hk
  | succ d ih =>
    intro j hj
    have hjl : j < l.length := by omega
    refine Ev.step (fun k => by rw [limelightlaw01_TreeOnce.l1]) ?_
    refine Ev.yes (by omega) ?_
    have hnext := ih (j + 1) (by omega)
    rw [cP] at hnext
    have e3 : (nd (tr l) (j : Int)).kids = l[j].f3 := by rw [← rd_kids, rdS hjl]
    have e5 : (nd (tr l) (j : Int)).root = l[j].f5 := by rw [← rd_root, rdS hjl]
    rw [e3] at hnext
    have := once_l2 hb (n := (n : Int)) (P := cP (tr l) n j) (H := cH (tr l) n j) (H2 := cH (tr l) n (j + 1)) (by have := hP1 j (by omega); omega) hjl (by rw [cH, e5]) (by have := hH1 j (by omega); omega) hnext l[j].f3.length 0 (by omega)
    simpa using this
theorem once_l0 (hmy : mayT (tr l) = true) : ∀ d n : Nat, n + d = l.length → Ev (fun k => limelightlaw01_TreeOnce.l0 k l (n : Int)) true := by
  have hl := hb.len
  intro d
  induction d with
  | zero =>
    intro n hn
    refine Ev.step (fun k => by rw [limelightlaw01_TreeOnce.l0]) ?_
    exact Ev.no (by omega) live_some
  | succ d ih =>
    intro n hn
    refine Ev.step (fun k => by rw [limelightlaw01_TreeOnce.l0]) ?_
    refine Ev.yes (by omega) ?_
    exact once_l1 hb hmy (by omega) (ih (n + 1) (by omega)) l.length 0 (by omega)
end
theorem TreeOnce_ok (l : List S49) : ∃ k, limelightlaw01_TreeOnce.f k l = some true := by
  refine Ev.rounds ?_
  unfold limelightlaw01_TreeOnce.f
  have hj : Ev (fun k => limelightlaw01_TreeOnce.j0 k l true) true := by
    refine Ev.step (fun k => by rw [limelightlaw01_TreeOnce.j0]) ?_
    exact Ev.yes rfl live_some
  show Ev (fun k => (some (Lime.smallT (tr l))).bind fun t376 => _) true
  simp only [Option.bind_some]
  cases hs : Lime.smallT (tr l) with
  | false => exact Ev.no (by simp) hj
  | true =>
    refine Ev.yes rfl ?_
    unfold tree_Check.f
    rw [if_pos hs]
    simp only [Option.bind_some]
    cases hm : mayT (tr l) with
    | false => rw [if_neg (by simp)]; exact hj
    | true =>
      rw [if_pos rfl]
      refine Ev.step (fun k => by rw [limelightlaw01_TreeOnce.j0]) ?_
      refine Ev.no (by simp) ?_
      exact once_l0 (Bnd.small hs) hm l.length 0 (by omega)
end Go.Proofs.Ytclhmgchllenlaa.P
