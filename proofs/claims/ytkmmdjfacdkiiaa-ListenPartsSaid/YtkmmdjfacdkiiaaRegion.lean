/- Regions that draw their order: operations that only look are taken as early as they can be; each event (a call, a new block) must leave all old memory as it was. No conditions of its own. -/
import Derived.Test.YtkmmdjfacdkiiaaLib
import Derived.OrdersHeld
import Derived.Deep.RegionHeld3
namespace Go.Proofs.Lime
open Go.RowKit
set_option linter.unusedVariables false
set_option linter.unusedSimpArgs false

section
variable {P : Program} {ops : Array Oper} {Q : Exit → Act → World → Prop} {md : Region.Mode}

/-- In state a, in every world that comes of w with all that is old left as it was, o leaves v and does nothing else. -/
def Calm (P : Program) (ops : Array Oper) (o : Oper) (v : Value) (a : Act) (w : World) : Prop :=
  (Region.wanted o (yielded ops a.tmps) = true ∧ ∀ W, Stp w W → (execOp a.eval o).run P W = .ok (.value v) W) ∨
  (Region.wanted o (yielded ops a.tmps) = false ∧ v = undef)
theorem Calm.later {o : Oper} {v : Value} {a : Act} {w w' : World} (h : Calm P ops o v a w) (hs : Stp w w') : Calm P ops o v a w' :=
  h.imp (fun ⟨hw, hv⟩ => ⟨hw, fun W hW => hv W (hs.trans hW)⟩) id
theorem Calm.wpOp {i : Nat} {o : Oper} {v : Value} {a : Act} (hi : ops[i]? = some o) {w : World} (hy : Calm P ops o v a w)
    {K : Act → World → Prop} (h : K (a.put o.dst v) w) : wpOp P ops Q i K a w := by
  unfold Go.wpOp
  simp only [hi]
  rcases hy with ⟨hw, hv⟩ | ⟨hw, rfl⟩
  · simp only [hw, if_true, Oper.wp, hv w (Stp.refl w), Oper.upon]; exact .inl h
  · simp only [hw, Bool.false_eq_true, if_false]; exact h
theorem Calm.of_same {o : Oper} {v : Value} {a a' : Act} {w : World} (hy : Calm P ops o v a w) (he : execOp a'.eval o = execOp a.eval o)
    (hw : Region.wanted o (yielded ops a'.tmps) = Region.wanted o (yielded ops a.tmps)) : Calm P ops o v a' w := by
  unfold Calm at *
  rw [he, hw]
  exact hy

theorem wpOp_calm {j : Nat} {oi oj : Oper} {v : Value} (hj : ops[j]? = some oj) (hap : oi.apart ops oj = true)
    (hsi : ∀ cs b, oi.op ≠ .select cs b) (hsj : ∀ cs b, oj.op ≠ .select cs b)
    (hQ : ∀ c a w, Q (.panic c) (a.put oi.dst v) w → Q (.panic c) a w) {K : Act → World → Prop} {a : Act} {w : World}
    (hy : Calm P ops oi v a w) (h : wpOp P ops Q j (fun a' w' => Stp w w' ∧ K a' w') (a.put oi.dst v) w) :
    wpOp P ops Q j (fun a' w' => Stp w w' ∧ Calm P ops oi v a' w ∧ K (a'.put oi.dst v) w') a w := by
  obtain ⟨h1, h2, h3⟩ := Oper.apart_spec hap
  have keep : ∀ (a : Act), Calm P ops oi v a w → ∀ u, Calm P ops oi v (a.put oj.dst u) w := fun a hy u =>
    hy.of_same (execOp_put oi hsi a oj.dst u h3) (wanted_put oi a oj.dst u h3)
  have keepD : ∀ d, Calm P ops oi v { a with defers := d :: a.defers } w := fun d => hy.of_same rfl rfl
  unfold Go.wpOp at *
  simp only [hj] at *
  rw [wanted_put oj a oi.dst v h1] at h
  split
  · rename_i hw
    simp only [hw, if_true] at h
    rcases h with h | ⟨hasks, hlets⟩
    case inr => exact .inr ⟨by unfold Oper.asks at *; rw [execOp_put oj hsj a oi.dst v h1] at hasks; exact hasks, hlets⟩
    refine .inl ?_
    unfold Oper.wp at *
    rw [execOp_put oj hsj a oi.dst v h1] at h
    generalize (execOp a.eval oj).run P w = r at *
    cases r with
    | ok n w' =>
      cases n <;> simp only [Oper.upon] at h ⊢
      case value u => exact ⟨h.1, keep a hy u, by rw [← Act.put_comm a v u h2]; exact h.2⟩
      case skip => exact ⟨h.1, keep a hy _, by rw [← Act.put_comm a v undef h2]; exact h.2⟩
      case defer d =>
        refine ⟨h.1, (keepD d).of_same (execOp_put oi hsi _ oj.dst undef h3) (wanted_put oi _ oj.dst undef h3), ?_⟩
        rw [← Act.put_comm _ v undef h2, ← Act.put_defers]
        exact h.2
      case enter f args =>
        refine Calls.mono h fun e w'' he => ?_
        cases e with
        | returned u => exact ⟨he.1, keep a hy u, by rw [← Act.put_comm a v u h2]; exact he.2⟩
        | panicked c => exact hQ _ _ _ he
        | outgrown => exact he
      case row row args => exact Rows.mono h fun u w'' he => ⟨he.1, keep a hy u, by rw [← Act.put_comm a v u h2]; exact he.2⟩
    | halt x w' =>
      cases x <;> simp only [Oper.upon] at h ⊢
      case panic u => exact hQ _ _ _ h
  · rename_i hw
    simp only [hw] at h
    exact ⟨h.1, keep a hy _, by rw [← Act.put_comm a v undef h2]; exact h.2⟩

/-- Whatever order is picked from here on, and each operation leaves old memory as it was. -/
def wpAnyR (P : Program) (md : Region.Mode) (ops : Array Oper) (Q : Exit → Act → World → Prop) : Nat → Array Bool → Act → World → Prop
  | 0, listed, a, w => Region.ready md ops listed = [] ∧ Q .normal a w
  | fuel + 1, listed, a, w =>
    (Region.ready md ops listed = [] → Q .normal a w) ∧
    ∀ i ∈ Region.ready md ops listed, wpOp P ops Q i (fun a' w' => Stp w w' ∧ wpAnyR P md ops Q fuel (listed.setIfInBounds i true) a' w') a w
theorem wpAny_of_R : ∀ (fuel : Nat) (listed : Array Bool) (a : Act) (w : World), wpAnyR P md ops Q fuel listed a w → wpAny P md ops Q fuel listed a w
  | 0, _, _, _, h => h
  | fuel + 1, _, _, _, h => ⟨h.1, fun i hi => wpOp_mono (fun a' w' h' => wpAny_of_R fuel _ a' w' h'.2) (h.2 i hi)⟩

theorem wpAnyR_first {i : Nat} {oi : Oper} {v : Value} (hi : ops[i]? = some oi) (hsel : ∀ (j : Nat) (o : Oper) cs b, ops[j]? = some o → o.op ≠ .select cs b)
    (hQ : ∀ c a w, Q (.panic c) (a.put oi.dst v) w → Q (.panic c) a w) :
    ∀ (fuel : Nat) (listed : Array Bool) (a : Act) (w : World),
      (∀ j oj, ops[j]? = some oj → j ≠ i → listed.getD j true = false → (∀ e ∈ oj.after, Region.binds md e = true → e.on ≠ i) → oi.apart ops oj = true) →
      i ∈ Region.ready md ops listed → Calm P ops oi v a w →
      wpAnyR P md ops Q fuel (listed.setIfInBounds i true) (a.put oi.dst v) w → wpAnyR P md ops Q (fuel + 1) listed a w := by
  intro fuel
  induction fuel with
  | zero =>
    intro listed a w _ hr hy H
    refine ⟨fun h => (by rw [h] at hr; cases hr), fun j hj => ?_⟩
    by_cases hji : j = i
    · subst hji; exact hy.wpOp hi ⟨Stp.refl w, H⟩
    · have := ready_mono hj hji
      rw [H.1] at this
      cases this
  | succ fuel ih =>
    intro listed a w hfree hr hy H
    refine ⟨fun h => (by rw [h] at hr; cases hr), fun j hj => ?_⟩
    by_cases hji : j = i
    · subst hji; exact hy.wpOp hi ⟨Stp.refl w, H⟩
    · have h1 := H.2 j (ready_mono hj hji)
      obtain ⟨hjun, oj, hoj, hall⟩ := mem_ready.1 hj
      have hnot : ∀ e ∈ oj.after, Region.binds md e = true → e.on ≠ i := fun e he hb heq => by
        have h1 := hall e he hb
        have h0 := (mem_ready.1 hr).1
        rw [heq] at h1
        rcases Nat.lt_or_ge i listed.size with h' | h'
        · simp [h'] at h0 h1; rw [h0] at h1; cases h1
        · simp [Array.getElem?_eq_none h'] at h1
      have h2 := wpOp_calm hoj (hfree j oj hoj hji hjun hnot) (fun cs b => hsel i oi cs b hi) (fun cs b => hsel j oj cs b hoj) hQ hy h1
      have hfree' : ∀ k ok, ops[k]? = some ok → k ≠ i → (listed.setIfInBounds j true).getD k true = false →
          (∀ e ∈ ok.after, Region.binds md e = true → e.on ≠ i) → oi.apart ops ok = true := fun k ok hk hki hun hno => by
        refine hfree k ok hk hki ?_ hno
        by_cases hjk : j = k
        · subst hjk; exact hjun
        · rw [getD_set_ne true hjk] at hun; exact hun
      refine wpOp_mono (fun a' w' h3 => ⟨h3.1, ih (listed.setIfInBounds j true) a' w' hfree' (ready_mono hr (Ne.symm hji)) (h3.2.1.later h3.1) ?_⟩) h2
      rw [Array.setIfInBounds_comm _ _ hji]
      exact h3.2.2

/-- How a region is walked: what is taken at once; what may come up. -/
inductive Plan where
  | done
  | calm (i : Nat) (p : Plan)
  | alt (i : Nat) (p more : Plan)
  | stop

def Plan.heads : Plan → List Nat
  | .alt i _ m => i :: m.heads
  | _ => []
def Plan.ok (ops : Array Oper) : Plan → Bool → Nat → Array Bool → Bool
  | .done, b, _, l => !b && Region.ready .any ops l == []
  | .calm i p, b, n + 1, l => !b && ((Region.ready .any ops l).contains i && (Region.free .any ops l i && p.ok ops false n (l.setIfInBounds i true)))
  | .alt i p m, b, n + 1, l => (b || Region.ready .any ops l == i :: m.heads) && (p.ok ops false n (l.setIfInBounds i true) && m.ok ops true (n + 1) l)
  | .stop, b, _, _ => b
  | _, _, _, _ => false
def Plan.wp (P : Program) (ops : Array Oper) (Q : Exit → Act → World → Prop) : Plan → Act → World → Prop
  | .done, a, w => Q .normal a w
  | .calm i p, a, w => ∃ o v, ops[i]? = some o ∧ Calm P ops o v a w ∧ p.wp P ops Q (a.put o.dst v) w
  | .alt i p m, a, w => wpOp P ops (NoPanic Q) i (fun a' w' => Stp w w' ∧ p.wp P ops Q a' w') a w ∧ m.wp P ops Q a w
  | .stop, _, _ => True

theorem Plan.sound (hs : Region.noSelect ops = true) : ∀ (p : Plan) (b : Bool) (n : Nat) (l : Array Bool) (a : Act) (w : World), p.ok ops b n l = true → p.wp P ops Q a w →
    (b = false → wpAnyR P .any ops (NoPanic Q) n l a w) ∧ (b = true → ∀ k, n = k + 1 → ∀ i ∈ p.heads, wpOp P ops (NoPanic Q) i (fun a' w' => Stp w w' ∧ wpAnyR P .any ops (NoPanic Q) k (l.setIfInBounds i true) a' w') a w)
  | .done, b, n, l, a, w, ho, hw => by
    cases b with
    | true => simp [Plan.ok] at ho
    | false =>
      have hr : Region.ready .any ops l = [] := by simpa [Plan.ok] using ho
      refine ⟨fun _ => ?_, fun h => (by cases h)⟩
      cases n with
      | zero => exact ⟨hr, hw⟩
      | succ n => exact ⟨fun _ => hw, fun i hi => by rw [hr] at hi; cases hi⟩
  | .calm i p, b, n, l, a, w, ho, hw => by
    cases n with
    | zero => simp [Plan.ok] at ho
    | succ n =>
      cases b with
      | true => simp [Plan.ok] at ho
      | false =>
        simp only [Plan.ok, Bool.not_false, Bool.true_and, Bool.and_eq_true] at ho
        obtain ⟨h1, h2, h3⟩ := ho
        obtain ⟨o, v, hi, hc, hp⟩ := hw
        exact ⟨fun _ => wpAnyR_first hi (Region.noSelect_spec hs) (fun c a w h => h) n l a w (Region.free_spec hi h2) (by simpa using h1) hc ((Plan.sound hs p false n _ _ _ h3 hp).1 rfl), fun h => (by cases h)⟩
  | .alt i p m, b, n, l, a, w, ho, hw => by
    cases n with
    | zero => simp [Plan.ok] at ho
    | succ n =>
      simp only [Plan.ok, Bool.and_eq_true] at ho
      obtain ⟨h1, h2, h3⟩ := ho
      have one := fun (j : Nat) (hj : j ∈ (Plan.alt i p m).heads) => show wpOp P ops (NoPanic Q) j (fun a' w' => Stp w w' ∧ wpAnyR P .any ops (NoPanic Q) n (l.setIfInBounds j true) a' w') a w from by
        rcases List.mem_cons.1 hj with rfl | hj
        · exact wpOp_mono (fun a' w' h => ⟨h.1, (Plan.sound hs p false n _ a' w' h2 h.2).1 rfl⟩) hw.1
        · exact (Plan.sound hs m true (n + 1) l a w h3 hw.2).2 rfl n rfl j hj
      refine ⟨fun hb => ?_, fun _ k hk j hj => by
        obtain rfl : n = k := by omega
        exact one j hj⟩
      subst hb
      have hr : Region.ready .any ops l = i :: m.heads := by simpa using h1
      exact ⟨fun h => (by rw [hr] at h; cases h), fun j hj => one j (by rw [hr] at hj; exact hj)⟩
  | .stop, b, n, l, a, w, ho, hw => by
    cases b with
    | true => exact ⟨fun h => (by cases h), fun _ _ _ j hj => (by cases hj)⟩
    | false => simp [Plan.ok] at ho

/-- A region that draws, by a plan. -/
theorem wp_region_plan (p : Plan) {id : Nat} {a : Act} {w : World} (hm : P.follows .mixedOrders = true) (hs : Region.noSelect ops = true) (hp : p.ok ops false ops.size (Array.replicate ops.size false) = true)
    (h : p.wp P ops Q a w.drew) : (Code.region id ops true).wp P Q a w :=
  wp_region_noPanic (wp_region_any hm (wpAny_of_R _ _ _ _ ((Plan.sound hs p false _ _ a _ hp h).1 rfl)))

variable {a : Act} {w : World} {p m : Plan} {i : Nat} {o : Oper}
theorem plan_done (h : Q .normal a w) : Plan.done.wp P ops Q a w := h
theorem plan_calm {v : Value} (hi : ops[i]? = some o) (hw : Region.wanted o (yielded ops a.tmps) = true) (hv : ∀ W, Stp w W → (execOp a.eval o).run P W = .ok (.value v) W)
    (h : p.wp P ops Q (a.put o.dst v) w) : (Plan.calm i p).wp P ops Q a w := ⟨o, v, hi, .inl ⟨hw, hv⟩, h⟩
theorem plan_calm_skip (hi : ops[i]? = some o) (hw : Region.wanted o (yielded ops a.tmps) = false)
    (h : p.wp P ops Q (a.put o.dst undef) w) : (Plan.calm i p).wp P ops Q a w := ⟨o, undef, hi, .inr ⟨hw, rfl⟩, h⟩
theorem plan_event (hi : ops[i]? = some o) (hw : Region.wanted o (yielded ops a.tmps) = true)
    (h : ∀ K : Act → World → Prop, (∀ a' w', Stp w w' → (Stp w w' → p.wp P ops Q a' w') → K a' w') → Oper.wp P o a w K (NoPanic Q)) (hm : m.wp P ops Q a w) : (Plan.alt i p m).wp P ops Q a w := by
  refine ⟨?_, hm⟩
  unfold Go.wpOp
  simp only [hi, hw, if_true]
  exact .inl (h _ fun a' w' h1 h2 => ⟨h1, h2 h1⟩)
theorem plan_event_skip (hi : ops[i]? = some o) (hw : Region.wanted o (yielded ops a.tmps) = false)
    (h : p.wp P ops Q (a.put o.dst undef) w) (hm : m.wp P ops Q a w) : (Plan.alt i p m).wp P ops Q a w := by
  refine ⟨?_, hm⟩
  unfold Go.wpOp
  simp only [hi, hw, Bool.false_eq_true, if_false]
  exact ⟨Stp.refl w, h⟩
theorem plan_stop : Plan.stop.wp P ops Q a w := trivial
end
end Go.Proofs.Lime
