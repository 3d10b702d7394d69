/- Words for all walks of this seat: how a slice reads (the blocks that it leads to are told), rows of the call's own, and how both live on. No conditions. -/
import Derived.Test.YtkmmdjfacdkiiaaProg
import Derived.Below
import Derived.OwnWalk
import Derived.Laws.MakeOwn
import Derived.Laws.OwnMore
import Derived.Tactics
import Derived.WalkKit
import Derived.KernelRfl
import Derived.RowKit3
import Derived.RowKit
import Derived.Deep.LoopGhost
import Derived.Deep.QuietTactic
import Derived.BigQuiet
import Derived.WideLaws
import Derived.Deep.RegionHeld3
import Derived.Deep.RegionLaw
import Derived.Maps.AppendAt
import Derived.RangeFuncNested
import Derived.RangeFuncBound
import Derived.RangeFuncCalls
import Derived.RangeFuncLeaves
import Derived.OwnWalkIn
import Derived.TacticsInMore
import Derived.LoopNIn
import Derived.LoopIn
import Derived.Shelf.Abstract
import Derived.WalkSpells
import Derived.IntWalk
import Derived.Lib.Hide
namespace Go.Proofs.Lime
open Go.RowKit
set_option linter.unusedVariables false
set_option linter.unusedSimpArgs false

/-- All that lay in w lies as it lay. -/
structure Stp (w w' : World) : Prop where mk :: (out : Below w.heap.size w w')
theorem Stp.refl (w : World) : Stp w w := ⟨Below.refl _ _⟩
theorem Stp.size {w w' : World} (h : Stp w w') : w.heap.size ≤ w'.heap.size := h.out.size
theorem Stp.trans {a b c : World} (h : Stp a b) (k : Stp b c) : Stp a c :=
  ⟨h.out.trans (k.out.mono h.out.size)⟩
theorem Stp.alloc {w w' : World} (h : Stp w w') (o : Obj) : Stp w (w'.alloc o) := ⟨h.out.alloc h.out.size o⟩
theorem Stp.drew {w w' : World} (h : Stp w w') : Stp w w'.drew := ⟨h.out.drew⟩
theorem Stp.of_drew {w w' : World} (h : Stp w.drew w') : Stp w w' := ⟨⟨h.out.os, h.out.tape, h.out.output, h.out.size, h.out.block⟩⟩
theorem Stp.drewN {w w' : World} (h : Stp w w') (n : Nat) : Stp w (w'.drewN n) := ⟨⟨h.out.os, h.out.tape, h.out.output, h.out.size, h.out.block⟩⟩
theorem Stp.setCell {w w' : World} (h : Stp w w') {b o : Nat} (hb : w.heap.size ≤ b) (u : Value) : Stp w (w'.setCell ⟨b, o, none⟩ u) := ⟨h.out.setCell (p := ⟨b, o, none⟩) hb u⟩
theorem Stp.grown {a w w' : World} (h : Stp a w) {row : Option Nat} (hg : w.grownBy w' row) (hr : ∀ k, row = some k → a.heap.size ≤ k) : Stp a w' := ⟨h.out.grown hg h.out.size hr⟩
theorem Stp.block {w w' : World} (h : Stp w w') {k : Nat} (hk : k < w.heap.size) : w'.heap[k]? = w.heap[k]? := h.out.block k hk
theorem Stp.bc {W w1 : World} (h : Stp W w1) : (∀ b o, b < W.heap.size → w1.cell? ⟨b, o, none⟩ = W.cell? ⟨b, o, none⟩) ∧ (∀ b o, b < W.heap.size → w1.frozen? ⟨b, o, none⟩ = W.frozen? ⟨b, o, none⟩) :=
  ⟨fun b o hb => h.out.cell (p := ⟨b, o, none⟩) hb, fun b o hb => h.out.frozen (p := ⟨b, o, none⟩) hb⟩
theorem Stp.cell {w w' : World} (h : Stp w w') {a : Addr} {v : Value} (hc : w.cell? a = some v) : w'.cell? a = some v :=
  (h.out.cell (World.block_lt_of_cell? w a hc)).trans hc

theorem ret_int {k : IntKind} {a b : Int} (h : a = b) : Ending.returned (.int k a) = .returned (.int k b) := by rw [h]

theorem box_cell (w : World) (cs : Array Value) (t : TypeId) (i : Nat) : (w.alloc (.cells cs t)).cell? ⟨w.heap.size, i, none⟩ = cs[i]? := by
  have h : (w.alloc (.cells cs t)).heap[w.heap.size]? = some (.cells cs t (0, 0)) := World.alloc_heap_new w _
  unfold World.cell?
  simp only [h]
  simp
/-- The world with a new block, under a name. -/
theorem box_named (w : World) (cs : Array Value) (t : TypeId) : ∃ w1, w.alloc (.cells cs t) = w1 ∧ Stp w w1 ∧ w1.heap.size = w.heap.size + 1 ∧ ∀ i u, cs[i]? = some u → w1.cell? ⟨w.heap.size, i, none⟩ = some u :=
  ⟨_, rfl, (Stp.refl w).alloc _, by simp, fun i u h => (box_cell w cs t i).trans h⟩

/-- How an element lies in cells; S: the blocks that it leads to. -/
structure Kd (α : Type) where
  sz : Nat
  K : (Nat → Prop) → World → α → List Value → Prop
  len : ∀ {S w x cs}, K S w x cs → cs.length = sz
  one : ∀ {S w x cs}, K S w x cs → ∀ u ∈ cs, u.oneCell' = true
  move : ∀ {S : Nat → Prop} {w w1 : World} {x cs}, (∀ k, S k → w1.heap[k]? = w.heap[k]?) → K S w x cs → K S w1 x cs
  mono : ∀ {S S' : Nat → Prop} {w x cs}, (∀ k, S k → S' k) → K S w x cs → K S' w x cs
  bound : ∀ {S w x cs}, K S w x cs → K (fun k => S k ∧ k < w.heap.size) w x cs

/-- Elements that lead nowhere. -/
def Kd.flat {α : Type} (sz : Nat) (enc : α → List Value) (hl : ∀ x, (enc x).length = sz) (h1 : ∀ x, ∀ u ∈ enc x, u.oneCell' = true) : Kd α where
  sz := sz
  K := fun _ _ x cs => cs = enc x
  len := fun h => by rw [h, hl]
  one := fun h => by rw [h]; exact h1 _
  move := fun _ h => h
  mono := fun _ h => h
  bound := fun h => h

section
variable {α : Type} {d : Kd α} {S S' : Nat → Prop} {w w1 : World} {v : Value} {xs : List α}

/-- A slice reads as xs; all that it leads to lies in S. -/
structure Row (d : Kd α) (S : Nat → Prop) (w : World) (v : Value) (xs : List α) : Prop where mk ::
  form : ∃ A c, v = .slice A xs.length c ∧ xs.length ≤ c ∧ c ≤ 9223372036854775807
  get : ∀ j (hj : j < xs.length), ∃ b o c cs, v = .slice (some ⟨b, o, none⟩) xs.length c ∧ S b ∧ b < w.heap.size ∧ d.K S w xs[j] cs ∧ ∀ i u, cs[i]? = some u → w.cell? ⟨b, o + j * d.sz + i, none⟩ = some u

theorem Row.move (h : Row d S w v xs) (hm : ∀ k, S k → k < w.heap.size → w1.heap[k]? = w.heap[k]?) (hs : w.heap.size ≤ w1.heap.size) : Row d S w1 v xs := by
  refine ⟨h.form, fun j hj => ?_⟩
  obtain ⟨b, o, c, cs, rfl, hS, hb, hk, hc⟩ := h.get j hj
  refine ⟨b, o, c, cs, rfl, hS, by omega, d.mono (fun k hk => hk.1) (d.move (fun k hk => hm k hk.1 hk.2) (d.bound hk)), fun i u hi => ?_⟩
  have := World.cell?_of_block (w := w) (a := ⟨b, o + j * d.sz + i, none⟩) (hm b hS hb)
  rw [this]
  exact hc i u hi
theorem Row.stp (h : Row d S w v xs) (hb : Stp w w1) : Row d S w1 v xs := h.move (fun _ _ hk => hb.block hk) hb.size
theorem Row.mono (h : Row d S w v xs) (hs : ∀ k, S k → S' k) : Row d S' w v xs := by
  refine ⟨h.form, fun j hj => ?_⟩
  obtain ⟨b, o, c, cs, rfl, hS, hb, hk, hc⟩ := h.get j hj
  exact ⟨b, o, c, cs, rfl, hs b hS, hb, d.mono hs hk, hc⟩
theorem Row.slice (h : Row d S w v xs) : ∃ A c, v = .slice A xs.length c := let ⟨A, c, e, _⟩ := h.form; ⟨A, c, e⟩
theorem Row.take {A : Option Addr} {n c : Nat} (h : Row d S w (.slice A n c) xs) (k : Nat) (hk : k ≤ xs.length) : Row d S w (.slice A k c) (xs.take k) := by
  obtain ⟨A', c', e, h1, h2⟩ := h.form
  injection e with e1 e2 e3
  subst e1 e2 e3
  have hl : (xs.take k).length = k := by rw [List.length_take]; omega
  refine ⟨⟨A, c, by rw [hl], by omega, h2⟩, fun j hj => ?_⟩
  rw [hl] at hj
  obtain ⟨b, o, c', cs, e, hS, hb, hK, hc⟩ := h.get j (by omega)
  injection e with e1 e2 e3
  subst e1 e3
  exact ⟨b, o, c, cs, by rw [hl], hS, hb, by simpa using hK, hc⟩
theorem Row.nil (d : Kd α) (S : Nat → Prop) (w : World) : Row d S w (.slice none 0 0) [] := ⟨⟨none, 0, rfl, by simp, by omega⟩, fun j hj => absurd hj (by simp)⟩

/-- The elements one behind the other in a row's cells. -/
def Each (d : Kd α) (S : Nat → Prop) (w : World) (xs : List α) (cells : List Value) : Prop :=
  ∀ j (hj : j < xs.length), ∃ cs, d.K S w xs[j] cs ∧ ∀ i u, cs[i]? = some u → cells[j * d.sz + i]? = some u

/-- A row of the call's own: all that it leads to lies in S; its elements do not lead back to it. -/
structure Own (d : Kd α) (e : TypeId) (S : Nat → Prop) (w : World) (v : Value) (xs : List α) : Prop where mk ::
  blk : ∀ k, v.ownBlock = some k → S k
  row : ∃ inner, w.ownsRow 0 e d.sz v xs.length inner ∧ Each d (fun k => S k ∧ some k ≠ v.ownBlock) w xs inner

theorem Each.move {cells : List Value} (h : Each d S w xs cells) (hm : ∀ k, S k → k < w.heap.size → w1.heap[k]? = w.heap[k]?) : Each d S w1 xs cells := fun j hj => by
  obtain ⟨cs, hk, hc⟩ := h j hj
  exact ⟨cs, d.mono (fun k hk => hk.1) (d.move (fun k hk => hm k hk.1 hk.2) (d.bound hk)), hc⟩
theorem Each.mono {cells : List Value} (h : Each d S w xs cells) (hm : ∀ k, S k → k < w.heap.size → S' k) : Each d S' w xs cells := fun j hj => by
  obtain ⟨cs, hk, hc⟩ := h j hj
  exact ⟨cs, d.mono (fun k hk => hm k hk.1 hk.2) (d.bound hk), hc⟩
theorem own_lt {base : Nat} {e : TypeId} {size n : Nat} {ys : List Value} (h : w.ownsRow base e size v n ys) (k : Nat) (hk : v.ownBlock = some k) : k < w.heap.size := by
  rcases h.2 with ⟨rfl, _⟩ | ⟨g, cap, cur, rfl, hb, hh, _⟩
  · simp [Value.ownBlock] at hk
  · have : g = k := by simpa [Value.ownBlock] using hk
    subst this
    exact (Array.getElem?_eq_some_iff.1 hh).1
theorem own_move {base : Nat} {e : TypeId} {size n : Nat} {ys : List Value} (h : w.ownsRow base e size v n ys) (hm : ∀ k, v.ownBlock = some k → w1.heap[k]? = w.heap[k]?) : w1.ownsRow base e size v n ys := by
  obtain ⟨h1, h2⟩ := h
  refine ⟨h1, ?_⟩
  rcases h2 with h2 | ⟨g, cap, cur, rfl, hg, hh, r⟩
  · exact .inl h2
  · exact .inr ⟨g, cap, cur, rfl, hg, (hm g (by simp [Value.ownBlock])).trans hh, r⟩
theorem Own.move {e : TypeId} (h : Own d e S w v xs) (hm : ∀ k, S k → k < w.heap.size → w1.heap[k]? = w.heap[k]?) : Own d e S w1 v xs := by
  obtain ⟨hb, inner, ho, he⟩ := h
  exact ⟨hb, inner, own_move ho (fun k hk => hm k (hb k hk) (own_lt ho k hk)), he.move (fun k hk hl => hm k hk.1 hl)⟩
theorem Own.stp {e : TypeId} (h : Own d e S w v xs) (hb : Stp w w1) : Own d e S w1 v xs := h.move fun _ _ hk => hb.block hk
/-- What exists alone counts. -/
theorem Own.mono {e : TypeId} (h : Own d e S w v xs) (hm : ∀ k, S k → k < w.heap.size → S' k) : Own d e S' w v xs := by
  obtain ⟨hb, inner, ho, he⟩ := h
  exact ⟨fun k hk => hm k (hb k hk) (own_lt ho k hk), inner, ho, he.mono fun k hk hl => ⟨hm k hk.1 hl, hk.2⟩⟩
theorem Own.nil (d : Kd α) (e : TypeId) (S : Nat → Prop) (w : World) : Own d e S w (.slice none 0 0) [] :=
  ⟨fun k hk => by simp [Value.ownBlock] at hk, [], ⟨by simp, .inl ⟨rfl, rfl⟩⟩, fun j hj => absurd hj (by simp)⟩
theorem Own.reads {e : TypeId} (h : Own d e S w v xs) : Row d S w v xs := by
  obtain ⟨hb, inner, ho, he⟩ := h
  refine ⟨?_, fun j hj => ?_⟩
  · rcases ho.2 with ⟨rfl, h0⟩ | ⟨g, cap, cur, rfl, _, _, h1, h2, _⟩
    · exact ⟨none, 0, by rw [h0], by omega, by omega⟩
    · exact ⟨_, cap, rfl, h1, by simpa [maxLen] using h2⟩
  · obtain ⟨cs, hk, hc⟩ := he j hj
    rcases ho.2 with ⟨rfl, h0⟩ | ⟨g, cap, cur, rfl, _, hh, h1, h2, h3, h4⟩
    · omega
    · refine ⟨g, 0, cap, cs, rfl, hb g (by simp [Value.ownBlock]), (Array.getElem?_eq_some_iff.1 hh).1, d.mono (fun k hk => hk.1) hk, fun i u hi => ?_⟩
      have h5 := hc i u hi
      rw [← h4, List.getElem?_take] at h5
      split at h5
      · rw [Nat.zero_add]
        simp only [World.cell?, hh]
        simpa using h5
      · cases h5

section
variable {P : Program} {ops : Array Oper} {rest : List Oper} {o : Oper} {a : Act} {Q : Exit → Act → World → Prop} {W : World}

theorem Own.grew {e : TypeId} {inner news : List Value} {v1 : Value} {ys : List α} {T : Nat → Prop} (h : Own d e S W v xs) (hin : W.ownsRow 0 e d.sz v xs.length inner ∧ Each d (fun k => S k ∧ some k ≠ v.ownBlock) W xs inner)
    (hn : Each d T W ys news) (hT : ∀ k, T k → k < W.heap.size → S k ∧ some k ≠ v.ownBlock) (hfresh : ∀ k, W.heap.size ≤ k → S k)
    (ho : w1.ownsRow 0 e d.sz v1 (xs ++ ys).length (inner ++ news)) (hg : W.grownBy w1 v.ownBlock) (hat : v1.ownBlock = v.ownBlock ∨ ∃ b, v1.ownBlock = some b ∧ W.heap.size ≤ b) : Own d e S w1 v1 (xs ++ ys) := by
  have hne : ∀ k, k < W.heap.size → some k ≠ v.ownBlock → some k ≠ v1.ownBlock := fun k hk hv e1 => by
    rcases hat with hat | ⟨b, hat, hb⟩
    · exact hv (e1.trans hat)
    · rw [hat] at e1
      injection e1 with e1
      omega
  refine ⟨fun k hk => ?_, _, ho, fun j hj => ?_⟩
  · rcases hat with hat | ⟨b, hat, hb⟩
    · exact h.blk k (hat ▸ hk)
    · rw [hat] at hk
      injection hk with hk
      exact hfresh k (hk ▸ hb)
  · have hil : inner.length = xs.length * d.sz := hin.1.1
    by_cases hx : j < xs.length
    · obtain ⟨cs, hk, hc⟩ := hin.2 j hx
      refine ⟨cs, ?_, fun i u hi => ?_⟩
      · rw [List.getElem_append_left hx]
        exact d.mono (fun k hk => ⟨hk.1.1, hne k hk.2 hk.1.2⟩) (d.move (fun k hk => hg.block k hk.2 hk.1.2) (d.bound hk))
      · have h1 := hc i u hi
        rw [List.getElem?_append_left (List.getElem?_eq_some_iff.1 h1).1]
        exact h1
    · have hj' : j - xs.length < ys.length := by rw [List.length_append] at hj; omega
      obtain ⟨cs, hk, hc⟩ := hn (j - xs.length) hj'
      refine ⟨cs, ?_, fun i u hi => ?_⟩
      · rw [List.getElem_append_right (by omega)]
        exact d.mono (fun k hk => ⟨(hT k hk.1 hk.2).1, hne k hk.2 (hT k hk.1 hk.2).2⟩) (d.move (fun k hk => hg.block k hk.2 (hT k hk.1 hk.2).2) (d.bound hk))
      · have h1 := hc i u hi
        have e1 : (j - xs.length) * d.sz + i = j * d.sz + i - inner.length := by
          rw [hil, Nat.sub_mul]
          have : xs.length * d.sz ≤ j * d.sz := Nat.mul_le_mul_right _ (by omega)
          omega
        have : xs.length * d.sz ≤ j * d.sz := Nat.mul_le_mul_right _ (by omega)
        rw [List.getElem?_append_right (by omega), ← e1]
        exact h1

theorem each_one {T : Nat → Prop} {p : α} {cs : List Value} (hp : d.K T W p cs) : Each d T W [p] cs := fun j hj => by
  obtain rfl : j = 0 := by simpa using hj
  exact ⟨cs, hp, fun i u hi => by simpa using hi⟩

/-- append(v, p): the variadic's box was just laid. Behind 'at_builtin'. -/
theorem wpl_append1 {T : Nat → Prop} (hgd : o.guard = none) (s x : Operand) (t e : TypeId) (z : Value) (bytes : Nat)
    (ho : o.op = .call { callee := .builtin .append, args := #[s, x], argTypes := #[t, t] })
    (ht : P.underlying t = some (.slice e)) (hinfo : (P.info? e).map (fun i => (i.zero, i.size, i.bytes)) = some (some z, d.sz, bytes)) (hz : z.cells.size = d.sz) (hs0 : 0 < d.sz) (hb0 : 0 < bytes)
    (v : Value) (xs : List α) (p : α) (cs : List Value) (hs : a.eval s = v) (hx : a.eval x = .slice (some ⟨W.heap.size, 0, none⟩) 1 1) (hp : d.K T W p cs) (hT : ∀ k, T k → k < W.heap.size → S k ∧ some k ≠ v.ownBlock)
    (HO : Own d e S W v xs) (hfresh : ∀ k, W.heap.size ≤ k → S k) (hl : (xs.length + 1) * bytes ≤ 140737488355328)
    (h : ∀ v1 w1, Own d e S w1 v1 (xs ++ [p]) → W.grownBy w1 v.ownBlock → wpList P ops Q rest (a.put o.dst v1) w1) :
    wpList P ops Q (o :: rest) a (W.alloc (.cells cs.toArray e)) := by
  obtain ⟨i0, hi, hzz⟩ := Option.map_eq_some_iff.1 hinfo
  simp only [Prod.mk.injEq] at hzz
  obtain ⟨hz0, hz1, hz2⟩ := hzz
  obtain ⟨inner, hown, he⟩ := HO.row
  have hlen : xs.length + 1 ≤ 140737488355328 := Nat.le_trans (Nat.le_mul_of_pos_right _ hb0) hl
  have hnew : (W.alloc (.cells cs.toArray e)).heap[W.heap.size]? = some (.cells cs.toArray e (0, 0)) := World.alloc_heap_new W _
  refine wpList_append_own_at (W.alloc (.cells cs.toArray e)) hgd s x t ho 0 e i0 z d.sz bytes ht hi hz0 hz1 hz2 hz hs0 v xs.length inner hs (hown.alloc _) ⟨W.heap.size, 0, none⟩ 1 1 cs hx (by rw [d.len hp]; simp)
    (fun j u hu => by
      have : (⟨W.heap.size, 0, none⟩ : Addr).add j = ⟨W.heap.size, j, none⟩ := by unfold Addr.add; split <;> simp_all
      rw [this]
      simp only [World.cell?, hnew]
      simpa using hu) (d.one hp) (by simp only [maxLen]; omega) hl (by simp) ?_
  intro v1 w1 ho1 hg _ hat
  have hg' : W.grownBy w1 v.ownBlock := World.grownBy.trans (World.grownBy_alloc W _ _) hg
  refine h v1 w1 (HO.grew ⟨hown, he⟩ (each_one hp) hT hfresh (by simpa using ho1) hg' ?_) hg'
  rcases hat with hat | hat
  · exact .inl hat
  · exact .inr ⟨_, hat, by simp⟩

/-- A slice's cells, one behind the other. -/
theorem Row.cells {T : Nat → Prop} {u : Value} {ys : List α} (h : Row d T W u ys) : ∀ m, m ≤ ys.length → ∃ news : List Value, news.length = m * d.sz ∧ Each d T W (ys.take m) news ∧ ∀ b o c, u = .slice (some ⟨b, o, none⟩) ys.length c → ∀ j x, news[j]? = some x → W.cell? ⟨b, o + j, none⟩ = some x := by
  intro m
  induction m with
  | zero => exact fun _ => ⟨[], by simp, fun j hj => absurd hj (by simp), fun _ _ _ _ j x hx => by simp at hx⟩
  | succ m ih =>
    intro hm
    obtain ⟨news, hl, he, hc⟩ := ih (by omega)
    obtain ⟨b, o, c, cs, rfl, hT, hb, hk, hcc⟩ := h.get m (by omega)
    have hcl := d.len hk
    refine ⟨news ++ cs, by rw [List.length_append, hl, hcl, Nat.succ_mul], fun j hj => ?_, fun b' o' c' e j x hx => ?_⟩
    · rw [List.length_take] at hj
      by_cases hjm : j < m
      · obtain ⟨cs', hk', hc'⟩ := he j (by rw [List.length_take]; omega)
        refine ⟨cs', by simpa using hk', fun i x hx => ?_⟩
        have := hc' i x hx
        rw [List.getElem?_append_left (List.getElem?_eq_some_iff.1 this).1]
        exact this
      · obtain rfl : j = m := by omega
        refine ⟨cs, by simpa using hk, fun i x hx => ?_⟩
        rw [List.getElem?_append_right (by omega), hl, Nat.add_sub_cancel_left]
        exact hx
    · injection e with e1 e2 e3
      injection e1 with e1
      injection e1 with e1 e2
      subst e1 e2
      by_cases hjl : j < news.length
      · rw [List.getElem?_append_left hjl] at hx
        exact hc b o c rfl j x hx
      · rw [List.getElem?_append_right (by omega)] at hx
        have := hcc _ x hx
        rw [hl] at this
        rw [show o + j = o + m * d.sz + (j - m * d.sz) by omega]
        exact this

theorem run_append_none {t ty e : TypeId} {i : TypeInfo} (ht : P.underlying t = some (.slice e)) (hi : P.info? e = some i) {v : Value} {n c : Nat} {xs : List Value} (HO : W.ownsRow 0 e i.size v n xs) :
    (Builtin.append_ #[t, t] ty #[v, .slice none 0 c]).run P W = .ok v W := by
  rcases HO.2 with ⟨rfl, hn⟩ | ⟨g, cap, cur, rfl, _, _, hnc, _⟩
  · simp [Builtin.append_, run_underlying ht, sizeOf, typeInfo, hi, Builtin.lenOf, Builtin.firstCells]
  · simp [Builtin.append_, run_underlying ht, sizeOf, typeInfo, hi, Builtin.lenOf, Builtin.firstCells, hnc, storeCells]

/-- append(v, ys...), ys any slice: what the builtin does. -/
theorem run_appendrow {T T' : Nat → Prop} (t ty e : TypeId) (z : Value) (bytes : Nat)
    (ht : P.underlying t = some (.slice e)) (hinfo : (P.info? e).map (fun i => (i.zero, i.size, i.bytes)) = some (some z, d.sz, bytes)) (hz : z.cells.size = d.sz) (hs0 : 0 < d.sz) (hb0 : 0 < bytes)
    (v : Value) (xs : List α) (u : Value) (ys : List α) (HR : Row d T W u ys) (hTT : ∀ x cs, d.K T W x cs → d.K T' W x cs) (hT : ∀ k, T' k → k < W.heap.size → S k ∧ some k ≠ v.ownBlock)
    (HO : Own d e S W v xs) (hfresh : ∀ k, W.heap.size ≤ k → S k) (hl : (xs.length + ys.length) * bytes ≤ 140737488355328) :
    ∃ v1 w1, (Builtin.append_ #[t, t] ty #[v, u]).run P W = .ok v1 w1 ∧ Own d e S w1 v1 (xs ++ ys) ∧ W.grownBy w1 v.ownBlock ∧ (v1.ownBlock = v.ownBlock ∨ v1.ownBlock = some W.heap.size) := by
  obtain ⟨i0, hi, hzz⟩ := Option.map_eq_some_iff.1 hinfo
  simp only [Prod.mk.injEq] at hzz
  obtain ⟨hz0, hz1, hz2⟩ := hzz
  obtain ⟨inner, hown, he⟩ := HO.row
  have hlen : xs.length + ys.length ≤ 140737488355328 := Nat.le_trans (Nat.le_mul_of_pos_right _ hb0) hl
  obtain ⟨A, c, rfl, hc, hc9⟩ := HR.form
  obtain ⟨news, hnl, hne, hnc⟩ := HR.cells ys.length (Nat.le_refl _)
  rw [List.take_of_length_le (Nat.le_refl _)] at hne
  have hne' : Each d T' W ys news := fun j hj => by
    obtain ⟨cs, hk, hcs⟩ := hne j hj
    exact ⟨cs, hTT _ _ hk, hcs⟩
  have h1 : ∀ u ∈ news, u.oneCell' = true := by
    intro u hu
    obtain ⟨j, hj⟩ := List.getElem?_of_mem hu
    have hjl := (List.getElem?_eq_some_iff.1 hj).1
    have hlt : j / d.sz < ys.length := by rw [Nat.div_lt_iff_lt_mul hs0, ← hnl]; exact hjl
    obtain ⟨cs, hk, hcs⟩ := hne _ hlt
    have hcl := d.len hk
    have hm : j % d.sz < cs.length := by rw [hcl]; exact Nat.mod_lt _ hs0
    have h2 := hcs (j % d.sz) _ (List.getElem?_eq_getElem hm)
    rw [Nat.div_add_mod' j d.sz, hj] at h2
    rw [Option.some.inj h2]
    exact d.one hk _ (List.getElem_mem hm)
  rcases A with _ | ad
  · have h0 : ys = [] := by
      cases ys with
      | nil => rfl
      | cons y ys =>
        obtain ⟨b, o, c, cs, e, _⟩ := HR.get 0 (by simp)
        injection e with e
        cases e
    subst h0
    exact ⟨v, W, run_append_none (P := P) (W := W) (c := c) ht hi (v := v) (n := xs.length) (xs := inner) (by rw [hz1]; exact hown), by simpa using HO, World.grownBy.refl W _, .inl rfl⟩
  · obtain ⟨v1, w1, hr, ho1, hg, _, hat⟩ := run_append_own_at (P := P) W 0 t ty e i0 z d.sz bytes ht hi hz0 hz1 hz2 hz hs0 v xs.length inner hown ad ys.length c news hnl
      (fun j u hu => by
        have h0 : 0 < ys.length := by
          have := (List.getElem?_eq_some_iff.1 hu).1
          rw [hnl] at this
          rcases Nat.eq_zero_or_pos ys.length with h0 | h0
          · rw [h0] at this; omega
          · exact h0
        obtain ⟨b, o, c', cs, e, _⟩ := HR.get 0 h0
        injection e with e1 e2 e3
        injection e1 with e1
        subst e1 e3
        have := hnc b o c rfl j u hu
        have e2 : (⟨b, o, none⟩ : Addr).add j = ⟨b, o + j, none⟩ := by unfold Addr.add; split <;> simp_all
        rw [e2]
        exact this) h1 (by simp only [maxLen]; omega) hl (by simp)
    refine ⟨v1, w1, hr, HO.grew ⟨hown, he⟩ hne' hT hfresh (by rw [List.length_append]; exact ho1) hg ?_, hg, hat⟩
    rcases hat with hat | hat
    · exact .inl hat
    · exact .inr ⟨_, hat, Nat.le_refl _⟩

theorem stp_gate {b : Builtin} {xs : Array Operand} {ts : Array TypeId} {Kc : Act → World → Prop} {E : Prop} (_ho : o.op = .call { callee := .builtin b, args := xs, argTypes := ts }) (h : if Region.wanted o (yielded ops a.tmps) = true then Oper.wp P o a W Kc Q else E) :
    if Region.wanted o (yielded ops a.tmps) = true then Oper.wp P o a W Kc Q else E := h
/-- append([]T{}, ys...): a copy; nothing that was there turns. -/
theorem run_appendfresh {T T' : Nat → Prop} (t ty e : TypeId) (z : Value) (bytes : Nat)
    (ht : P.underlying t = some (.slice e)) (hinfo : (P.info? e).map (fun i => (i.zero, i.size, i.bytes)) = some (some z, d.sz, bytes)) (hz : z.cells.size = d.sz) (hs0 : 0 < d.sz) (hb0 : 0 < bytes)
    (B : Nat) (hB : W.heap[B]? = some (.cells #[] e (0, 0))) (hSB : S B) (u : Value) (ys : List α) (HR : Row d T W u ys) (hTT : ∀ x cs, d.K T W x cs → d.K T' W x cs) (hT : ∀ k, T' k → k < W.heap.size → S k ∧ k ≠ B)
    (hfresh : ∀ k, W.heap.size ≤ k → S k) (hl : ys.length * bytes ≤ 140737488355328) :
    ∃ v1 w1, (Builtin.append_ #[t, t] ty #[.slice (some ⟨B, 0, none⟩) 0 0, u]).run P W = .ok v1 w1 ∧ Own d e S w1 v1 ys ∧ Stp W w1 := by
  obtain ⟨i0, hi, hzz⟩ := Option.map_eq_some_iff.1 hinfo
  simp only [Prod.mk.injEq] at hzz
  obtain ⟨hz0, hz1, hz2⟩ := hzz
  have hlen : ys.length ≤ 140737488355328 := Nat.le_trans (Nat.le_mul_of_pos_right _ hb0) hl
  obtain ⟨A, c, rfl, hc, hc9⟩ := HR.form
  obtain ⟨news, hnl, hne, hnc⟩ := HR.cells ys.length (Nat.le_refl _)
  rw [List.take_of_length_le (Nat.le_refl _)] at hne
  rcases Nat.eq_zero_or_pos ys.length with h0 | h0
  · obtain rfl : ys = [] := List.eq_nil_of_length_eq_zero h0
    refine ⟨.slice (some ⟨B, 0, none⟩) 0 0, W, ?_, ⟨fun k hk => ?_, [], ⟨by simp, .inr ⟨B, 0, #[], rfl, Nat.zero_le _, hB, by simp, by simp [maxLen], by simp, by simp⟩⟩, fun j hj => absurd hj (by simp)⟩, Stp.refl W⟩
    · cases A <;> simp [Builtin.append_, run_underlying ht, sizeOf, typeInfo, hi, Builtin.lenOf, Builtin.firstCells, loadCells, loadCellsFrom, storeCells]
    · have : B = k := by simpa [Value.ownBlock] using hk
      exact this ▸ hSB
  · obtain ⟨b, o, c', cs, e1, _⟩ := HR.get 0 h0
    injection e1 with e1 e2 e3
    subst e1 e3
    have hr := run_append_grow (P := P) W t ty e i0 z ht hi hz0 ⟨B, 0, none⟩ 0 0 [] (by simp) (fun j v h => by simp at h) ⟨b, o, none⟩ ys.length c news (by rw [hz1]; exact hnl)
      (fun j u hu => by
        have := hnc b o c rfl j u hu
        have e2 : (⟨b, o, none⟩ : Addr).add j = ⟨b, o + j, none⟩ := by unfold Addr.add; split <;> simp_all
        rw [e2]
        exact this) (by omega) (by omega) (by rw [hz2]; exact growslice_fits (by omega) (by simpa using hl))
    have hge := grownCap_ge W (0 + ys.length) 0 e
    have hcm := grownCap_le_maxLen W (0 + ys.length) 0 e (by simp only [maxLen]; omega)
    refine ⟨_, _, hr, ⟨fun k hk => ?_, news, ⟨hnl, .inr ⟨W.heap.size, _, _, by rw [Nat.zero_add], Nat.zero_le _, World.alloc_heap_new W.drew _, by rw [Nat.zero_add] at hge ⊢; exact hge, hcm, ?_, ?_⟩⟩, fun j hj => ?_⟩, (Stp.refl W).drew.alloc _⟩
    · have : W.heap.size = k := by simpa [Value.ownBlock] using hk
      exact hfresh k (by omega)
    · simp only [Array.size_append, List.size_toArray, Builtin.zeroCells, Array.size_map, Array.size_range, hz, List.length_nil, Nat.zero_add, hnl, ← Nat.add_mul]
      congr 1
      rw [Nat.zero_add] at hge
      omega
    · simp only [Array.toList_append, List.append_assoc, List.nil_append]
      rw [← hnl]
      exact List.take_left
    · obtain ⟨cs', hk, hcs⟩ := hne j hj
      refine ⟨cs', ?_, hcs⟩
      refine d.mono (fun k hk => ?_) (d.move (w1 := W.drew.alloc _) (fun k hk => (((Stp.refl W).drew.alloc _).block hk.2)) (d.bound (hTT _ _ hk)))
      refine ⟨(hT k hk.1 hk.2).1, fun e => ?_⟩
      have : W.heap.size = k := by simpa [Value.ownBlock] using e.symm
      omega
theorem wpl_appendfresh {T T' : Nat → Prop} (hgd : o.guard = none) (s x : Operand) (t e : TypeId) (z : Value) (bytes : Nat)
    (ho : o.op = .call { callee := .builtin .append, args := #[s, x], argTypes := #[t, t] })
    (ht : P.underlying t = some (.slice e)) (hinfo : (P.info? e).map (fun i => (i.zero, i.size, i.bytes)) = some (some z, d.sz, bytes)) (hz : z.cells.size = d.sz) (hs0 : 0 < d.sz) (hb0 : 0 < bytes)
    (B : Nat) (hB : W.heap[B]? = some (.cells #[] e (0, 0))) (hSB : S B) (u : Value) (ys : List α) (hs : a.eval s = .slice (some ⟨B, 0, none⟩) 0 0) (hx : a.eval x = u) (HR : Row d T W u ys) (hTT : ∀ x cs, d.K T W x cs → d.K T' W x cs) (hT : ∀ k, T' k → k < W.heap.size → S k ∧ k ≠ B)
    (hfresh : ∀ k, W.heap.size ≤ k → S k) (hl : ys.length * bytes ≤ 140737488355328)
    (h : ∀ v1 w1, Own d e S w1 v1 ys → Stp W w1 → wpList P ops Q rest (a.put o.dst v1) w1) :
    wpList P ops Q (o :: rest) a W := by
  refine wpList_plain hgd fun K hK => ?_
  obtain ⟨v1, w1, hr, h1, h2⟩ := run_appendfresh (P := P) t o.type e z bytes ht hinfo hz hs0 hb0 B hB hSB u ys HR hTT hT hfresh hl
  unfold Oper.wp execOp
  simp only [ho, resolve, invoke, builtin, Sem.run_bind, Sem.run_pure, Result.andThen_ok, List.map_toArray, List.map_cons, List.map_nil, hs, hx, hr]
  exact hK _ _ (h v1 w1 h1 h2)
theorem stp_appendfresh {T T' : Nat → Prop} {Kc : Act → World → Prop} {E : Prop} (hgd : o.guard = none) (s x : Operand) (t e : TypeId) (z : Value) (bytes : Nat)
    (ho : o.op = .call { callee := .builtin .append, args := #[s, x], argTypes := #[t, t] })
    (ht : P.underlying t = some (.slice e)) (hinfo : (P.info? e).map (fun i => (i.zero, i.size, i.bytes)) = some (some z, d.sz, bytes)) (hz : z.cells.size = d.sz) (hs0 : 0 < d.sz) (hb0 : 0 < bytes)
    (B : Nat) (hB : W.heap[B]? = some (.cells #[] e (0, 0))) (hSB : S B) (u : Value) (ys : List α) (hs : a.eval s = .slice (some ⟨B, 0, none⟩) 0 0) (hx : a.eval x = u) (HR : Row d T W u ys) (hTT : ∀ x cs, d.K T W x cs → d.K T' W x cs) (hT : ∀ k, T' k → k < W.heap.size → S k ∧ k ≠ B)
    (hfresh : ∀ k, W.heap.size ≤ k → S k) (hl : ys.length * bytes ≤ 140737488355328)
    (h : ∀ v1 w1, Own d e S w1 v1 ys → Stp W w1 → Kc (a.put o.dst v1) w1) :
    if Region.wanted o (yielded ops a.tmps) = true then Oper.wp P o a W Kc Q else E := by
  have hw : Region.wanted o (yielded ops a.tmps) = true := by simp [Region.wanted, hgd]
  rw [if_pos hw]
  obtain ⟨v1, w1, hr, h1, h2⟩ := run_appendfresh (P := P) t o.type e z bytes ht hinfo hz hs0 hb0 B hB hSB u ys HR hTT hT hfresh hl
  unfold Oper.wp execOp
  simp only [ho, resolve, invoke, builtin, Sem.run_bind, Sem.run_pure, Result.andThen_ok, List.map_toArray, List.map_cons, List.map_nil, hs, hx, hr]
  exact h v1 w1 h1 h2

/-- append(v, ys...), ys any slice. Behind 'at_builtin'. -/
theorem wpl_appendrow {T T' : Nat → Prop} (hgd : o.guard = none) (s x : Operand) (t e : TypeId) (z : Value) (bytes : Nat)
    (ho : o.op = .call { callee := .builtin .append, args := #[s, x], argTypes := #[t, t] })
    (ht : P.underlying t = some (.slice e)) (hinfo : (P.info? e).map (fun i => (i.zero, i.size, i.bytes)) = some (some z, d.sz, bytes)) (hz : z.cells.size = d.sz) (hs0 : 0 < d.sz) (hb0 : 0 < bytes)
    (v : Value) (xs : List α) (u : Value) (ys : List α) (hs : a.eval s = v) (hx : a.eval x = u) (HR : Row d T W u ys) (hTT : ∀ x cs, d.K T W x cs → d.K T' W x cs) (hT : ∀ k, T' k → k < W.heap.size → S k ∧ some k ≠ v.ownBlock)
    (HO : Own d e S W v xs) (hfresh : ∀ k, W.heap.size ≤ k → S k) (hl : (xs.length + ys.length) * bytes ≤ 140737488355328)
    (h : ∀ v1 w1, Own d e S w1 v1 (xs ++ ys) → W.grownBy w1 v.ownBlock → wpList P ops Q rest (a.put o.dst v1) w1) :
    wpList P ops Q (o :: rest) a W := by
  refine wpList_plain hgd fun K hK => ?_
  obtain ⟨v1, w1, hr, h1, h2, _⟩ := run_appendrow (P := P) t o.type e z bytes ht hinfo hz hs0 hb0 v xs u ys HR hTT hT HO hfresh hl
  unfold Oper.wp execOp
  simp only [ho, resolve, invoke, builtin, Sem.run_bind, Sem.run_pure, Result.andThen_ok, List.map_toArray, List.map_cons, List.map_nil, hs, hx, hr]
  exact hK _ _ (h v1 w1 h1 h2)

/-- The same as a step of a region that draws. -/
theorem stp_appendrow {T T' : Nat → Prop} {Kc : Act → World → Prop} {E : Prop} (hgd : o.guard = none) (s x : Operand) (t e : TypeId) (z : Value) (bytes : Nat)
    (ho : o.op = .call { callee := .builtin .append, args := #[s, x], argTypes := #[t, t] })
    (ht : P.underlying t = some (.slice e)) (hinfo : (P.info? e).map (fun i => (i.zero, i.size, i.bytes)) = some (some z, d.sz, bytes)) (hz : z.cells.size = d.sz) (hs0 : 0 < d.sz) (hb0 : 0 < bytes)
    (v : Value) (xs : List α) (u : Value) (ys : List α) (hs : a.eval s = v) (hx : a.eval x = u) (HR : Row d T W u ys) (hTT : ∀ x cs, d.K T W x cs → d.K T' W x cs) (hT : ∀ k, T' k → k < W.heap.size → S k ∧ some k ≠ v.ownBlock)
    (HO : Own d e S W v xs) (hfresh : ∀ k, W.heap.size ≤ k → S k) (hl : (xs.length + ys.length) * bytes ≤ 140737488355328)
    (h : ∀ v1 w1, Own d e S w1 v1 (xs ++ ys) → W.grownBy w1 v.ownBlock → Kc (a.put o.dst v1) w1) :
    if Region.wanted o (yielded ops a.tmps) = true then Oper.wp P o a W Kc Q else E := by
  have hw : Region.wanted o (yielded ops a.tmps) = true := by simp [Region.wanted, hgd]
  rw [if_pos hw]
  obtain ⟨v1, w1, hr, h1, h2, _⟩ := run_appendrow (P := P) t o.type e z bytes ht hinfo hz hs0 hb0 v xs u ys HR hTT hT HO hfresh hl
  unfold Oper.wp execOp
  simp only [ho, resolve, invoke, builtin, Sem.run_bind, Sem.run_pure, Result.andThen_ok, List.map_toArray, List.map_cons, List.map_nil, hs, hx, hr]
  exact h v1 w1 h1 h2

/-- One element in a block of its own, as a slice (an append's variadic). -/
theorem Row.box {T : Nat → Prop} {p : α} {cs : List Value} {e : TypeId} {B : Nat} (hB : W.heap[B]? = some (.cells cs.toArray e (0, 0))) (hT : T B) (hp : d.K T W p cs) : Row d T W (.slice (some ⟨B, 0, none⟩) 1 1) [p] := by
  refine ⟨⟨_, 1, rfl, by simp, by omega⟩, fun j hj => ?_⟩
  obtain rfl : j = 0 := by simpa using hj
  refine ⟨B, 0, 1, cs, rfl, hT, (Array.getElem?_eq_some_iff.1 hB).1, hp, fun i u hi => ?_⟩
  simp only [World.cell?, hB]
  simpa using hi

theorem Own.freshAt (d : Kd α) {e : TypeId} {S : Nat → Prop} {w : World} {B : Nat} (hB : w.heap[B]? = some (.cells #[] e (0, 0))) (hS : S B) : Own d e S w (.slice (some ⟨B, 0, none⟩) 0 0) [] := by
  refine ⟨fun k hk => ?_, [], ⟨by simp, .inr ⟨B, 0, #[], rfl, Nat.zero_le _, hB, by simp, by simp [maxLen], by simp, by simp⟩⟩, fun j hj => absurd hj (by simp)⟩
  have : B = k := by simpa [Value.ownBlock] using hk
  exact this ▸ hS
theorem heap_new (w : World) (o : Obj) (n : Nat) (h : n = w.heap.size) : (w.alloc o).heap[n]? = some o := h ▸ World.alloc_heap_new w o
theorem heap_old {w : World} {o x : Obj} {n : Nat} (h : w.heap[n]? = some x) : (w.alloc o).heap[n]? = some x := (Below.heap_alloc w o n (Array.getElem?_eq_some_iff.1 h).1).trans h
theorem heap_drew {w : World} {x : Obj} {n : Nat} (h : w.heap[n]? = some x) : w.drew.heap[n]? = some x := h
theorem Stp.heap {w w' : World} (h : Stp w w') {x : Obj} {n : Nat} (hx : w.heap[n]? = some x) : w'.heap[n]? = some x := (h.block (Array.getElem?_eq_some_iff.1 hx).1).trans hx
/-- A new slice without elements. -/
theorem Own.fresh (d : Kd α) (e : TypeId) (S : Nat → Prop) (w : World) (hS : S w.heap.size) : Own d e S (w.alloc (.cells #[] e)) (.slice (some ⟨w.heap.size, 0, none⟩) 0 0) [] := by
  refine ⟨fun k hk => ?_, [], ⟨by simp, .inr ⟨w.heap.size, 0, #[], rfl, Nat.zero_le _, World.alloc_heap_new w _, by simp, by simp [maxLen], by simp, by simp⟩⟩, fun j hj => absurd hj (by simp)⟩
  have : w.heap.size = k := by simpa [Value.ownBlock] using hk
  exact this ▸ hS
end
end
end Go.Proofs.Lime
