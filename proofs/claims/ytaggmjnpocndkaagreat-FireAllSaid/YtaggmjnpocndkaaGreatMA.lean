/- Words for all walks of this seat: how a slice reads (the blocks that it leads to are told), rows of the call's own, and how both live on. No conditions. Where the first is of whom something holds. No conditions. Regions that draw their order: operations that only look are taken as early as they can be; each event (a call, a new block) must leave all old memory as it was. No conditions of its own. What a claim's reading of an argument tells of the cells that it lies in: lists, by their elements' kind. No conditions. Trees: how one lies in cells. No conditions. What a claim's reading of a tree tells of its cells. No conditions. Trees in plain words: which may be. And a tree's nodes by their places in memory. No conditions. A range over an iterator that keeps variables of its own in memory: what an iterator owes, what the loop's body owes, and the law of the statement. No conditions. Ways up, step by step; and what an iterator that goes up holds between two rounds. No conditions. Walk: what an iterator over numbers hands over, collected in a list. Walks: lists of whole numbers: where one stands, whether two are the same. -/
import Derived.Test.YtaggmjnpocndkaaGreatProg
import Derived.Below
import Derived.OwnWalk
import Derived.Laws.MakeOwn
import Derived.Laws.OwnMore
import Derived.Tactics
import Derived.WalkKit
import Derived.KernelRfl
import Derived.RowKit3
import Derived.RowKit
import Derived.Deep.LoopGhost
import Derived.Deep.QuietTactic
import Derived.BigQuiet
import Derived.WideLaws
import Derived.Deep.RegionHeld3
import Derived.Deep.RegionLaw
import Derived.Maps.AppendAt
import Derived.RangeFuncNested
import Derived.RangeFuncBound
import Derived.RangeFuncCalls
import Derived.RangeFuncLeaves
import Derived.OwnWalkIn
import Derived.TacticsInMore
import Derived.LoopNIn
import Derived.LoopIn
import Derived.Shelf.Abstract
import Derived.WalkSpells
import Derived.IntWalk
import Derived.Lib.Hide
import Derived.OrdersHeld
import Derived.Deep.Slices
import Derived.WideShapes
import Derived.ProofKit
import Derived.OpenShut
import Derived.RangeFuncRecord
import Derived.RangeFuncSeq
import Derived.StillTailTactics
namespace Go.Proofs.Lime
open Go.RowKit
set_option linter.unusedVariables false
set_option linter.unusedSimpArgs false

/-- All that lay in w lies as it lay. -/
structure Stp (w w' : World) : Prop where mk :: (out : Below w.heap.size w w')
theorem Stp.refl (w : World) : Stp w w := ⟨Below.refl _ _⟩
theorem Stp.size {w w' : World} (h : Stp w w') : w.heap.size ≤ w'.heap.size := h.out.size
theorem Stp.trans {a b c : World} (h : Stp a b) (k : Stp b c) : Stp a c :=
  ⟨h.out.trans (k.out.mono h.out.size)⟩
theorem Stp.alloc {w w' : World} (h : Stp w w') (o : Obj) : Stp w (w'.alloc o) := ⟨h.out.alloc h.out.size o⟩
theorem Stp.drew {w w' : World} (h : Stp w w') : Stp w w'.drew := ⟨h.out.drew⟩
theorem Stp.of_drew {w w' : World} (h : Stp w.drew w') : Stp w w' := ⟨⟨h.out.os, h.out.tape, h.out.output, h.out.size, h.out.block⟩⟩
theorem Stp.drewN {w w' : World} (h : Stp w w') (n : Nat) : Stp w (w'.drewN n) := ⟨⟨h.out.os, h.out.tape, h.out.output, h.out.size, h.out.block⟩⟩
theorem Stp.setCell {w w' : World} (h : Stp w w') {b o : Nat} (hb : w.heap.size ≤ b) (u : Value) : Stp w (w'.setCell ⟨b, o, none⟩ u) := ⟨h.out.setCell (p := ⟨b, o, none⟩) hb u⟩
theorem Stp.grown {a w w' : World} (h : Stp a w) {row : Option Nat} (hg : w.grownBy w' row) (hr : ∀ k, row = some k → a.heap.size ≤ k) : Stp a w' := ⟨h.out.grown hg h.out.size hr⟩
theorem Stp.block {w w' : World} (h : Stp w w') {k : Nat} (hk : k < w.heap.size) : w'.heap[k]? = w.heap[k]? := h.out.block k hk
theorem Stp.bc {W w1 : World} (h : Stp W w1) : (∀ b o, b < W.heap.size → w1.cell? ⟨b, o, none⟩ = W.cell? ⟨b, o, none⟩) ∧ (∀ b o, b < W.heap.size → w1.frozen? ⟨b, o, none⟩ = W.frozen? ⟨b, o, none⟩) :=
  ⟨fun b o hb => h.out.cell (p := ⟨b, o, none⟩) hb, fun b o hb => h.out.frozen (p := ⟨b, o, none⟩) hb⟩
theorem Stp.cell {w w' : World} (h : Stp w w') {a : Addr} {v : Value} (hc : w.cell? a = some v) : w'.cell? a = some v :=
  (h.out.cell (World.block_lt_of_cell? w a hc)).trans hc

/-- Short words for what is asked again and again: the steps stand in the word's own default. -/
theorem stp_ {p : Prop} (h : p := by repeat (first | exact Go.Proofs.Lime.Stp.refl _ | assumption | refine Go.Proofs.Lime.Stp.drew ?_ | refine Go.Proofs.Lime.Stp.drewN ?_ _ | refine Go.Proofs.Lime.Stp.alloc ?_ _ | refine Go.Proofs.Lime.Stp.setCell ?_ (by first | omega | (simp; omega) | simp) _ | refine Go.Proofs.Lime.Stp.trans ?_ (by assumption))) : p := h
theorem getop_ {p : Prop} (h : p := by simp only [List.getElem?_toArray, List.getElem?_cons_succ, List.getElem?_cons_zero]; rfl) : p := h
theorem calm_ {p : Prop} (h : p := by first | (go_simp; done) | (go_simp; go_bits; (first | done | with_reducible rfl)) | (go_simp; (repeat rw [if_pos (by omega)]); (first | done | with_reducible rfl)) | (go_simp; with_reducible rfl)) : p := h

theorem ret_int {k : IntKind} {a b : Int} (h : a = b) : Ending.returned (.int k a) = .returned (.int k b) := by rw [h]

theorem box_cell (w : World) (cs : Array Value) (t : TypeId) (i : Nat) : (w.alloc (.cells cs t)).cell? ⟨w.heap.size, i, none⟩ = cs[i]? := by
  have h : (w.alloc (.cells cs t)).heap[w.heap.size]? = some (.cells cs t (0, 0)) := World.alloc_heap_new w _
  unfold World.cell?
  simp only [h]
  simp
theorem box_at (w : World) (cs : Array Value) (t : TypeId) (i : Nat) (u : Value) (h : cs[i]? = some u) : (w.alloc (.cells cs t)).cell? ⟨w.heap.size, i, none⟩ = some u := (box_cell w cs t i).trans h
/-- The world with a new block, under a name. -/
theorem box_named (w : World) (cs : Array Value) (t : TypeId) : ∃ w1, w.alloc (.cells cs t) = w1 ∧ Stp w w1 ∧ w1.heap.size = w.heap.size + 1 ∧ ∀ i u, cs[i]? = some u → w1.cell? ⟨w.heap.size, i, none⟩ = some u :=
  ⟨_, rfl, (Stp.refl w).alloc _, by simp, fun i u h => (box_cell w cs t i).trans h⟩

/-- How an element lies in cells; S: the blocks that it leads to. -/
structure Kd (α : Type) where
  sz : Nat
  K : (Nat → Prop) → World → α → List Value → Prop
  len : ∀ {S w x cs}, K S w x cs → cs.length = sz
  one : ∀ {S w x cs}, K S w x cs → ∀ u ∈ cs, u.oneCell' = true
  move : ∀ {S : Nat → Prop} {w w1 : World} {x cs}, (∀ k, S k → w1.heap[k]? = w.heap[k]?) → K S w x cs → K S w1 x cs
  mono : ∀ {S S' : Nat → Prop} {w x cs}, (∀ k, S k → S' k) → K S w x cs → K S' w x cs
  bound : ∀ {S w x cs}, K S w x cs → K (fun k => S k ∧ k < w.heap.size) w x cs

/-- Elements that lead nowhere. -/
def Kd.flat {α : Type} (sz : Nat) (enc : α → List Value) (hl : ∀ x, (enc x).length = sz) (h1 : ∀ x, ∀ u ∈ enc x, u.oneCell' = true) : Kd α where
  sz := sz
  K := fun _ _ x cs => cs = enc x
  len := fun h => by rw [h, hl]
  one := fun h => by rw [h]; exact h1 _
  move := fun _ h => h
  mono := fun _ h => h
  bound := fun h => h

section
variable {α : Type} {d : Kd α} {S S' : Nat → Prop} {w w1 : World} {v : Value} {xs : List α}

/-- A slice reads as xs; all that it leads to lies in S. -/
structure Row (d : Kd α) (S : Nat → Prop) (w : World) (v : Value) (xs : List α) : Prop where mk ::
  form : ∃ A c, v = .slice A xs.length c ∧ xs.length ≤ c ∧ xs.length ≤ 9223372036854775807
  get : ∀ j (hj : j < xs.length), ∃ b o c cs, v = .slice (some ⟨b, o, none⟩) xs.length c ∧ S b ∧ b < w.heap.size ∧ d.K S w xs[j] cs ∧ ∀ i u, cs[i]? = some u → w.cell? ⟨b, o + j * d.sz + i, none⟩ = some u

theorem Row.move (h : Row d S w v xs) (hm : ∀ k, S k → k < w.heap.size → w1.heap[k]? = w.heap[k]?) (hs : w.heap.size ≤ w1.heap.size) : Row d S w1 v xs := by
  refine ⟨h.form, fun j hj => ?_⟩
  obtain ⟨b, o, c, cs, rfl, hS, hb, hk, hc⟩ := h.get j hj
  refine ⟨b, o, c, cs, rfl, hS, by omega, d.mono (fun k hk => hk.1) (d.move (fun k hk => hm k hk.1 hk.2) (d.bound hk)), fun i u hi => ?_⟩
  have := World.cell?_of_block (w := w) (a := ⟨b, o + j * d.sz + i, none⟩) (hm b hS hb)
  rw [this]
  exact hc i u hi
theorem Row.stp (h : Row d S w v xs) (hb : Stp w w1) : Row d S w1 v xs := h.move (fun _ _ hk => hb.block hk) hb.size
theorem Row.mono (h : Row d S w v xs) (hs : ∀ k, S k → S' k) : Row d S' w v xs := by
  refine ⟨h.form, fun j hj => ?_⟩
  obtain ⟨b, o, c, cs, rfl, hS, hb, hk, hc⟩ := h.get j hj
  exact ⟨b, o, c, cs, rfl, hs b hS, hb, d.mono hs hk, hc⟩
theorem Row.slice (h : Row d S w v xs) : ∃ A c, v = .slice A xs.length c := let ⟨A, c, e, _⟩ := h.form; ⟨A, c, e⟩
theorem Row.take {A : Option Addr} {n c : Nat} (h : Row d S w (.slice A n c) xs) (k : Nat) (hk : k ≤ xs.length) : Row d S w (.slice A k c) (xs.take k) := by
  obtain ⟨A', c', e, h1, h2⟩ := h.form
  injection e with e1 e2 e3
  subst e1 e2 e3
  have hl : (xs.take k).length = k := by rw [List.length_take]; omega
  refine ⟨⟨A, c, by rw [hl], by omega, by omega⟩, fun j hj => ?_⟩
  rw [hl] at hj
  obtain ⟨b, o, c', cs, e, hS, hb, hK, hc⟩ := h.get j (by omega)
  injection e with e1 e2 e3
  subst e1 e3
  exact ⟨b, o, c, cs, by rw [hl], hS, hb, by simpa using hK, hc⟩
theorem Row.nil (d : Kd α) (S : Nat → Prop) (w : World) : Row d S w (.slice none 0 0) [] := ⟨⟨none, 0, rfl, by simp, by simp⟩, fun j hj => absurd hj (by simp)⟩

/-- The elements one behind the other in a row's cells. -/
def Each (d : Kd α) (S : Nat → Prop) (w : World) (xs : List α) (cells : List Value) : Prop :=
  ∀ j (hj : j < xs.length), ∃ cs, d.K S w xs[j] cs ∧ ∀ i u, cs[i]? = some u → cells[j * d.sz + i]? = some u

/-- A row of the call's own: all that it leads to lies in S; its elements do not lead back to it. -/
structure Own (d : Kd α) (e : TypeId) (S : Nat → Prop) (w : World) (v : Value) (xs : List α) : Prop where mk ::
  blk : ∀ k, v.ownBlock = some k → S k
  row : ∃ inner, w.ownsRow 0 e d.sz v xs.length inner ∧ Each d (fun k => S k ∧ some k ≠ v.ownBlock) w xs inner

theorem Each.move {cells : List Value} (h : Each d S w xs cells) (hm : ∀ k, S k → k < w.heap.size → w1.heap[k]? = w.heap[k]?) : Each d S w1 xs cells := fun j hj => by
  obtain ⟨cs, hk, hc⟩ := h j hj
  exact ⟨cs, d.mono (fun k hk => hk.1) (d.move (fun k hk => hm k hk.1 hk.2) (d.bound hk)), hc⟩
theorem Each.mono {cells : List Value} (h : Each d S w xs cells) (hm : ∀ k, S k → k < w.heap.size → S' k) : Each d S' w xs cells := fun j hj => by
  obtain ⟨cs, hk, hc⟩ := h j hj
  exact ⟨cs, d.mono (fun k hk => hm k hk.1 hk.2) (d.bound hk), hc⟩
theorem own_lt {base : Nat} {e : TypeId} {size n : Nat} {ys : List Value} (h : w.ownsRow base e size v n ys) (k : Nat) (hk : v.ownBlock = some k) : k < w.heap.size := by
  rcases h.2 with ⟨rfl, _⟩ | ⟨g, cap, cur, rfl, hb, hh, _⟩
  · simp [Value.ownBlock] at hk
  · have : g = k := by simpa [Value.ownBlock] using hk
    subst this
    exact (Array.getElem?_eq_some_iff.1 hh).1
theorem own_move {base : Nat} {e : TypeId} {size n : Nat} {ys : List Value} (h : w.ownsRow base e size v n ys) (hm : ∀ k, v.ownBlock = some k → w1.heap[k]? = w.heap[k]?) : w1.ownsRow base e size v n ys := by
  obtain ⟨h1, h2⟩ := h
  refine ⟨h1, ?_⟩
  rcases h2 with h2 | ⟨g, cap, cur, rfl, hg, hh, r⟩
  · exact .inl h2
  · exact .inr ⟨g, cap, cur, rfl, hg, (hm g (by simp [Value.ownBlock])).trans hh, r⟩
theorem Own.move {e : TypeId} (h : Own d e S w v xs) (hm : ∀ k, S k → k < w.heap.size → w1.heap[k]? = w.heap[k]?) : Own d e S w1 v xs := by
  obtain ⟨hb, inner, ho, he⟩ := h
  exact ⟨hb, inner, own_move ho (fun k hk => hm k (hb k hk) (own_lt ho k hk)), he.move (fun k hk hl => hm k hk.1 hl)⟩
theorem Own.stp {e : TypeId} (h : Own d e S w v xs) (hb : Stp w w1) : Own d e S w1 v xs := h.move fun _ _ hk => hb.block hk
/-- What exists alone counts. -/
theorem Own.mono {e : TypeId} (h : Own d e S w v xs) (hm : ∀ k, S k → k < w.heap.size → S' k) : Own d e S' w v xs := by
  obtain ⟨hb, inner, ho, he⟩ := h
  exact ⟨fun k hk => hm k (hb k hk) (own_lt ho k hk), inner, ho, he.mono fun k hk hl => ⟨hm k hk.1 hl, hk.2⟩⟩
theorem Own.nil (d : Kd α) (e : TypeId) (S : Nat → Prop) (w : World) : Own d e S w (.slice none 0 0) [] :=
  ⟨fun k hk => by simp [Value.ownBlock] at hk, [], ⟨by simp, .inl ⟨rfl, rfl⟩⟩, fun j hj => absurd hj (by simp)⟩
theorem Own.reads {e : TypeId} (h : Own d e S w v xs) : Row d S w v xs := by
  obtain ⟨hb, inner, ho, he⟩ := h
  refine ⟨?_, fun j hj => ?_⟩
  · rcases ho.2 with ⟨rfl, h0⟩ | ⟨g, cap, cur, rfl, _, _, h1, h2, _⟩
    · exact ⟨none, 0, by rw [h0], by omega, by omega⟩
    · exact ⟨_, cap, rfl, h1, by have h2' := h2; unfold maxLen at h2'; omega⟩
  · obtain ⟨cs, hk, hc⟩ := he j hj
    rcases ho.2 with ⟨rfl, h0⟩ | ⟨g, cap, cur, rfl, _, hh, h1, h2, h3, h4⟩
    · omega
    · refine ⟨g, 0, cap, cs, rfl, hb g (by simp [Value.ownBlock]), (Array.getElem?_eq_some_iff.1 hh).1, d.mono (fun k hk => hk.1) hk, fun i u hi => ?_⟩
      have h5 := hc i u hi
      rw [← h4, List.getElem?_take] at h5
      split at h5
      · rw [Nat.zero_add]
        simp only [World.cell?, hh]
        simpa using h5
      · cases h5

section
variable {P : Program} {ops : Array Oper} {rest : List Oper} {o : Oper} {a : Act} {Q : Exit → Act → World → Prop} {W : World}

theorem Own.grew {e : TypeId} {inner news : List Value} {v1 : Value} {ys : List α} {T : Nat → Prop} (h : Own d e S W v xs) (hin : W.ownsRow 0 e d.sz v xs.length inner ∧ Each d (fun k => S k ∧ some k ≠ v.ownBlock) W xs inner)
    (hn : Each d T W ys news) (hT : ∀ k, T k → k < W.heap.size → S k ∧ some k ≠ v.ownBlock) (hfresh : ∀ k, W.heap.size ≤ k → S k)
    (ho : w1.ownsRow 0 e d.sz v1 (xs ++ ys).length (inner ++ news)) (hg : W.grownBy w1 v.ownBlock) (hat : v1.ownBlock = v.ownBlock ∨ ∃ b, v1.ownBlock = some b ∧ W.heap.size ≤ b) : Own d e S w1 v1 (xs ++ ys) := by
  have hne : ∀ k, k < W.heap.size → some k ≠ v.ownBlock → some k ≠ v1.ownBlock := fun k hk hv e1 => by
    rcases hat with hat | ⟨b, hat, hb⟩
    · exact hv (e1.trans hat)
    · rw [hat] at e1
      injection e1 with e1
      omega
  refine ⟨fun k hk => ?_, _, ho, fun j hj => ?_⟩
  · rcases hat with hat | ⟨b, hat, hb⟩
    · exact h.blk k (hat ▸ hk)
    · rw [hat] at hk
      injection hk with hk
      exact hfresh k (hk ▸ hb)
  · have hil : inner.length = xs.length * d.sz := hin.1.1
    by_cases hx : j < xs.length
    · obtain ⟨cs, hk, hc⟩ := hin.2 j hx
      refine ⟨cs, ?_, fun i u hi => ?_⟩
      · rw [List.getElem_append_left hx]
        exact d.mono (fun k hk => ⟨hk.1.1, hne k hk.2 hk.1.2⟩) (d.move (fun k hk => hg.block k hk.2 hk.1.2) (d.bound hk))
      · have h1 := hc i u hi
        rw [List.getElem?_append_left (List.getElem?_eq_some_iff.1 h1).1]
        exact h1
    · have hj' : j - xs.length < ys.length := by rw [List.length_append] at hj; omega
      obtain ⟨cs, hk, hc⟩ := hn (j - xs.length) hj'
      refine ⟨cs, ?_, fun i u hi => ?_⟩
      · rw [List.getElem_append_right (by omega)]
        exact d.mono (fun k hk => ⟨(hT k hk.1 hk.2).1, hne k hk.2 (hT k hk.1 hk.2).2⟩) (d.move (fun k hk => hg.block k hk.2 (hT k hk.1 hk.2).2) (d.bound hk))
      · have h1 := hc i u hi
        have e1 : (j - xs.length) * d.sz + i = j * d.sz + i - inner.length := by
          rw [hil, Nat.sub_mul]
          have : xs.length * d.sz ≤ j * d.sz := Nat.mul_le_mul_right _ (by omega)
          omega
        have : xs.length * d.sz ≤ j * d.sz := Nat.mul_le_mul_right _ (by omega)
        rw [List.getElem?_append_right (by omega), ← e1]
        exact h1

theorem each_one {T : Nat → Prop} {p : α} {cs : List Value} (hp : d.K T W p cs) : Each d T W [p] cs := fun j hj => by
  obtain rfl : j = 0 := by simpa using hj
  exact ⟨cs, hp, fun i u hi => by simpa using hi⟩

/-- append(v, p): the variadic's box was just laid. Behind 'at_builtin'. -/
theorem wpl_append1 {T : Nat → Prop} (hgd : o.guard = none) (s x : Operand) (t e : TypeId) (z : Value) (bytes : Nat)
    (ho : o.op = .call { callee := .builtin .append, args := #[s, x], argTypes := #[t, t] })
    (ht : P.underlying t = some (.slice e)) (hinfo : (P.info? e).map (fun i => (i.zero, i.size, i.bytes)) = some (some z, d.sz, bytes)) (hz : z.cells.size = d.sz) (hs0 : 0 < d.sz) (hb0 : 0 < bytes)
    (v : Value) (xs : List α) (p : α) (cs : List Value) (hs : a.eval s = v) (hx : a.eval x = .slice (some ⟨W.heap.size, 0, none⟩) 1 1) (hp : d.K T W p cs) (hT : ∀ k, T k → k < W.heap.size → S k ∧ some k ≠ v.ownBlock)
    (HO : Own d e S W v xs) (hfresh : ∀ k, W.heap.size ≤ k → S k) (hl : (xs.length + 1) * bytes ≤ 140737488355328)
    (h : ∀ v1 w1, Own d e S w1 v1 (xs ++ [p]) → W.grownBy w1 v.ownBlock → wpList P ops Q rest (a.put o.dst v1) w1) :
    wpList P ops Q (o :: rest) a (W.alloc (.cells cs.toArray e)) := by
  obtain ⟨i0, hi, hzz⟩ := Option.map_eq_some_iff.1 hinfo
  simp only [Prod.mk.injEq] at hzz
  obtain ⟨hz0, hz1, hz2⟩ := hzz
  obtain ⟨inner, hown, he⟩ := HO.row
  have hlen : xs.length + 1 ≤ 140737488355328 := Nat.le_trans (Nat.le_mul_of_pos_right _ hb0) hl
  have hnew : (W.alloc (.cells cs.toArray e)).heap[W.heap.size]? = some (.cells cs.toArray e (0, 0)) := World.alloc_heap_new W _
  refine wpList_append_own_at (W.alloc (.cells cs.toArray e)) hgd s x t ho 0 e i0 z d.sz bytes ht hi hz0 hz1 hz2 hz hs0 v xs.length inner hs (hown.alloc _) ⟨W.heap.size, 0, none⟩ 1 1 cs hx (by rw [d.len hp]; simp)
    (fun j u hu => by
      have : (⟨W.heap.size, 0, none⟩ : Addr).add j = ⟨W.heap.size, j, none⟩ := by unfold Addr.add; split <;> simp_all
      rw [this]
      simp only [World.cell?, hnew]
      simpa using hu) (d.one hp) (by simp only [maxLen]; omega) hl (by simp) ?_
  intro v1 w1 ho1 hg _ hat
  have hg' : W.grownBy w1 v.ownBlock := World.grownBy.trans (World.grownBy_alloc W _ _) hg
  refine h v1 w1 (HO.grew ⟨hown, he⟩ (each_one hp) hT hfresh (by simpa using ho1) hg' ?_) hg'
  rcases hat with hat | hat
  · exact .inl hat
  · exact .inr ⟨_, hat, by simp⟩

/-- A slice's cells, one behind the other. -/
theorem Row.cells {T : Nat → Prop} {u : Value} {ys : List α} (h : Row d T W u ys) : ∀ m, m ≤ ys.length → ∃ news : List Value, news.length = m * d.sz ∧ Each d T W (ys.take m) news ∧ ∀ b o c, u = .slice (some ⟨b, o, none⟩) ys.length c → ∀ j x, news[j]? = some x → W.cell? ⟨b, o + j, none⟩ = some x := by
  intro m
  induction m with
  | zero => exact fun _ => ⟨[], by simp, fun j hj => absurd hj (by simp), fun _ _ _ _ j x hx => by simp at hx⟩
  | succ m ih =>
    intro hm
    obtain ⟨news, hl, he, hc⟩ := ih (by omega)
    obtain ⟨b, o, c, cs, rfl, hT, hb, hk, hcc⟩ := h.get m (by omega)
    have hcl := d.len hk
    refine ⟨news ++ cs, by rw [List.length_append, hl, hcl, Nat.succ_mul], fun j hj => ?_, fun b' o' c' e j x hx => ?_⟩
    · rw [List.length_take] at hj
      by_cases hjm : j < m
      · obtain ⟨cs', hk', hc'⟩ := he j (by rw [List.length_take]; omega)
        refine ⟨cs', by simpa using hk', fun i x hx => ?_⟩
        have := hc' i x hx
        rw [List.getElem?_append_left (List.getElem?_eq_some_iff.1 this).1]
        exact this
      · obtain rfl : j = m := by omega
        refine ⟨cs, by simpa using hk, fun i x hx => ?_⟩
        rw [List.getElem?_append_right (by omega), hl, Nat.add_sub_cancel_left]
        exact hx
    · injection e with e1 e2 e3
      injection e1 with e1
      injection e1 with e1 e2
      subst e1 e2
      by_cases hjl : j < news.length
      · rw [List.getElem?_append_left hjl] at hx
        exact hc b o c rfl j x hx
      · rw [List.getElem?_append_right (by omega)] at hx
        have := hcc _ x hx
        rw [hl] at this
        rw [show o + j = o + m * d.sz + (j - m * d.sz) by omega]
        exact this

theorem run_append_none {t ty e : TypeId} {i : TypeInfo} (ht : P.underlying t = some (.slice e)) (hi : P.info? e = some i) {v : Value} {n c : Nat} {xs : List Value} (HO : W.ownsRow 0 e i.size v n xs) :
    (Builtin.append_ #[t, t] ty #[v, .slice none 0 c]).run P W = .ok v W := by
  rcases HO.2 with ⟨rfl, hn⟩ | ⟨g, cap, cur, rfl, _, _, hnc, _⟩
  · simp [Builtin.append_, run_underlying ht, sizeOf, typeInfo, hi, Builtin.lenOf, Builtin.firstCells]
  · simp [Builtin.append_, run_underlying ht, sizeOf, typeInfo, hi, Builtin.lenOf, Builtin.firstCells, hnc, storeCells]

/-- append(v, ys...), ys any slice: what the builtin does. -/
theorem run_appendrow {T T' : Nat → Prop} (t ty e : TypeId) (z : Value) (bytes : Nat)
    (ht : P.underlying t = some (.slice e)) (hinfo : (P.info? e).map (fun i => (i.zero, i.size, i.bytes)) = some (some z, d.sz, bytes)) (hz : z.cells.size = d.sz) (hs0 : 0 < d.sz) (hb0 : 0 < bytes)
    (v : Value) (xs : List α) (u : Value) (ys : List α) (HR : Row d T W u ys) (hTT : ∀ x cs, d.K T W x cs → d.K T' W x cs) (hT : ∀ k, T' k → k < W.heap.size → S k ∧ some k ≠ v.ownBlock)
    (HO : Own d e S W v xs) (hfresh : ∀ k, W.heap.size ≤ k → S k) (hl : (xs.length + ys.length) * bytes ≤ 140737488355328) :
    ∃ v1 w1, (Builtin.append_ #[t, t] ty #[v, u]).run P W = .ok v1 w1 ∧ Own d e S w1 v1 (xs ++ ys) ∧ W.grownBy w1 v.ownBlock ∧ (v1.ownBlock = v.ownBlock ∨ v1.ownBlock = some W.heap.size) := by
  obtain ⟨i0, hi, hzz⟩ := Option.map_eq_some_iff.1 hinfo
  simp only [Prod.mk.injEq] at hzz
  obtain ⟨hz0, hz1, hz2⟩ := hzz
  obtain ⟨inner, hown, he⟩ := HO.row
  have hlen : xs.length + ys.length ≤ 140737488355328 := Nat.le_trans (Nat.le_mul_of_pos_right _ hb0) hl
  obtain ⟨A, c, rfl, hc, hc9⟩ := HR.form
  obtain ⟨news, hnl, hne, hnc⟩ := HR.cells ys.length (Nat.le_refl _)
  rw [List.take_of_length_le (Nat.le_refl _)] at hne
  have hne' : Each d T' W ys news := fun j hj => by
    obtain ⟨cs, hk, hcs⟩ := hne j hj
    exact ⟨cs, hTT _ _ hk, hcs⟩
  have h1 : ∀ u ∈ news, u.oneCell' = true := by
    intro u hu
    obtain ⟨j, hj⟩ := List.getElem?_of_mem hu
    have hjl := (List.getElem?_eq_some_iff.1 hj).1
    have hlt : j / d.sz < ys.length := by rw [Nat.div_lt_iff_lt_mul hs0, ← hnl]; exact hjl
    obtain ⟨cs, hk, hcs⟩ := hne _ hlt
    have hcl := d.len hk
    have hm : j % d.sz < cs.length := by rw [hcl]; exact Nat.mod_lt _ hs0
    have h2 := hcs (j % d.sz) _ (List.getElem?_eq_getElem hm)
    rw [Nat.div_add_mod' j d.sz, hj] at h2
    rw [Option.some.inj h2]
    exact d.one hk _ (List.getElem_mem hm)
  rcases A with _ | ad
  · have h0 : ys = [] := by
      cases ys with
      | nil => rfl
      | cons y ys =>
        obtain ⟨b, o, c, cs, e, _⟩ := HR.get 0 (by simp)
        injection e with e
        cases e
    subst h0
    exact ⟨v, W, run_append_none (P := P) (W := W) (c := c) ht hi (v := v) (n := xs.length) (xs := inner) (by rw [hz1]; exact hown), by simpa using HO, World.grownBy.refl W _, .inl rfl⟩
  · obtain ⟨v1, w1, hr, ho1, hg, _, hat⟩ := run_append_own_at (P := P) W 0 t ty e i0 z d.sz bytes ht hi hz0 hz1 hz2 hz hs0 v xs.length inner hown ad ys.length c news hnl
      (fun j u hu => by
        have h0 : 0 < ys.length := by
          have := (List.getElem?_eq_some_iff.1 hu).1
          rw [hnl] at this
          rcases Nat.eq_zero_or_pos ys.length with h0 | h0
          · rw [h0] at this; omega
          · exact h0
        obtain ⟨b, o, c', cs, e, _⟩ := HR.get 0 h0
        injection e with e1 e2 e3
        injection e1 with e1
        subst e1 e3
        have := hnc b o c rfl j u hu
        have e2 : (⟨b, o, none⟩ : Addr).add j = ⟨b, o + j, none⟩ := by unfold Addr.add; split <;> simp_all
        rw [e2]
        exact this) h1 (by simp only [maxLen]; omega) hl (by simp)
    refine ⟨v1, w1, hr, HO.grew ⟨hown, he⟩ hne' hT hfresh (by rw [List.length_append]; exact ho1) hg ?_, hg, hat⟩
    rcases hat with hat | hat
    · exact .inl hat
    · exact .inr ⟨_, hat, Nat.le_refl _⟩

theorem stp_gate {b : Builtin} {xs : Array Operand} {ts : Array TypeId} {Kc : Act → World → Prop} {E : Prop} (_ho : o.op = .call { callee := .builtin b, args := xs, argTypes := ts }) (h : if Region.wanted o (yielded ops a.tmps) = true then Oper.wp P o a W Kc Q else E) :
    if Region.wanted o (yielded ops a.tmps) = true then Oper.wp P o a W Kc Q else E := h
/-- append([]T{}, ys...): a copy; nothing that was there turns. -/
theorem run_appendfresh {T T' : Nat → Prop} (t ty e : TypeId) (z : Value) (bytes : Nat)
    (ht : P.underlying t = some (.slice e)) (hinfo : (P.info? e).map (fun i => (i.zero, i.size, i.bytes)) = some (some z, d.sz, bytes)) (hz : z.cells.size = d.sz) (hs0 : 0 < d.sz) (hb0 : 0 < bytes)
    (B : Nat) (hB : W.heap[B]? = some (.cells #[] e (0, 0))) (hSB : S B) (u : Value) (ys : List α) (HR : Row d T W u ys) (hTT : ∀ x cs, d.K T W x cs → d.K T' W x cs) (hT : ∀ k, T' k → k < W.heap.size → S k ∧ k ≠ B)
    (hfresh : ∀ k, W.heap.size ≤ k → S k) (hl : ys.length * bytes ≤ 140737488355328) :
    ∃ v1 w1, (Builtin.append_ #[t, t] ty #[.slice (some ⟨B, 0, none⟩) 0 0, u]).run P W = .ok v1 w1 ∧ Own d e S w1 v1 ys ∧ Stp W w1 := by
  obtain ⟨i0, hi, hzz⟩ := Option.map_eq_some_iff.1 hinfo
  simp only [Prod.mk.injEq] at hzz
  obtain ⟨hz0, hz1, hz2⟩ := hzz
  have hlen : ys.length ≤ 140737488355328 := Nat.le_trans (Nat.le_mul_of_pos_right _ hb0) hl
  obtain ⟨A, c, rfl, hc, hc9⟩ := HR.form
  obtain ⟨news, hnl, hne, hnc⟩ := HR.cells ys.length (Nat.le_refl _)
  rw [List.take_of_length_le (Nat.le_refl _)] at hne
  rcases Nat.eq_zero_or_pos ys.length with h0 | h0
  · obtain rfl : ys = [] := List.eq_nil_of_length_eq_zero h0
    refine ⟨.slice (some ⟨B, 0, none⟩) 0 0, W, ?_, ⟨fun k hk => ?_, [], ⟨by simp, .inr ⟨B, 0, #[], rfl, Nat.zero_le _, hB, by simp, by simp [maxLen], by simp, by simp⟩⟩, fun j hj => absurd hj (by simp)⟩, Stp.refl W⟩
    · cases A <;> simp [Builtin.append_, run_underlying ht, sizeOf, typeInfo, hi, Builtin.lenOf, Builtin.firstCells, loadCells, loadCellsFrom, storeCells]
    · have : B = k := by simpa [Value.ownBlock] using hk
      exact this ▸ hSB
  · obtain ⟨b, o, c', cs, e1, _⟩ := HR.get 0 h0
    injection e1 with e1 e2 e3
    subst e1 e3
    have hr := run_append_grow (P := P) W t ty e i0 z ht hi hz0 ⟨B, 0, none⟩ 0 0 [] (by simp) (fun j v h => by simp at h) ⟨b, o, none⟩ ys.length c news (by rw [hz1]; exact hnl)
      (fun j u hu => by
        have := hnc b o c rfl j u hu
        have e2 : (⟨b, o, none⟩ : Addr).add j = ⟨b, o + j, none⟩ := by unfold Addr.add; split <;> simp_all
        rw [e2]
        exact this) (by omega) (by omega) (by rw [hz2]; exact growslice_fits (by omega) (by simpa using hl))
    have hge := grownCap_ge W (0 + ys.length) 0 e
    have hcm := grownCap_le_maxLen W (0 + ys.length) 0 e (by simp only [maxLen]; omega)
    refine ⟨_, _, hr, ⟨fun k hk => ?_, news, ⟨hnl, .inr ⟨W.heap.size, _, _, by rw [Nat.zero_add], Nat.zero_le _, World.alloc_heap_new W.drew _, by rw [Nat.zero_add] at hge ⊢; exact hge, hcm, ?_, ?_⟩⟩, fun j hj => ?_⟩, (Stp.refl W).drew.alloc _⟩
    · have : W.heap.size = k := by simpa [Value.ownBlock] using hk
      exact hfresh k (by omega)
    · simp only [Array.size_append, List.size_toArray, Builtin.zeroCells, Array.size_map, Array.size_range, hz, List.length_nil, Nat.zero_add, hnl, ← Nat.add_mul]
      congr 1
      rw [Nat.zero_add] at hge
      omega
    · simp only [Array.toList_append, List.append_assoc, List.nil_append]
      rw [← hnl]
      exact List.take_left
    · obtain ⟨cs', hk, hcs⟩ := hne j hj
      refine ⟨cs', ?_, hcs⟩
      refine d.mono (fun k hk => ?_) (d.move (w1 := W.drew.alloc _) (fun k hk => (((Stp.refl W).drew.alloc _).block hk.2)) (d.bound (hTT _ _ hk)))
      refine ⟨(hT k hk.1 hk.2).1, fun e => ?_⟩
      have : W.heap.size = k := by simpa [Value.ownBlock] using e.symm
      omega
theorem wpl_appendfresh {T T' : Nat → Prop} (hgd : o.guard = none) (s x : Operand) (t e : TypeId) (z : Value) (bytes : Nat)
    (ho : o.op = .call { callee := .builtin .append, args := #[s, x], argTypes := #[t, t] })
    (ht : P.underlying t = some (.slice e)) (hinfo : (P.info? e).map (fun i => (i.zero, i.size, i.bytes)) = some (some z, d.sz, bytes)) (hz : z.cells.size = d.sz) (hs0 : 0 < d.sz) (hb0 : 0 < bytes)
    (B : Nat) (hB : W.heap[B]? = some (.cells #[] e (0, 0))) (hSB : S B) (u : Value) (ys : List α) (hs : a.eval s = .slice (some ⟨B, 0, none⟩) 0 0) (hx : a.eval x = u) (HR : Row d T W u ys) (hTT : ∀ x cs, d.K T W x cs → d.K T' W x cs) (hT : ∀ k, T' k → k < W.heap.size → S k ∧ k ≠ B)
    (hfresh : ∀ k, W.heap.size ≤ k → S k) (hl : ys.length * bytes ≤ 140737488355328)
    (h : ∀ v1 w1, Own d e S w1 v1 ys → Stp W w1 → wpList P ops Q rest (a.put o.dst v1) w1) :
    wpList P ops Q (o :: rest) a W := by
  refine wpList_plain hgd fun K hK => ?_
  obtain ⟨v1, w1, hr, h1, h2⟩ := run_appendfresh (P := P) t o.type e z bytes ht hinfo hz hs0 hb0 B hB hSB u ys HR hTT hT hfresh hl
  unfold Oper.wp execOp
  simp only [ho, resolve, invoke, builtin, Sem.run_bind, Sem.run_pure, Result.andThen_ok, List.map_toArray, List.map_cons, List.map_nil, hs, hx, hr]
  exact hK _ _ (h v1 w1 h1 h2)
theorem stp_appendfresh {T T' : Nat → Prop} {Kc : Act → World → Prop} {E : Prop} (hgd : o.guard = none) (s x : Operand) (t e : TypeId) (z : Value) (bytes : Nat)
    (ho : o.op = .call { callee := .builtin .append, args := #[s, x], argTypes := #[t, t] })
    (ht : P.underlying t = some (.slice e)) (hinfo : (P.info? e).map (fun i => (i.zero, i.size, i.bytes)) = some (some z, d.sz, bytes)) (hz : z.cells.size = d.sz) (hs0 : 0 < d.sz) (hb0 : 0 < bytes)
    (B : Nat) (hB : W.heap[B]? = some (.cells #[] e (0, 0))) (hSB : S B) (u : Value) (ys : List α) (hs : a.eval s = .slice (some ⟨B, 0, none⟩) 0 0) (hx : a.eval x = u) (HR : Row d T W u ys) (hTT : ∀ x cs, d.K T W x cs → d.K T' W x cs) (hT : ∀ k, T' k → k < W.heap.size → S k ∧ k ≠ B)
    (hfresh : ∀ k, W.heap.size ≤ k → S k) (hl : ys.length * bytes ≤ 140737488355328)
    (h : ∀ v1 w1, Own d e S w1 v1 ys → Stp W w1 → Kc (a.put o.dst v1) w1) :
    if Region.wanted o (yielded ops a.tmps) = true then Oper.wp P o a W Kc Q else E := by
  have hw : Region.wanted o (yielded ops a.tmps) = true := by simp [Region.wanted, hgd]
  rw [if_pos hw]
  obtain ⟨v1, w1, hr, h1, h2⟩ := run_appendfresh (P := P) t o.type e z bytes ht hinfo hz hs0 hb0 B hB hSB u ys HR hTT hT hfresh hl
  unfold Oper.wp execOp
  simp only [ho, resolve, invoke, builtin, Sem.run_bind, Sem.run_pure, Result.andThen_ok, List.map_toArray, List.map_cons, List.map_nil, hs, hx, hr]
  exact h v1 w1 h1 h2

/-- append(v, ys...), ys any slice. Behind 'at_builtin'. -/
theorem wpl_appendrow {T T' : Nat → Prop} (hgd : o.guard = none) (s x : Operand) (t e : TypeId) (z : Value) (bytes : Nat)
    (ho : o.op = .call { callee := .builtin .append, args := #[s, x], argTypes := #[t, t] })
    (ht : P.underlying t = some (.slice e)) (hinfo : (P.info? e).map (fun i => (i.zero, i.size, i.bytes)) = some (some z, d.sz, bytes)) (hz : z.cells.size = d.sz) (hs0 : 0 < d.sz) (hb0 : 0 < bytes)
    (v : Value) (xs : List α) (u : Value) (ys : List α) (hs : a.eval s = v) (hx : a.eval x = u) (HR : Row d T W u ys) (hTT : ∀ x cs, d.K T W x cs → d.K T' W x cs) (hT : ∀ k, T' k → k < W.heap.size → S k ∧ some k ≠ v.ownBlock)
    (HO : Own d e S W v xs) (hfresh : ∀ k, W.heap.size ≤ k → S k) (hl : (xs.length + ys.length) * bytes ≤ 140737488355328)
    (h : ∀ v1 w1, Own d e S w1 v1 (xs ++ ys) → W.grownBy w1 v.ownBlock → wpList P ops Q rest (a.put o.dst v1) w1) :
    wpList P ops Q (o :: rest) a W := by
  refine wpList_plain hgd fun K hK => ?_
  obtain ⟨v1, w1, hr, h1, h2, _⟩ := run_appendrow (P := P) t o.type e z bytes ht hinfo hz hs0 hb0 v xs u ys HR hTT hT HO hfresh hl
  unfold Oper.wp execOp
  simp only [ho, resolve, invoke, builtin, Sem.run_bind, Sem.run_pure, Result.andThen_ok, List.map_toArray, List.map_cons, List.map_nil, hs, hx, hr]
  exact hK _ _ (h v1 w1 h1 h2)

/-- The same as a step of a region that draws. -/
theorem stp_appendrow {T T' : Nat → Prop} {Kc : Act → World → Prop} {E : Prop} (hgd : o.guard = none) (s x : Operand) (t e : TypeId) (z : Value) (bytes : Nat)
    (ho : o.op = .call { callee := .builtin .append, args := #[s, x], argTypes := #[t, t] })
    (ht : P.underlying t = some (.slice e)) (hinfo : (P.info? e).map (fun i => (i.zero, i.size, i.bytes)) = some (some z, d.sz, bytes)) (hz : z.cells.size = d.sz) (hs0 : 0 < d.sz) (hb0 : 0 < bytes)
    (v : Value) (xs : List α) (u : Value) (ys : List α) (hs : a.eval s = v) (hx : a.eval x = u) (HR : Row d T W u ys) (hTT : ∀ x cs, d.K T W x cs → d.K T' W x cs) (hT : ∀ k, T' k → k < W.heap.size → S k ∧ some k ≠ v.ownBlock)
    (HO : Own d e S W v xs) (hfresh : ∀ k, W.heap.size ≤ k → S k) (hl : (xs.length + ys.length) * bytes ≤ 140737488355328)
    (h : ∀ v1 w1, Own d e S w1 v1 (xs ++ ys) → W.grownBy w1 v.ownBlock → Kc (a.put o.dst v1) w1) :
    if Region.wanted o (yielded ops a.tmps) = true then Oper.wp P o a W Kc Q else E := by
  have hw : Region.wanted o (yielded ops a.tmps) = true := by simp [Region.wanted, hgd]
  rw [if_pos hw]
  obtain ⟨v1, w1, hr, h1, h2, _⟩ := run_appendrow (P := P) t o.type e z bytes ht hinfo hz hs0 hb0 v xs u ys HR hTT hT HO hfresh hl
  unfold Oper.wp execOp
  simp only [ho, resolve, invoke, builtin, Sem.run_bind, Sem.run_pure, Result.andThen_ok, List.map_toArray, List.map_cons, List.map_nil, hs, hx, hr]
  exact h v1 w1 h1 h2

/-- One element in a block of its own, as a slice (an append's variadic). -/
theorem Row.box {T : Nat → Prop} {p : α} {cs : List Value} {e : TypeId} {B : Nat} (hB : W.heap[B]? = some (.cells cs.toArray e (0, 0))) (hT : T B) (hp : d.K T W p cs) : Row d T W (.slice (some ⟨B, 0, none⟩) 1 1) [p] := by
  refine ⟨⟨_, 1, rfl, by simp, by simp⟩, fun j hj => ?_⟩
  obtain rfl : j = 0 := by simpa using hj
  refine ⟨B, 0, 1, cs, rfl, hT, (Array.getElem?_eq_some_iff.1 hB).1, hp, fun i u hi => ?_⟩
  simp only [World.cell?, hB]
  simpa using hi

theorem Own.freshAt (d : Kd α) {e : TypeId} {S : Nat → Prop} {w : World} {B : Nat} (hB : w.heap[B]? = some (.cells #[] e (0, 0))) (hS : S B) : Own d e S w (.slice (some ⟨B, 0, none⟩) 0 0) [] := by
  refine ⟨fun k hk => ?_, [], ⟨by simp, .inr ⟨B, 0, #[], rfl, Nat.zero_le _, hB, by simp, by simp [maxLen], by simp, by simp⟩⟩, fun j hj => absurd hj (by simp)⟩
  have : B = k := by simpa [Value.ownBlock] using hk
  exact this ▸ hS
theorem heap_new (w : World) (o : Obj) (n : Nat) (h : n = w.heap.size) : (w.alloc o).heap[n]? = some o := h ▸ World.alloc_heap_new w o
theorem heap_old {w : World} {o x : Obj} {n : Nat} (h : w.heap[n]? = some x) : (w.alloc o).heap[n]? = some x := (Below.heap_alloc w o n (Array.getElem?_eq_some_iff.1 h).1).trans h
theorem heap_drew {w : World} {x : Obj} {n : Nat} (h : w.heap[n]? = some x) : w.drew.heap[n]? = some x := h
theorem Stp.heap {w w' : World} (h : Stp w w') {x : Obj} {n : Nat} (hx : w.heap[n]? = some x) : w'.heap[n]? = some x := (h.block (Array.getElem?_eq_some_iff.1 hx).1).trans hx
/-- A new slice without elements. -/
theorem Own.fresh (d : Kd α) (e : TypeId) (S : Nat → Prop) (w : World) (hS : S w.heap.size) : Own d e S (w.alloc (.cells #[] e)) (.slice (some ⟨w.heap.size, 0, none⟩) 0 0) [] := by
  refine ⟨fun k hk => ?_, [], ⟨by simp, .inr ⟨w.heap.size, 0, #[], rfl, Nat.zero_le _, World.alloc_heap_new w _, by simp, by simp [maxLen], by simp, by simp⟩⟩, fun j hj => absurd hj (by simp)⟩
  have : w.heap.size = k := by simpa [Value.ownBlock] using hk
  exact this ▸ hS
end
end
end Go.Proofs.Lime
namespace Go.Proofs.Lime
open Go.RowKit
set_option linter.unusedVariables false
set_option linter.unusedSimpArgs false
/-- Where the first is of which p holds (the first of the list has number k); below 0: there is none. -/
def idxFrom {α : Type} (p : α → Bool) : Int → List α → Int
  | _, [] => -1
  | k, x :: xs => if p x then k else idxFrom p (k + 1) xs
abbrev idx {α : Type} (p : α → Bool) (xs : List α) : Int := idxFrom p 0 xs
theorem idxFrom_hit {α : Type} {p : α → Bool} {k : Int} {xs : List α} {n : Nat} (h : n < xs.length) (hp : p xs[n] = true) : idxFrom p k (xs.drop n) = k := by
  rw [List.drop_eq_getElem_cons h, idxFrom, if_pos hp]
theorem idxFrom_miss {α : Type} {p : α → Bool} {k : Int} {xs : List α} {n : Nat} (h : n < xs.length) (hp : p xs[n] = false) : idxFrom p k (xs.drop n) = idxFrom p (k + 1) (xs.drop (n + 1)) := by
  rw [List.drop_eq_getElem_cons h, idxFrom, hp]; rfl
theorem idxFrom_end {α : Type} {p : α → Bool} {k : Int} {xs : List α} {n : Nat} (h : ¬ n < xs.length) : idxFrom p k (xs.drop n) = -1 := by
  rw [List.drop_eq_nil_of_le (by omega)]; rfl

theorem idxFrom_ge {α : Type} (p : α → Bool) (xs : List α) : ∀ (m : Int), idxFrom p m xs = -1 ∨ m ≤ idxFrom p m xs := by
  induction xs with
  | nil => intro m; exact .inl rfl
  | cons x xs ih =>
    intro m
    rw [idxFrom]
    split
    · exact .inr (Int.le_refl _)
    · rcases ih (m + 1) with h | h
      · exact .inl h
      · exact .inr (by omega)
theorem idx_any {α : Type} (p : α → Bool) (xs : List α) : decide (0 ≤ idx p xs) = xs.any p := by
  have : ∀ (k : Int), 0 ≤ k → decide (0 ≤ idxFrom p k xs) = xs.any p := by
    induction xs with
    | nil => intro k hk; simp [idxFrom]
    | cons x xs ih =>
      intro k hk
      rw [idxFrom, List.any_cons]
      cases p x
      · simpa using ih (k + 1) (by omega)
      · simpa using hk
  exact this 0 (by omega)

theorem idxFrom_nat {α : Type} (p : α → Bool) (xs : List α) : ∀ (m : Int), 0 ≤ m → 0 ≤ idxFrom p m xs → ∃ i : Nat, idxFrom p m xs = m + i ∧ ∃ h : i < xs.length, p xs[i] = true := by
  induction xs with
  | nil => intro m _ h; simp [idxFrom] at h
  | cons x xs ih =>
    intro m hm h
    rw [idxFrom] at h ⊢
    cases hx : p x with
    | true => exact ⟨0, by simp, by simp, hx⟩
    | false =>
      simp only [hx, Bool.false_eq_true, if_false] at h ⊢
      obtain ⟨i, h1, h2, h3⟩ := ih (m + 1) (by omega) h
      exact ⟨i + 1, by rw [h1]; omega, by simpa using h2, by simpa using h3⟩
theorem idx_nat {α : Type} {p : α → Bool} {xs : List α} (h : 0 ≤ idx p xs) : ∃ i : Nat, idx p xs = i ∧ ∃ h : i < xs.length, p xs[i] = true := by
  obtain ⟨i, h1, h2⟩ := idxFrom_nat p xs 0 (by omega) h
  exact ⟨i, by show idxFrom p 0 xs = _; rw [h1]; omega, h2⟩
theorem idx_lt {α : Type} (p : α → Bool) (xs : List α) : ∀ (m : Int) (k : Nat), 0 ≤ m → xs.any p = true → decide (idxFrom p m xs < m + k) = (xs.take k).any p := by
  induction xs with
  | nil => intro m k _ h; simp at h
  | cons x xs ih =>
    intro m k hm h
    rw [idxFrom]
    cases k with
    | zero =>
      simp only [List.take_zero, List.any_nil, decide_eq_false_iff_not]
      split
      · omega
      · rename_i hx
        have h2 : xs.any p = true := by simpa [hx] using h
        have := ih (m + 1) 0 (by omega) h2
        simp at this
        simp only [Int.natCast_zero, Int.add_zero]
        omega
    | succ k =>
      rw [List.take_succ_cons, List.any_cons]
      cases hx : p x with
      | true => simp; omega
      | false =>
        have h2 : xs.any p = true := by simpa [hx] using h
        have := ih (m + 1) k (by omega) h2
        simp only [Bool.false_eq_true, if_false, Bool.false_or]
        rw [← this]
        congr 1
        simp only [eq_iff_iff]
        omega
end Go.Proofs.Lime
namespace Go.Proofs.Lime
open Go.RowKit
set_option linter.unusedVariables false
set_option linter.unusedSimpArgs false

section
variable {P : Program} {ops : Array Oper} {Q : Exit → Act → World → Prop} {md : Region.Mode}

/-- In state a, in every world that comes of w with all that is old left as it was, o leaves v and does nothing else. -/
def Calm (P : Program) (ops : Array Oper) (o : Oper) (v : Value) (a : Act) (w : World) : Prop :=
  (Region.wanted o (yielded ops a.tmps) = true ∧ ∀ W, Stp w W → (execOp a.eval o).run P W = .ok (.value v) W) ∨
  (Region.wanted o (yielded ops a.tmps) = false ∧ v = undef)
theorem Calm.later {o : Oper} {v : Value} {a : Act} {w w' : World} (h : Calm P ops o v a w) (hs : Stp w w') : Calm P ops o v a w' :=
  h.imp (fun ⟨hw, hv⟩ => ⟨hw, fun W hW => hv W (hs.trans hW)⟩) id
theorem Calm.wpOp {i : Nat} {o : Oper} {v : Value} {a : Act} (hi : ops[i]? = some o) {w : World} (hy : Calm P ops o v a w)
    {K : Act → World → Prop} (h : K (a.put o.dst v) w) : wpOp P ops Q i K a w := by
  unfold Go.wpOp
  simp only [hi]
  rcases hy with ⟨hw, hv⟩ | ⟨hw, rfl⟩
  · simp only [hw, if_true, Oper.wp, hv w (Stp.refl w), Oper.upon]; exact .inl h
  · simp only [hw, Bool.false_eq_true, if_false]; exact h
theorem Calm.of_same {o : Oper} {v : Value} {a a' : Act} {w : World} (hy : Calm P ops o v a w) (he : execOp a'.eval o = execOp a.eval o)
    (hw : Region.wanted o (yielded ops a'.tmps) = Region.wanted o (yielded ops a.tmps)) : Calm P ops o v a' w := by
  unfold Calm at *
  rw [he, hw]
  exact hy

theorem wpOp_calm {j : Nat} {oi oj : Oper} {v : Value} (hj : ops[j]? = some oj) (hap : oi.apart ops oj = true)
    (hsi : ∀ cs b, oi.op ≠ .select cs b) (hsj : ∀ cs b, oj.op ≠ .select cs b)
    (hQ : ∀ c a w, Q (.panic c) (a.put oi.dst v) w → Q (.panic c) a w) {K : Act → World → Prop} {a : Act} {w : World}
    (hy : Calm P ops oi v a w) (h : wpOp P ops Q j (fun a' w' => Stp w w' ∧ K a' w') (a.put oi.dst v) w) :
    wpOp P ops Q j (fun a' w' => Stp w w' ∧ Calm P ops oi v a' w ∧ K (a'.put oi.dst v) w') a w := by
  obtain ⟨h1, h2, h3⟩ := Oper.apart_spec hap
  have keep : ∀ (a : Act), Calm P ops oi v a w → ∀ u, Calm P ops oi v (a.put oj.dst u) w := fun a hy u =>
    hy.of_same (execOp_put oi hsi a oj.dst u h3) (wanted_put oi a oj.dst u h3)
  have keepD : ∀ d, Calm P ops oi v { a with defers := d :: a.defers } w := fun d => hy.of_same rfl rfl
  unfold Go.wpOp at *
  simp only [hj] at *
  rw [wanted_put oj a oi.dst v h1] at h
  split
  · rename_i hw
    simp only [hw, if_true] at h
    rcases h with h | ⟨hasks, hlets⟩
    case inr => exact .inr ⟨by unfold Oper.asks at *; rw [execOp_put oj hsj a oi.dst v h1] at hasks; exact hasks, hlets⟩
    refine .inl ?_
    unfold Oper.wp at *
    rw [execOp_put oj hsj a oi.dst v h1] at h
    generalize (execOp a.eval oj).run P w = r at *
    cases r with
    | ok n w' =>
      cases n <;> simp only [Oper.upon] at h ⊢
      case value u => exact ⟨h.1, keep a hy u, by rw [← Act.put_comm a v u h2]; exact h.2⟩
      case skip => exact ⟨h.1, keep a hy _, by rw [← Act.put_comm a v undef h2]; exact h.2⟩
      case defer d =>
        refine ⟨h.1, (keepD d).of_same (execOp_put oi hsi _ oj.dst undef h3) (wanted_put oi _ oj.dst undef h3), ?_⟩
        rw [← Act.put_comm _ v undef h2, ← Act.put_defers]
        exact h.2
      case enter f args =>
        refine Calls.mono h fun e w'' he => ?_
        cases e with
        | returned u => exact ⟨he.1, keep a hy u, by rw [← Act.put_comm a v u h2]; exact he.2⟩
        | panicked c => exact hQ _ _ _ he
        | outgrown => exact he
      case row row args => exact Rows.mono h fun u w'' he => ⟨he.1, keep a hy u, by rw [← Act.put_comm a v u h2]; exact he.2⟩
    | halt x w' =>
      cases x <;> simp only [Oper.upon] at h ⊢
      case panic u => exact hQ _ _ _ h
  · rename_i hw
    simp only [hw] at h
    exact ⟨h.1, keep a hy _, by rw [← Act.put_comm a v undef h2]; exact h.2⟩

/-- Whatever order is picked from here on, and each operation leaves old memory as it was. -/
def wpAnyR (P : Program) (md : Region.Mode) (ops : Array Oper) (Q : Exit → Act → World → Prop) : Nat → Array Bool → Act → World → Prop
  | 0, listed, a, w => Region.ready md ops listed = [] ∧ Q .normal a w
  | fuel + 1, listed, a, w =>
    (Region.ready md ops listed = [] → Q .normal a w) ∧
    ∀ i ∈ Region.ready md ops listed, wpOp P ops Q i (fun a' w' => Stp w w' ∧ wpAnyR P md ops Q fuel (listed.setIfInBounds i true) a' w') a w
theorem wpAny_of_R : ∀ (fuel : Nat) (listed : Array Bool) (a : Act) (w : World), wpAnyR P md ops Q fuel listed a w → wpAny P md ops Q fuel listed a w
  | 0, _, _, _, h => h
  | fuel + 1, _, _, _, h => ⟨h.1, fun i hi => wpOp_mono (fun a' w' h' => wpAny_of_R fuel _ a' w' h'.2) (h.2 i hi)⟩

theorem wpAnyR_first {i : Nat} {oi : Oper} {v : Value} (hi : ops[i]? = some oi) (hsel : ∀ (j : Nat) (o : Oper) cs b, ops[j]? = some o → o.op ≠ .select cs b)
    (hQ : ∀ c a w, Q (.panic c) (a.put oi.dst v) w → Q (.panic c) a w) :
    ∀ (fuel : Nat) (listed : Array Bool) (a : Act) (w : World),
      (∀ j oj, ops[j]? = some oj → j ≠ i → listed.getD j true = false → (∀ e ∈ oj.after, Region.binds md e = true → e.on ≠ i) → oi.apart ops oj = true) →
      i ∈ Region.ready md ops listed → Calm P ops oi v a w →
      wpAnyR P md ops Q fuel (listed.setIfInBounds i true) (a.put oi.dst v) w → wpAnyR P md ops Q (fuel + 1) listed a w := by
  intro fuel
  induction fuel with
  | zero =>
    intro listed a w _ hr hy H
    refine ⟨fun h => (by rw [h] at hr; cases hr), fun j hj => ?_⟩
    by_cases hji : j = i
    · subst hji; exact hy.wpOp hi ⟨Stp.refl w, H⟩
    · have := ready_mono hj hji
      rw [H.1] at this
      cases this
  | succ fuel ih =>
    intro listed a w hfree hr hy H
    refine ⟨fun h => (by rw [h] at hr; cases hr), fun j hj => ?_⟩
    by_cases hji : j = i
    · subst hji; exact hy.wpOp hi ⟨Stp.refl w, H⟩
    · have h1 := H.2 j (ready_mono hj hji)
      obtain ⟨hjun, oj, hoj, hall⟩ := mem_ready.1 hj
      have hnot : ∀ e ∈ oj.after, Region.binds md e = true → e.on ≠ i := fun e he hb heq => by
        have h1 := hall e he hb
        have h0 := (mem_ready.1 hr).1
        rw [heq] at h1
        rcases Nat.lt_or_ge i listed.size with h' | h'
        · simp [h'] at h0 h1; rw [h0] at h1; cases h1
        · simp [Array.getElem?_eq_none h'] at h1
      have h2 := wpOp_calm hoj (hfree j oj hoj hji hjun hnot) (fun cs b => hsel i oi cs b hi) (fun cs b => hsel j oj cs b hoj) hQ hy h1
      have hfree' : ∀ k ok, ops[k]? = some ok → k ≠ i → (listed.setIfInBounds j true).getD k true = false →
          (∀ e ∈ ok.after, Region.binds md e = true → e.on ≠ i) → oi.apart ops ok = true := fun k ok hk hki hun hno => by
        refine hfree k ok hk hki ?_ hno
        by_cases hjk : j = k
        · subst hjk; exact hjun
        · rw [getD_set_ne true hjk] at hun; exact hun
      refine wpOp_mono (fun a' w' h3 => ⟨h3.1, ih (listed.setIfInBounds j true) a' w' hfree' (ready_mono hr (Ne.symm hji)) (h3.2.1.later h3.1) ?_⟩) h2
      rw [Array.setIfInBounds_comm _ _ hji]
      exact h3.2.2

/-- How a region is walked: what is taken at once; what may come up. -/
inductive Plan where
  | done
  | calm (i : Nat) (p : Plan)
  | alt (i : Nat) (p more : Plan)
  | stop

def Plan.heads : Plan → List Nat
  | .alt i _ m => i :: m.heads
  | _ => []
def Plan.ok (ops : Array Oper) : Plan → Bool → Nat → Array Bool → Bool
  | .done, b, _, l => !b && Region.ready .any ops l == []
  | .calm i p, b, n + 1, l => !b && ((Region.ready .any ops l).contains i && (Region.free .any ops l i && p.ok ops false n (l.setIfInBounds i true)))
  | .alt i p m, b, n + 1, l => (b || Region.ready .any ops l == i :: m.heads) && (p.ok ops false n (l.setIfInBounds i true) && m.ok ops true (n + 1) l)
  | .stop, b, _, _ => b
  | _, _, _, _ => false
def Plan.wp (P : Program) (ops : Array Oper) (Q : Exit → Act → World → Prop) : Plan → Act → World → Prop
  | .done, a, w => Q .normal a w
  | .calm i p, a, w => ∃ o v, ops[i]? = some o ∧ Calm P ops o v a w ∧ p.wp P ops Q (a.put o.dst v) w
  | .alt i p m, a, w => wpOp P ops (NoPanic Q) i (fun a' w' => Stp w w' ∧ p.wp P ops Q a' w') a w ∧ m.wp P ops Q a w
  | .stop, _, _ => True

theorem Plan.sound (hs : Region.noSelect ops = true) : ∀ (p : Plan) (b : Bool) (n : Nat) (l : Array Bool) (a : Act) (w : World), p.ok ops b n l = true → p.wp P ops Q a w →
    (b = false → wpAnyR P .any ops (NoPanic Q) n l a w) ∧ (b = true → ∀ k, n = k + 1 → ∀ i ∈ p.heads, wpOp P ops (NoPanic Q) i (fun a' w' => Stp w w' ∧ wpAnyR P .any ops (NoPanic Q) k (l.setIfInBounds i true) a' w') a w)
  | .done, b, n, l, a, w, ho, hw => by
    cases b with
    | true => simp [Plan.ok] at ho
    | false =>
      have hr : Region.ready .any ops l = [] := by simpa [Plan.ok] using ho
      refine ⟨fun _ => ?_, fun h => (by cases h)⟩
      cases n with
      | zero => exact ⟨hr, hw⟩
      | succ n => exact ⟨fun _ => hw, fun i hi => by rw [hr] at hi; cases hi⟩
  | .calm i p, b, n, l, a, w, ho, hw => by
    cases n with
    | zero => simp [Plan.ok] at ho
    | succ n =>
      cases b with
      | true => simp [Plan.ok] at ho
      | false =>
        simp only [Plan.ok, Bool.not_false, Bool.true_and, Bool.and_eq_true] at ho
        obtain ⟨h1, h2, h3⟩ := ho
        obtain ⟨o, v, hi, hc, hp⟩ := hw
        exact ⟨fun _ => wpAnyR_first hi (Region.noSelect_spec hs) (fun c a w h => h) n l a w (Region.free_spec hi h2) (by simpa using h1) hc ((Plan.sound hs p false n _ _ _ h3 hp).1 rfl), fun h => (by cases h)⟩
  | .alt i p m, b, n, l, a, w, ho, hw => by
    cases n with
    | zero => simp [Plan.ok] at ho
    | succ n =>
      simp only [Plan.ok, Bool.and_eq_true] at ho
      obtain ⟨h1, h2, h3⟩ := ho
      have one := fun (j : Nat) (hj : j ∈ (Plan.alt i p m).heads) => show wpOp P ops (NoPanic Q) j (fun a' w' => Stp w w' ∧ wpAnyR P .any ops (NoPanic Q) n (l.setIfInBounds j true) a' w') a w from by
        rcases List.mem_cons.1 hj with rfl | hj
        · exact wpOp_mono (fun a' w' h => ⟨h.1, (Plan.sound hs p false n _ a' w' h2 h.2).1 rfl⟩) hw.1
        · exact (Plan.sound hs m true (n + 1) l a w h3 hw.2).2 rfl n rfl j hj
      refine ⟨fun hb => ?_, fun _ k hk j hj => by
        obtain rfl : n = k := by omega
        exact one j hj⟩
      subst hb
      have hr : Region.ready .any ops l = i :: m.heads := by simpa using h1
      exact ⟨fun h => (by rw [hr] at h; cases h), fun j hj => one j (by rw [hr] at hj; exact hj)⟩
  | .stop, b, n, l, a, w, ho, hw => by
    cases b with
    | true => exact ⟨fun h => (by cases h), fun _ _ _ j hj => (by cases hj)⟩
    | false => simp [Plan.ok] at ho

/-- A region that draws, by a plan. -/
theorem wp_region_plan (p : Plan) {id : Nat} {a : Act} {w : World} (hm : P.follows .mixedOrders = true) (hs : Region.noSelect ops = true) (hp : p.ok ops false ops.size (Array.replicate ops.size false) = true)
    (h : p.wp P ops Q a w.drew) : (Code.region id ops true).wp P Q a w :=
  wp_region_noPanic (wp_region_any hm (wpAny_of_R _ _ _ _ ((Plan.sound hs p false _ _ a _ hp h).1 rfl)))

variable {a : Act} {w : World} {p m : Plan} {i : Nat} {o : Oper}
theorem plan_done (h : Q .normal a w) : Plan.done.wp P ops Q a w := h
theorem plan_calm {v : Value} (hi : ops[i]? = some o) (hw : Region.wanted o (yielded ops a.tmps) = true) (hv : ∀ W, Stp w W → (execOp a.eval o).run P W = .ok (.value v) W)
    (h : p.wp P ops Q (a.put o.dst v) w) : (Plan.calm i p).wp P ops Q a w := ⟨o, v, hi, .inl ⟨hw, hv⟩, h⟩
theorem plan_calm_skip (hi : ops[i]? = some o) (hw : Region.wanted o (yielded ops a.tmps) = false)
    (h : p.wp P ops Q (a.put o.dst undef) w) : (Plan.calm i p).wp P ops Q a w := ⟨o, undef, hi, .inr ⟨hw, rfl⟩, h⟩
theorem plan_event (hi : ops[i]? = some o) (hw : Region.wanted o (yielded ops a.tmps) = true)
    (h : ∀ K : Act → World → Prop, (∀ a' w', Stp w w' → (Stp w w' → p.wp P ops Q a' w') → K a' w') → Oper.wp P o a w K (NoPanic Q)) (hm : m.wp P ops Q a w) : (Plan.alt i p m).wp P ops Q a w := by
  refine ⟨?_, hm⟩
  unfold Go.wpOp
  simp only [hi, hw, if_true]
  exact .inl (h _ fun a' w' h1 h2 => ⟨h1, h2 h1⟩)
theorem plan_event_skip (hi : ops[i]? = some o) (hw : Region.wanted o (yielded ops a.tmps) = false)
    (h : p.wp P ops Q (a.put o.dst undef) w) (hm : m.wp P ops Q a w) : (Plan.alt i p m).wp P ops Q a w := by
  refine ⟨?_, hm⟩
  unfold Go.wpOp
  simp only [hi, hw, Bool.false_eq_true, if_false]
  exact ⟨Stp.refl w, h⟩
theorem plan_stop : Plan.stop.wp P ops Q a w := trivial
end
end Go.Proofs.Lime
namespace Go.Proofs.Lime
open Go.RowKit Go.ChangeShapes Go.WideShapes
set_option linter.unusedVariables false
set_option linter.unusedSimpArgs false

/-- What reads as the type e is an element of the kind d, and fair. -/
def Opens {α : Type} (d : Kd α) (G : α → Prop) (e : TypeId) : Prop := ∀ (H : Type) (enc : TypeId × Value → H) (w : World) (base : Nat) (spare : Nat → Bool) (held : Bool) (fuel : Nat) (cs : List Value) (x : DataW H × List MemPlace),
  DataW.trod enc Tryz.prog w base spare held fuel e cs = some x → ∃ y, d.K (fun _ => True) w y cs ∧ G y

theorem open_field {H : Type} {enc : TypeId × Value → H} {w : World} {base : Nat} {spare : Nat → Bool} {held : Bool} {fuel : Nat} {t : TypeId} {fs : Array Field} {cs : List Value} {x : DataW H × List MemPlace}
    (ht : Tryz.prog.underlying t = some (.struct fs)) (h : DataW.trod enc Tryz.prog w base spare held fuel t cs = some x) (i : Nat) (f : Field) (hf : fs[i]? = some f) :
    ∃ n y, DataW.trod enc Tryz.prog w base spare held n f.type ((cs.drop f.offset).take (Tryz.prog.cellsOf f.type)) = some y := by
  obtain ⟨xs, n, _, _, _, hl, hx⟩ := DataW.trod_struct ht h
  have h1 := hx i f hf
  have h2 : i < xs.length := by rw [hl]; exact (Array.getElem?_eq_some_iff.1 hf).1
  rw [List.getElem?_eq_getElem h2] at h1
  exact ⟨n, _, h1⟩

theorem open_row {α : Type} {d : Kd α} {G : α → Prop} {t e : TypeId} (ho : Opens d G e) (ht : Tryz.prog.underlying t = some (.slice e)) (hc : Tryz.prog.cellsOf e = d.sz) (hz : 0 < d.sz)
    {H : Type} {enc : TypeId × Value → H} {w : World} {base : Nat} {spare : Nat → Bool} {held : Bool} {fuel : Nat} {cs : List Value} {x : DataW H × List MemPlace} (h : DataW.trod enc Tryz.prog w base spare held fuel t cs = some x) :
    ∃ v xs, cs = [v] ∧ Row d (fun _ => True) w v xs ∧ ∀ y ∈ xs, G y := by
  rcases Go.Deep.open_slice ht h with ⟨rfl, _⟩ | ⟨a, len, cap, m, n, D, Pl, rfl, hb, hl, hm, hmm, _, hx⟩
  · exact ⟨_, [], rfl, Row.nil d _ w, by simp⟩
  · rw [hc] at hx
    have key : ∀ i : Nat, ∃ y : Option α, i < len → ∃ y0 cs', y = some y0 ∧ d.K (fun _ => True) w y0 cs' ∧ G y0 ∧ (∀ j u, cs'[j]? = some u → w.cell? ((a.add (i * d.sz)).add j) = some u) ∧ cs'.length = d.sz := by
      intro i
      by_cases hi : i < len
      · obtain ⟨cs', h1, h2⟩ := hx i (by rw [hmm]; split <;> omega)
        obtain ⟨_, h3, h4⟩ := World.cells?_some h1
        obtain ⟨y, hy, hg⟩ := ho _ _ _ _ _ _ _ _ _ h2
        exact ⟨some y, fun _ => ⟨y, cs', rfl, hy, hg, fun j u hj => by rw [h4 j (by rw [← h3]; exact (List.getElem?_eq_some_iff.1 hj).1)]; exact hj, h3⟩⟩
      · exact ⟨none, fun h => absurd h hi⟩
    have key2 : ∀ k, k ≤ len → ∃ xs : List α, xs.length = k ∧ ∀ i (hi : i < xs.length), ∃ cs', d.K (fun _ => True) w xs[i] cs' ∧ G xs[i] ∧ (∀ j u, cs'[j]? = some u → w.cell? ((a.add (i * d.sz)).add j) = some u) ∧ cs'.length = d.sz := by
      intro k
      induction k with
      | zero => intro _; exact ⟨[], rfl, fun i hi => absurd hi (by simp)⟩
      | succ k ih =>
        intro hk
        obtain ⟨xs, h1, h2⟩ := ih (by omega)
        obtain ⟨y, hy⟩ := key k
        obtain ⟨y0, cs', _, h3, h4, h5, h6⟩ := hy (by omega)
        refine ⟨xs ++ [y0], by simp [h1], fun i hi => ?_⟩
        rw [List.length_append, List.length_singleton] at hi
        by_cases hlt : i < xs.length
        · rw [List.getElem_append_left hlt]; exact h2 i hlt
        · obtain rfl : i = k := by omega
          rw [List.getElem_append_right (by omega)]
          simp only [h1, Nat.sub_self, List.getElem_cons_zero]
          exact ⟨cs', h3, h4, h5, h6⟩
    obtain ⟨xs, rfl, hxs⟩ := key2 len (Nat.le_refl _)
    refine ⟨_, xs, rfl, ⟨⟨_, _, rfl, hl, by have hm' := hm; unfold maxLen at hm'; omega⟩, fun j hj => ?_⟩, fun y hy => ?_⟩
    · obtain ⟨cs', hK, _, hcell, hlen⟩ := hxs j hj
      obtain ⟨b, o, s⟩ := a
      have hs : s = none := by
        by_cases hj0 : j * d.sz = 0
        · have h0 := hcell 0 cs'[0] (by rw [List.getElem?_eq_getElem])
          have := World.cell?_spot h0
          simpa [Addr.add, hj0] using this
        · obtain ⟨cs0, _, _, hcell0, hlen0⟩ := hxs 0 (by omega)
          have h0 := hcell0 0 cs0[0] (by rw [List.getElem?_eq_getElem])
          have := World.cell?_spot h0
          simpa [Addr.add] using this
      subst hs
      have had : ∀ i, ((⟨b, o, none⟩ : Addr).add (j * d.sz)).add i = ⟨b, o + j * d.sz + i, none⟩ := fun i => by unfold Addr.add; split <;> split <;> simp_all
      refine ⟨b, o, cap, cs', rfl, trivial, ?_, hK, fun i u hi => by rw [← had]; exact hcell i u hi⟩
      have h0 := hcell 0 cs'[0] (by rw [List.getElem?_eq_getElem])
      rw [had] at h0
      exact World.block_lt_of_cell? w _ h0
    · obtain ⟨i, hi, rfl⟩ := List.getElem_of_mem hy
      obtain ⟨_, _, hG, _⟩ := hxs i hi
      exact hG

set_option maxRecDepth 10000 in
/-- A list that came as an argument. -/
theorem open_list {α : Type} {d : Kd α} {G : α → Prop} {t e : TypeId} (ho : Opens d G e) (ht : Tryz.prog.underlying t = some (.slice e)) (hc : Tryz.prog.cellsOf e = d.sz) (hz : 0 < d.sz)
    {H : Type} {enc : TypeId × Value → H} {w : World} {base b0 : Nat} {r : Reach} {spare : Nat → Bool} {held : Bool} {v : Value} {D : DataW H} {ps : List MemPlace} (hval : Value.okWide Tryz.prog w r b0 t v) (h : DataW.Trod enc Tryz.prog w base spare held t v D ps) :
    ∃ xs, Row d (fun _ => True) w v xs ∧ ∀ y ∈ xs, G y := by
  obtain ⟨a, n, c, rfl⟩ := okWide_slice ht hval
  obtain ⟨fuel, hf⟩ := h
  obtain ⟨v, xs, e, h1, h2⟩ := open_row ho ht hc hz hf
  simp only [Value.cells, List.cons.injEq, and_true] at e
  subst e
  exact ⟨xs, h1, h2⟩
set_option maxRecDepth 10000 in
/-- A struct that came as an argument. -/
theorem open_agg {α : Type} {d : Kd α} {G : α → Prop} {t : TypeId} {fs : Array Field} (ho : Opens d G t) (ht : Tryz.prog.underlying t = some (.struct fs))
    {H : Type} {enc : TypeId × Value → H} {w : World} {base b0 : Nat} {r : Reach} {spare : Nat → Bool} {held : Bool} {v : Value} {D : DataW H} {ps : List MemPlace} (hval : Value.okWide Tryz.prog w r b0 t v) (h : DataW.Trod enc Tryz.prog w base spare held t v D ps) :
    ∃ y cs, v = .agg cs ∧ d.K (fun _ => True) w y cs.toList ∧ G y := by
  obtain ⟨cs, rfl, hs⟩ := okWide_struct ht hval
  obtain ⟨fuel, hf⟩ := h
  obtain ⟨y, h1, h2⟩ := ho _ _ _ _ _ _ _ _ _ hf
  exact ⟨y, cs, rfl, h1, h2⟩
theorem trod_lts {H : Type} {enc : TypeId × Value → H} {w : World} {base : Nat} {spare : Nat → Bool} {held : Bool} {t : TypeId} {v : Value} {D : DataW H} {ps : List MemPlace} (h : DataW.Trod enc Tryz.prog w base spare held t v D ps) :
    ∀ x ∈ ps, x.block < w.heap.size := by
  obtain ⟨m, hm⟩ := h
  exact DataW.trod_lt m _ _ _ hm
theorem laidOut : laidOutB Tryz.prog = true := by kernel_rfl
theorem own : ownKnob Tryz.prog.godebug = none := by kernel_rfl
end Go.Proofs.Lime
namespace Go.Proofs.Lime
open Go.RowKit
set_option linter.unusedVariables false
set_option linter.unusedSimpArgs false

theorem ret_bool {a b : Bool} (h : a = b) : Ending.returned (.bool a) = .returned (.bool b) := by rw [h]
/-- Whole numbers. -/
def intK : Kd Int := Kd.flat 1 (fun n => [.int .i64 n]) (fun _ => rfl) (fun x u hu => by
  simp only [List.mem_cons, List.not_mem_nil, or_false] at hu
  subst hu; rfl)
structure Attr where
  name : Int
  value : Int
def Attr.cells (a : Attr) : List Value := [.int .i64 a.name, .int .i64 a.value]
abbrev Attr.val (a : Attr) : Value := .agg #[.int .i64 a.name, .int .i64 a.value]
def attrK : Kd Attr := Kd.flat 2 Attr.cells (fun _ => rfl) (fun x u hu => by
  simp only [Attr.cells, List.mem_cons, List.not_mem_nil, or_false] at hu
  rcases hu with rfl | rfl <;> rfl)
structure Nd where
  kind : Int
  tag : Int
  parent : Int
  kids : List Int
  host : Int
  root : Int
  attrs : List Attr
abbrev Nd.val (x : Nd) (vk va : Value) : Value := .agg #[.int .i64 x.kind, .int .i64 x.tag, .int .i64 x.parent, vk, .int .i64 x.host, .int .i64 x.root, va]

theorem Row.one {α : Type} {d : Kd α} {S : Nat → Prop} {w : World} {v : Value} {xs : List α} (h : Row d S w v xs) : v.oneCell' = true := by
  obtain ⟨A, c, rfl, _⟩ := h.form; rfl
theorem Row.bound {α : Type} {d : Kd α} {S : Nat → Prop} {w : World} {v : Value} {xs : List α} (h : Row d S w v xs) : Row d (fun k => S k ∧ k < w.heap.size) w v xs := by
  refine ⟨h.form, fun j hj => ?_⟩
  obtain ⟨b, o, c, cs, rfl, hS, hb, hk, hc⟩ := h.get j hj
  exact ⟨b, o, c, cs, rfl, ⟨hS, hb⟩, hb, d.bound hk, hc⟩
def nodeK : Kd Nd where
  sz := 7
  K := fun S w x cs => ∃ vk va, cs = [.int .i64 x.kind, .int .i64 x.tag, .int .i64 x.parent, vk, .int .i64 x.host, .int .i64 x.root, va] ∧ Row intK S w vk x.kids ∧ Row attrK S w va x.attrs
  len := fun h => by obtain ⟨vk, va, rfl, _⟩ := h; rfl
  one := fun h u hu => by
    obtain ⟨vk, va, rfl, hk, ha⟩ := h
    simp only [List.mem_cons, List.not_mem_nil, or_false] at hu
    rcases hu with rfl | rfl | rfl | rfl | rfl | rfl | rfl
    · rfl
    · rfl
    · rfl
    · exact hk.one
    · rfl
    · rfl
    · exact ha.one
  move := fun {S w w1 x cs} hm h => by
    obtain ⟨vk, va, rfl, hk, ha⟩ := h
    have go : ∀ {α : Type} {d : Kd α} {v : Value} {xs : List α}, Row d S w v xs → Row d S w1 v xs := fun {α d v xs} h => by
      refine ⟨h.form, fun j hj => ?_⟩
      obtain ⟨b, o, c, cs, rfl, hS, hb, hk, hc⟩ := h.get j hj
      refine ⟨b, o, c, cs, rfl, hS, ?_, d.move hm hk, fun i u hi => (World.cell?_of_block (w := w) (a := ⟨b, o + j * d.sz + i, none⟩) (hm b hS)).trans (hc i u hi)⟩
      have := hm b hS
      rw [Array.getElem?_eq_getElem hb] at this
      exact (Array.getElem?_eq_some_iff.1 this).1
    exact ⟨vk, va, rfl, go hk, go ha⟩
  mono := fun hs h => by
    obtain ⟨vk, va, rfl, hk, ha⟩ := h
    exact ⟨vk, va, rfl, hk.mono hs, ha.mono hs⟩
  bound := fun h => by
    obtain ⟨vk, va, rfl, hk, ha⟩ := h
    exact ⟨vk, va, rfl, hk.bound, ha.bound⟩

section
variable {S : Nat → Prop} {w : World} {A : Option Addr} {n c : Nat}
theorem int_at {xs : List Int} (h : Row intK S w (.slice A n c) xs) (k : Nat) (hk : k < xs.length) :
    ∃ b o, A = some ⟨b, o, none⟩ ∧ S b ∧ b < w.heap.size ∧ w.cell? ⟨b, o + k, none⟩ = some (.int .i64 xs[k]) := by
  obtain ⟨b, o, c', cs, e, hS, hb, hK, hc⟩ := h.get k hk
  injection e with e1 e2 e3
  have hK' : cs = [.int .i64 xs[k]] := hK
  subst hK'
  have h1 := hc 0 _ rfl
  have h2 : intK.sz = 1 := rfl
  rw [h2, Nat.mul_one, Nat.add_zero] at h1
  exact ⟨b, o, e1, hS, hb, h1⟩
theorem attr_at {xs : List Attr} (h : Row attrK S w (.slice A n c) xs) (k : Nat) (hk : k < xs.length) :
    ∃ b o, A = some ⟨b, o, none⟩ ∧ S b ∧ b < w.heap.size ∧ w.cell? ⟨b, o + k * 2, none⟩ = some (.int .i64 xs[k].name) ∧ w.cell? ⟨b, o + k * 2 + 1, none⟩ = some (.int .i64 xs[k].value) := by
  obtain ⟨b, o, c', cs, e, hS, hb, hK, hc⟩ := h.get k hk
  injection e with e1 e2 e3
  have hK' : cs = Attr.cells xs[k] := hK
  subst hK'
  exact ⟨b, o, e1, hS, hb, hc 0 _ rfl, hc 1 _ rfl⟩
theorem node_at {t : List Nd} (h : Row nodeK S w (.slice A n c) t) (k : Nat) (hk : k < t.length) :
    ∃ b o Ak ck Aa ca, A = some ⟨b, o, none⟩ ∧ S b ∧ b < w.heap.size ∧ w.cell? ⟨b, o + k * 7, none⟩ = some (.int .i64 t[k].kind) ∧ w.cell? ⟨b, o + k * 7 + 1, none⟩ = some (.int .i64 t[k].tag) ∧ w.cell? ⟨b, o + k * 7 + 2, none⟩ = some (.int .i64 t[k].parent) ∧
      w.cell? ⟨b, o + k * 7 + 3, none⟩ = some (.slice Ak t[k].kids.length ck) ∧ w.cell? ⟨b, o + k * 7 + 4, none⟩ = some (.int .i64 t[k].host) ∧ w.cell? ⟨b, o + k * 7 + 5, none⟩ = some (.int .i64 t[k].root) ∧ w.cell? ⟨b, o + k * 7 + 6, none⟩ = some (.slice Aa t[k].attrs.length ca) ∧
      Row intK S w (.slice Ak t[k].kids.length ck) t[k].kids ∧ Row attrK S w (.slice Aa t[k].attrs.length ca) t[k].attrs ∧ t[k].kids.length ≤ ck ∧ t[k].kids.length ≤ 9223372036854775807 ∧ t[k].attrs.length ≤ ca ∧ t[k].attrs.length ≤ 9223372036854775807 := by
  obtain ⟨b, o, c', cs, e, hS, hb, hK, hc⟩ := h.get k hk
  injection e with e1 e2 e3
  obtain ⟨vk, va, rfl, h1, h2⟩ := hK
  obtain ⟨Ak, ck, rfl, l1, m1⟩ := h1.form
  obtain ⟨Aa, ca, rfl, l2, m2⟩ := h2.form
  exact ⟨b, o, Ak, ck, Aa, ca, e1, hS, hb, hc 0 _ rfl, hc 1 _ rfl, hc 2 _ rfl, hc 3 _ rfl, hc 4 _ rfl, hc 5 _ rfl, hc 6 _ rfl, h1, h2, l1, m1, l2, m2⟩
end
theorem infoInt : (Tryz.prog.info? 3).map (fun i => (i.zero, i.size, i.bytes)) = some (some (.int .i64 0), 1, 8) := by kernel_rfl
end Go.Proofs.Lime
namespace Go.Proofs.Lime
open Go.RowKit Go.ChangeShapes Go.WideShapes
set_option linter.unusedVariables false
set_option linter.unusedSimpArgs false
theorem open_kint : Opens intK (fun n => (Lit.int .i64 n).wf = true) 3 := by
  intro H enc w base spare held fuel cs x h
  obtain ⟨n, rfl, _, hw⟩ := DataW.trod_int Tryz.underlying3 h
  exact ⟨n, rfl, hw⟩
theorem open_kattr : Opens attrK (fun _ => True) 112 := by
  intro H enc w base spare held fuel cs x h
  have hl : cs.length = 2 := by
    obtain ⟨_, _, _, _, hl, _⟩ := DataW.trod_struct Tryz.underlying112 h
    exact hl.trans (by kernel_rfl)
  match cs, hl with
  | [c0, c1], _ =>
    have c1n : Tryz.prog.cellsOf 3 = 1 := by kernel_rfl
    obtain ⟨n0, y0, f0⟩ := open_field Tryz.underlying112 h 0 _ rfl
    obtain ⟨n1, y1, f1⟩ := open_field Tryz.underlying112 h 1 _ rfl
    simp only [List.getElem_toArray, List.getElem_cons_succ, List.getElem_cons_zero, c1n, List.drop_succ_cons, List.drop_zero, List.take_succ_cons, List.take_zero] at f0 f1
    obtain ⟨m0, e0, _, _⟩ := DataW.trod_int Tryz.underlying3 f0
    obtain ⟨m1, e1, _, _⟩ := DataW.trod_int Tryz.underlying3 f1
    simp only [List.cons.injEq, and_true] at e0 e1
    subst e0 e1
    exact ⟨⟨m0, m1⟩, rfl, trivial⟩
theorem open_knode : Opens nodeK (fun _ => True) 51 := by
  intro H enc w base spare held fuel cs x h
  have hl : cs.length = 7 := by
    obtain ⟨_, _, _, _, hl, _⟩ := DataW.trod_struct Tryz.underlying51 h
    exact hl.trans (by kernel_rfl)
  match cs, hl with
  | [c0, c1, c2, c3, c4, c5, c6], _ =>
    have c1n : Tryz.prog.cellsOf 3 = 1 := by kernel_rfl
    have c1k : Tryz.prog.cellsOf 48 = 1 := by kernel_rfl
    have c1a : Tryz.prog.cellsOf 49 = 1 := by kernel_rfl
    obtain ⟨n0, y0, f0⟩ := open_field Tryz.underlying51 h 0 _ rfl
    obtain ⟨n1, y1, f1⟩ := open_field Tryz.underlying51 h 1 _ rfl
    obtain ⟨n2, y2, f2⟩ := open_field Tryz.underlying51 h 2 _ rfl
    obtain ⟨n3, y3, f3⟩ := open_field Tryz.underlying51 h 3 _ rfl
    obtain ⟨n4, y4, f4⟩ := open_field Tryz.underlying51 h 4 _ rfl
    obtain ⟨n5, y5, f5⟩ := open_field Tryz.underlying51 h 5 _ rfl
    obtain ⟨n6, y6, f6⟩ := open_field Tryz.underlying51 h 6 _ rfl
    simp only [List.getElem_toArray, List.getElem_cons_succ, List.getElem_cons_zero, c1n, c1k, c1a, List.drop_succ_cons, List.drop_zero, List.take_succ_cons, List.take_zero] at f0 f1 f2 f3 f4 f5 f6
    obtain ⟨m0, e0, _, _⟩ := DataW.trod_int Tryz.underlying3 f0
    obtain ⟨m1, e1, _, _⟩ := DataW.trod_int Tryz.underlying3 f1
    obtain ⟨m2, e2, _, _⟩ := DataW.trod_int Tryz.underlying3 f2
    obtain ⟨v3, l3, e3, r3, _⟩ := open_row open_kint Tryz.underlying48 c1n (by decide) f3
    obtain ⟨m4, e4, _, _⟩ := DataW.trod_int Tryz.underlying3 f4
    obtain ⟨m5, e5, _, _⟩ := DataW.trod_int Tryz.underlying3 f5
    obtain ⟨v6, l6, e6, r6, _⟩ := open_row open_kattr Tryz.underlying49 (by kernel_rfl) (by decide) f6
    simp only [List.cons.injEq, and_true] at e0 e1 e2 e3 e4 e5 e6
    subst e0 e1 e2 e3 e4 e5 e6
    exact ⟨⟨m0, m1, m2, l3, m4, m5, l6⟩, ⟨c3, c6, rfl, r3, r6⟩, trivial⟩
end Go.Proofs.Lime
namespace Go.Proofs.Lime
open Go.RowKit
set_option linter.unusedVariables false
set_option linter.unusedSimpArgs false

abbrev noNd : Nd := ⟨0, 0, 0, [], 0, 0, []⟩
/-- Is a number a node? -/
def isN (t : List Nd) (n : Int) : Bool := decide (0 ≤ n) && decide (n < t.length)
/-- The node of a number. -/
def nd (t : List Nd) (n : Int) : Nd := t.getD n.toNat noNd
theorem nd_nat {t : List Nd} {k : Nat} (h : k < t.length) : nd t (k : Int) = t[k] := by simp [nd, h]
theorem isN_iff {t : List Nd} {n : Int} : isN t n = true ↔ 0 ≤ n ∧ n < t.length := by simp [isN]
theorem isN_nat {t : List Nd} {n : Int} (h : isN t n = true) : ∃ k : Nat, n = k ∧ k < t.length := by
  rw [isN_iff] at h
  exact ⟨n.toNat, by omega, by omega⟩
theorem isN_of {t : List Nd} {k : Nat} (h : k < t.length) : isN t (k : Int) = true := by rw [isN_iff]; omega
/-- May an attribute's value be? -/
def valueOk (name v : Int) : Bool :=
  if name = 0 then decide (-2147483648 ≤ v) && decide (v < 2147483648) else if name = 4 then decide (0 ≤ v) && decide (v < 2147483648) else if name = 6 then decide (1 ≤ v) && decide (v ≤ 3) else if name = 9 then decide (0 ≤ v) && decide (v ≤ 63) else decide (v = 0)
def attrOk (kind : Int) (a : Attr) : Bool :=
  (decide (0 ≤ a.name) && (decide (a.name ≤ 9) && valueOk a.name a.value)) && (if kind = 3 then decide (a.name = 7) || decide (a.name = 8) else decide (kind = 1) && (decide (a.name ≠ 7) && decide (a.name ≠ 8)))
/-- May attributes be, the last name ahead of them being 'last'? -/
def attrsFrom (kind : Int) : Int → List Attr → Bool
  | _, [] => true
  | last, a :: r => attrOk kind a && (decide (last < a.name) && attrsFrom kind a.name r)
def attrsOk (x : Nd) : Bool := attrsFrom x.kind (-1) x.attrs
def kindOk (x : Nd) (n : Int) : Bool :=
  (decide (x.kind = 0) == decide (n = 0)) && (decide (0 ≤ x.kind) && (decide (x.kind ≤ 3) && (if x.kind = 1 then decide (0 ≤ x.tag) && decide (x.tag ≤ 4) else decide (x.tag = 0))))
def kidOk (t : List Nd) (n : Int) (l : List Int) (k : Int) : Bool := isN t k && (decide (l.count k = 1) && (decide ((nd t k).parent = n) && (decide ((nd t k).kind = 1) || decide ((nd t k).kind = 2))))
def kidsOk (t : List Nd) (n : Int) : Bool :=
  (nd t n).kids.all (kidOk t n (nd t n).kids) && (!(decide ((nd t n).kind = 2) && decide (0 < (nd t n).kids.length)) && (decide ((nd t n).parent = -1) || (isN t (nd t n).parent && decide ((nd t (nd t n).parent).kids.count n = 1))))
def shadowOk (t : List Nd) (n : Int) : Bool :=
  if (nd t n).kind = 3 then decide ((nd t n).root = -1) && (decide ((nd t n).parent = -1) && (isN t (nd t n).host && (decide ((nd t (nd t n).host).kind = 1) && decide ((nd t (nd t n).host).root = n))))
  else decide ((nd t n).host = -1) && (decide ((nd t n).root = -1) || (decide ((nd t n).kind = 1) && (isN t (nd t n).root && (decide ((nd t (nd t n).root).kind = 3) && decide ((nd t (nd t n).root).host = n)))))
def nodeOk (t : List Nd) (n : Int) : Bool := kindOk (nd t n) n && (attrsOk (nd t n) && (kidsOk t n && shadowOk t n))
/-- Whom one comes to, going up once. -/
def upN (t : List Nd) (n : Int) : Int := if (nd t n).kind = 3 then (nd t n).host else (nd t n).parent
/-- Does one come to nobody within so many steps? -/
def endsIn (t : List Nd) : Nat → Int → Bool
  | 0, _ => false
  | f + 1, n => if n = -1 then true else endsIn t f (upN t n)
def ends (t : List Nd) (n : Int) : Bool := endsIn t (t.length + 1) n
/-- All numbers below k. -/
def allTo (p : Int → Bool) : Nat → Bool
  | 0 => true
  | k + 1 => allTo p k && p k
theorem allTo_iff {p : Int → Bool} {n : Nat} : allTo p n = true ↔ ∀ k : Nat, k < n → p k = true := by
  induction n with
  | zero => simp [allTo]
  | succ n ih =>
    rw [allTo, Bool.and_eq_true, ih]
    constructor
    · rintro ⟨h1, h2⟩ k hk
      by_cases hkn : k = n
      · rw [hkn]; exact h2
      · exact h1 k (by omega)
    · intro h
      exact ⟨fun k hk => h k (by omega), h n (by omega)⟩
theorem allTo_bad {p : Int → Bool} {n k : Nat} (hk : k < n) (h : p k = false) : allTo p n = false := by
  cases ha : allTo p n with
  | false => rfl
  | true => rw [allTo_iff] at ha; rw [ha k hk] at h; cases h
/-- May a tree be? -/
def mayT (t : List Nd) : Bool := (decide (1 ≤ t.length) && decide (t.length ≤ 64)) && (allTo (nodeOk t) t.length && allTo (ends t) t.length)
def smallT (t : List Nd) : Bool := decide (t.length ≤ 70) && t.all fun x => decide (x.kids.length ≤ 80) && decide (x.attrs.length ≤ 20)

/-- Where a node lies. -/
structure NodeAt (S : Nat → Prop) (w : World) (b o k : Nat) (x : Nd) (Ak : Option Addr) (ck : Nat) (Aa : Option Addr) (ca : Nat) : Prop where mk ::
  c0 : w.cell? ⟨b, o + k * 7, none⟩ = some (.int .i64 x.kind)
  c1 : w.cell? ⟨b, o + k * 7 + 1, none⟩ = some (.int .i64 x.tag)
  c2 : w.cell? ⟨b, o + k * 7 + 2, none⟩ = some (.int .i64 x.parent)
  c3 : w.cell? ⟨b, o + k * 7 + 3, none⟩ = some (.slice Ak x.kids.length ck)
  c4 : w.cell? ⟨b, o + k * 7 + 4, none⟩ = some (.int .i64 x.host)
  c5 : w.cell? ⟨b, o + k * 7 + 5, none⟩ = some (.int .i64 x.root)
  c6 : w.cell? ⟨b, o + k * 7 + 6, none⟩ = some (.slice Aa x.attrs.length ca)
  kids : Row intK S w (.slice Ak x.kids.length ck) x.kids
  attrs : Row attrK S w (.slice Aa x.attrs.length ca) x.attrs
  k1 : x.kids.length ≤ ck
  k2 : x.kids.length ≤ 9223372036854775807
  a1 : x.attrs.length ≤ ca
  a2 : x.attrs.length ≤ 9223372036854775807
theorem tree_base {S : Nat → Prop} {w : World} {A : Option Addr} {n c : Nat} {t : List Nd} (h : Row nodeK S w (.slice A n c) t) (h0 : 0 < t.length) :
    ∃ b o, A = some ⟨b, o, none⟩ ∧ S b ∧ b < w.heap.size ∧ ∀ k (hk : k < t.length), ∃ Ak ck Aa ca, NodeAt S w b o k t[k] Ak ck Aa ca := by
  obtain ⟨b, o, _, _, _, _, rfl, hS, hb, _⟩ := node_at h 0 h0
  refine ⟨b, o, rfl, hS, hb, fun k hk => ?_⟩
  obtain ⟨b', o', Ak, ck, Aa, ca, e, _, _, c0, c1, c2, c3, c4, c5, c6, r1, r2, l1, l2, l3, l4⟩ := node_at h k hk
  injection e with e
  injection e with e1 e2
  subst e1 e2
  exact ⟨Ak, ck, Aa, ca, c0, c1, c2, c3, c4, c5, c6, r1, r2, l1, l2, l3, l4⟩
theorem NodeAt.stp {S : Nat → Prop} {w w' : World} {b o k : Nat} {x : Nd} {Ak Aa : Option Addr} {ck ca : Nat} (h : NodeAt S w b o k x Ak ck Aa ca) (hs : Stp w w') : NodeAt S w' b o k x Ak ck Aa ca :=
  ⟨hs.cell h.c0, hs.cell h.c1, hs.cell h.c2, hs.cell h.c3, hs.cell h.c4, hs.cell h.c5, hs.cell h.c6, h.kids.stp hs, h.attrs.stp hs, h.k1, h.k2, h.a1, h.a2⟩
end Go.Proofs.Lime
namespace Go.Proofs.Lime
open Go.RowKit
set_option linter.unusedVariables false
set_option linter.unusedSimpArgs false

/-- All that lay in w lies as it lay, but for the blocks of O. -/
structure Kpt (O : Nat → Prop) (w w' : World) : Prop where mk ::
  os : w'.os = w.os
  tape : w'.tape = w.tape
  output : w'.output = w.output
  size : w.heap.size ≤ w'.heap.size
  block : ∀ k, k < w.heap.size → ¬ O k → w'.heap[k]? = w.heap[k]?
section
variable {O O' : Nat → Prop} {a b c w w' : World}
theorem Kpt.refl (O : Nat → Prop) (w : World) : Kpt O w w := ⟨rfl, rfl, rfl, Nat.le_refl _, fun _ _ _ => rfl⟩
theorem Kpt.trans (h : Kpt O a b) (k : Kpt O' b c) (hO : ∀ x, O' x → O x ∨ a.heap.size ≤ x) : Kpt O a c :=
  ⟨k.os.trans h.os, k.tape.trans h.tape, k.output.trans h.output, Nat.le_trans h.size k.size, fun x hx hn =>
    (k.block x (Nat.lt_of_lt_of_le hx h.size) (fun ho => (hO x ho).elim hn (fun hl => by omega))).trans (h.block x hx hn)⟩
theorem Kpt.mono (h : Kpt O a b) (hO : ∀ x, O x → O' x ∨ a.heap.size ≤ x) : Kpt O' a b :=
  ⟨h.os, h.tape, h.output, h.size, fun x hx hn => h.block x hx (fun ho => (hO x ho).elim hn (fun hl => by omega))⟩
theorem Kpt.of_stp (h : Stp a b) : Kpt O a b := ⟨h.out.os, h.out.tape, h.out.output, h.size, fun x hx _ => h.block hx⟩
theorem Kpt.stp (h : Kpt O a b) (hO : ∀ x, O x → a.heap.size ≤ x) : Stp a b :=
  ⟨⟨h.os, h.tape, h.output, h.size, fun x hx => h.block x hx (fun ho => by have := hO x ho; omega)⟩⟩
theorem Kpt.put (w : World) {l : Nat} (o : Obj) (hl : O l) : Kpt O w (w.putObj l o) :=
  ⟨rfl, rfl, rfl, by simp, fun x hx hn => World.putObj_heap_other (fun e => hn (e ▸ hl))⟩
theorem Kpt.setCell (w : World) {l o : Nat} (u : Value) (hl : O l) : Kpt O w (w.setCell ⟨l, o, none⟩ u) :=
  ⟨rfl, rfl, rfl, by simp, fun x hx hn => Below.heap_setCell w ⟨l, o, none⟩ u x (fun e => hn (by rw [e]; exact hl))⟩
theorem Kpt.cell (h : Kpt O a b) {p : Addr} {v : Value} (hp : ¬ O p.block) (hc : a.cell? p = some v) : b.cell? p = some v :=
  (World.cell?_of_block (w := a) (h.block p.block (World.block_lt_of_cell? a p hc) hp)).trans hc
end
section
variable {α : Type} {d : Kd α} {S : Nat → Prop} {w w' : World} {v : Value} {xs : List α} {O : Nat → Prop}
theorem Row.kpt (h : Row d S w v xs) (hk : Kpt O w w') (hO : ∀ x, S x → x < w.heap.size → ¬ O x) : Row d S w' v xs := h.move (fun x hx hl => hk.block x hl (hO x hx hl)) hk.size
theorem Own.kpt {e : TypeId} (h : Own d e S w v xs) (hk : Kpt O w w') (hO : ∀ x, S x → x < w.heap.size → ¬ O x) : Own d e S w' v xs := h.move (fun x hx hl => hk.block x hl (hO x hx hl))
end

/-- What an iterator may do between two rounds: turn blocks of C, and lay new ones (n: where the heap ended when it began), but none of the body's (O). -/
def ItMay (C : Nat → Prop) (n : Nat) (O : Nat → Prop) : Nat → Prop := fun b => ¬ O b ∧ (C b ∨ n ≤ b)
/-- What is told of worlds, and abides an iterator's steps. -/
def Abide (C : Nat → Prop) (n : Nat) (J : Nat → (Nat → Prop) → World → Prop) : Prop := ∀ k O A B, J k O A → Kpt (ItMay C n O) A B → J k O B

/-- **WHAT AN ITERATOR OWES**: called with a loop's yield it hands over just xs, one behind the other, as long as yield says true. C: blocks that it turns; S: blocks that it reads. O: the blocks that the loop's body turns: not of C, not of S; more only of those that are new. -/
def Iter {α : Type} (P : Program) (g : Nat) (lb : Array Value) (enc : α → Array Value) (C S : Nat → Prop) (xs : List α) (w : World) : Prop :=
  ∀ (l : Nat) (J Jx : Nat → (Nat → Prop) → World → Prop) (O : Nat → Prop) (W : World), Kpt O w W → (∀ b, O b → ¬ C b ∧ (b < w.heap.size → ¬ S b)) → Abide C W.heap.size J → Abide C W.heap.size Jx →
    (∀ k (hk : k < xs.length) (O : Nat → Prop) (W1 : World), J k O W1 → YieldAt Fence.wide 0 P l (enc xs[k]) W1 fun e W' => ∃ O', (∀ b, O' b → O b ∨ W1.heap.size ≤ b) ∧ Kpt O W1 W' ∧
      ((e = .returned (.bool true) ∧ J (k + 1) O' W') ∨ (e = .returned (.bool false) ∧ Jx (k + 1) O' W'))) →
    J 0 O W →
    CallsIn Fence.wide 0 P g (#[.func (.yield l) #[] #[]] ++ lb) W fun e W' => (∃ v, e = .returned v) ∧ ∃ O', J xs.length O' W' ∨ ∃ k, Jx k O' W'

/-- How a round may be left. -/
def roundEnd (I : Nat → (Nat → Prop) → World → Prop) (Ix : Code → Nat → (Nat → Prop) → World → Prop) (k : Nat) (O : Nat → Prop) (W : World) : Exit → Act → World → Prop
  | .normal, _, W' => ∃ O', (∀ b, O' b → O b ∨ W.heap.size ≤ b) ∧ Kpt O W W' ∧ I (k + 1) O' W'
  | .ret, _, W' => ∃ O', (∀ b, O' b → O b ∨ W.heap.size ≤ b) ∧ Kpt O W W' ∧ Ix .ret (k + 1) O' W'
  | .exit id, _, W' => ∃ O', (∀ b, O' b → O b ∨ W.heap.size ≤ b) ∧ Kpt O W W' ∧ Ix (.exit id) (k + 1) O' W'
  | _, _, _ => False

/-- **THE RANGE.** -/
theorem wp_range {α : Type} {P : Program} {g : Operand} {ps : Array Tmp} {assign body : Code} {Q : Exit → Act → World → Prop} {a : Act} {w : World} {gf : Nat} {lb : Array Value}
    (hg : a.eval g = .func (.func gf) #[] lb) (eg : ∀ args w, (callFunc gf args).run P w = .ok (.enter gf args) w) {enc : α → Array Value} {C S : Nat → Prop} {xs : List α} (hit : Iter P gf lb enc C S xs w) (hps : ∀ x, (enc x).size = ps.size)
    (hC : ∀ b, C b → b < w.heap.size) (O : Nat → Prop) (hO : ∀ b, O b → b < w.heap.size ∧ ¬ C b ∧ ¬ S b)
    (I : Nat → (Nat → Prop) → World → Prop) (Ix : Code → Nat → (Nat → Prop) → World → Prop) (hI : Abide C w.heap.size I) (hIx : ∀ c, Abide C w.heap.size (Ix c)) (h0 : I 0 O w) (a₁ : α → Act)
    (hassign : ∀ (l : Nat) (x : α) (W : World) (K : Act → World → Prop), K (a₁ x) W →
      assign.wpIn (Fence.wide.inRound l) 0 P (Exit.then K (fun _ _ _ => False)) { tmps := (ps.zip (enc x)).foldl (fun t (p, v) => t.setIfInBounds p v) a.tmps, defers := [] } W)
    (hbody : ∀ (l k : Nat) (hk : k < xs.length) (O : Nat → Prop) (W : World), I k O W → body.wpIn (Fence.wide.inRound l) 0 P (roundEnd I Ix k O W) (a₁ xs[k]) W)
    (hdone : ∀ (D : Nat) (O : Nat → Prop) (W : World), w.heap.size ≤ D → ¬ O D → I xs.length O W → W.heap[D]? = some (.deferred (some [])) → Q .normal { a with defers := { target := .collected D, args := #[] } :: a.defers } W)
    (hstop : ∀ (D : Nat) (c : Code) (k : Nat) (O : Nat → Prop) (W : World), w.heap.size ≤ D → ¬ O D → Ix c k O W → W.heap[D]? = some (.deferred (some [])) → c.wp P Q { a with defers := { target := .collected D, args := #[] } :: a.defers } W) :
    (Code.rangeFunc g ps assign body).wp P Q a w := by
  refine (wpIn_wide (n := 0)).1 (wpIn_rangeFunc fun fn hfn => ?_)
  obtain ⟨D, hD⟩ : ∃ D, D = w.heap.size := ⟨_, rfl⟩
  obtain ⟨L, hL⟩ : ∃ L : LoopState → Option Code → Obj, L = fun st pe => .loop ⟨st, pe, fn, a.tmps, ps, assign, body, D⟩ := ⟨_, rfl⟩
  obtain ⟨W1, hW1⟩ : ∃ W1, (w.alloc (.deferred (some []))).alloc (L .ready none) = W1 := ⟨_, rfl⟩
  have hs1 : W1.heap.size = D + 2 := by rw [← hW1, hD]; simp
  have hl1 : W1.heap[D + 1]? = some (L .ready none) := by
    have := World.alloc_heap_new (w.alloc (.deferred (some []))) (L .ready none)
    rw [← hW1, hD]; simpa using this
  have hd1 : W1.heap[D]? = some (.deferred (some [])) := by
    rw [← hW1, hD]
    exact (Below.heap_alloc _ _ _ (by simp)).trans (World.alloc_heap_new w _)
  have hst1 : Stp w W1 := by rw [← hW1]; exact ((Stp.refl w).alloc _).alloc _
  have hnO : ∀ b, O b → b < D := fun b hb => by rw [hD]; exact (hO b hb).1
  have hi1 : I 0 O W1 := hI 0 O w W1 h0 (Kpt.of_stp hst1)
  -- the book-keeping beside what the caller tells: the record, and the block for calls that are put off
  obtain ⟨J, hJ⟩ : ∃ J : LoopState → Option Code → (Nat → (Nat → Prop) → World → Prop) → Nat → (Nat → Prop) → World → Prop,
      J = fun st pe Y k O2 W => ∃ O, (∀ b, O2 b ↔ O b ∨ b = D + 1 ∨ b = D) ∧ ¬ O D ∧ ¬ O (D + 1) ∧ Y k O W ∧ W.heap[D + 1]? = some (L st pe) ∧ W.heap[D]? = some (.deferred (some [])) := ⟨_, rfl⟩
  have hsub : ∀ (O O2 : Nat → Prop), (∀ b, O2 b ↔ O b ∨ b = D + 1 ∨ b = D) → ∀ b, ItMay C W1.heap.size O2 b → ItMay C w.heap.size O b := by
    rintro O O2 h b ⟨h1, h2⟩
    exact ⟨fun hb => h1 ((h b).2 (.inl hb)), h2.imp id (fun h3 => by omega)⟩
  have hJA : ∀ st pe Y, Abide C w.heap.size Y → Abide C W1.heap.size (J st pe Y) := by
    intro st pe Y hY k O2 A B h hk
    rw [hJ] at h ⊢
    obtain ⟨O, h1, h2, h3, h4, h5, h6⟩ := h
    have keep : ∀ x o, O2 x → A.heap[x]? = some o → B.heap[x]? = some o := fun x o hx ho =>
      (hk.block x (Array.getElem?_eq_some_iff.1 ho).1 (fun hm => hm.1 hx)).trans ho
    exact ⟨O, h1, h2, h3, hY k O A B h4 (hk.mono fun x hx => .inl (hsub O O2 h1 x hx)), keep _ _ ((h1 _).2 (.inr (.inl rfl))) h5, keep _ _ ((h1 _).2 (.inr (.inr rfl))) h6⟩
  refine ⟨D + 1, [{ target := .collected D, args := #[] }], W1, { target := .fn (.func gf) lb, args := #[.func (.yield (D + 1)) #[] #[]] }, W1, gf, #[.func (.yield (D + 1)) #[] #[]] ++ lb, W1, ?_, ?_, fun _ _ => trivial, ?_, fun h => by simp [Fence.wide] at h, ?_⟩
  · have := run_enterLoop_outer (P := P) (w := w) fn a.tmps ps assign body
    rw [← hW1, hL, hD]
    exact this
  · simp only [resolve, hg]
    simp [go_sem]
  · simp [invoke, go_sem, eg]
  · have hput : ∀ (W : World) (st st' : LoopState) (pe pe' : Option Code), W.heap[D + 1]? = some (L st pe) → (W.putObj (D + 1) (L st' pe')).heap[D + 1]? = some (L st' pe') := fun W _ _ _ _ h => World.putObj_heap_same (Array.getElem?_eq_some_iff.1 h).1
    have hputD : ∀ (W : World) (o : Obj), (W.putObj (D + 1) o).heap[D]? = W.heap[D]? := fun W o => World.putObj_heap_other (by omega)
    -- a turn of the record is an iterator's step, to what the caller tells
    have hrec : ∀ (Y : Nat → (Nat → Prop) → World → Prop), Abide C w.heap.size Y → ∀ k O W o, ¬ O (D + 1) → Y k O W → Y k O (W.putObj (D + 1) o) := fun Y hY k O W o hn h =>
      hY k O W _ h (Kpt.put W o ⟨hn, .inr (by omega)⟩)
    refine (hit (D + 1) (J .ready none I) (fun k O2 W => ∃ c, J .done (some c) (Ix c) k O2 W) (fun b => O b ∨ b = D + 1 ∨ b = D) W1 (Kpt.of_stp hst1) ?_ (hJA _ _ _ hI) (fun k O2 A B h hk => let ⟨c, hc⟩ := h; ⟨c, hJA _ _ _ (hIx c) k O2 A B hc hk⟩) ?_ ?_).mono ?_
    · rintro b (hb | hb | hb)
      · exact ⟨(hO b hb).2.1, fun _ => (hO b hb).2.2⟩
      · exact ⟨fun h => by have := hC b h; omega, fun h => by omega⟩
      · exact ⟨fun h => by have := hC b h; omega, fun h => by omega⟩
    · intro k hk O2 W h
      rw [hJ] at h
      obtain ⟨O, h1, h2, h3, h4, h5, h6⟩ := h
      have hlt : D + 1 < W.heap.size := (Array.getElem?_eq_some_iff.1 h5).1
      have h5' := h5
      rw [hL] at h5'
      have hy := run_yield (P := P) (args := enc xs[k]) h5' (hps _)
      refine ⟨fn, _, assign, body, hy, roundIn_of_wpIn hfn (hassign _ xs[k] W _ ⟨_, run_beginRound h5' rfl, ?_⟩)⟩
      obtain ⟨W2, hW2⟩ : ∃ W2, W.putObj (D + 1) (L .busy none) = W2 := ⟨_, rfl⟩
      have e2 : W.putObj (D + 1) (.loop ⟨.busy, none, fn, a.tmps, ps, assign, body, D⟩) = W2 := by rw [← hW2, hL]
      have hl2 : W2.heap[D + 1]? = some (L .busy none) := by rw [← hW2]; exact hput W _ _ _ _ h5
      have hd2 : W2.heap[D]? = some (.deferred (some [])) := by rw [← hW2, hputD]; exact h6
      have hi2 : I k O W2 := by rw [← hW2]; exact hrec I hI k O W _ h3 h4
      have hs2 : W2.heap.size = W.heap.size := by rw [← hW2]; simp
      have hk2 : Kpt O2 W W2 := by rw [← hW2]; exact Kpt.put W _ ((h1 _).2 (.inr (.inl rfl)))
      show body.wpIn (Fence.wide.inRound (D + 1)) 0 P _ _ (W.putObj (D + 1) (.loop ⟨.busy, none, fn, a.tmps, ps, assign, body, D⟩))
      rw [e2]
      refine wpIn_mono (hbody (D + 1) k hk O W2 hi2) ?_
      have fin : ∀ (pe : Option Code) (W3 : World) (O' : Nat → Prop) (Y : Nat → (Nat → Prop) → World → Prop), Abide C w.heap.size Y → (∀ b, O' b → O b ∨ W2.heap.size ≤ b) → Kpt O W2 W3 → Y (k + 1) O' W3 →
          ∃ W4, (Instr.endRound (D + 1) pe).run P W3 = .ok (.bool pe.isNone) W4 ∧ (∀ b, (O' b ∨ b = D + 1 ∨ b = D) → O2 b ∨ W.heap.size ≤ b) ∧ Kpt O2 W W4 ∧ J (if pe.isNone then .ready else .done) pe Y (k + 1) (fun b => O' b ∨ b = D + 1 ∨ b = D) W4 := by
        intro pe W3 O' Y hY hO' hk3 hy3
        have hl3 : W3.heap[D + 1]? = some (L .busy none) := (hk3.block _ (by omega) h3).trans hl2
        have hd3 : W3.heap[D]? = some (.deferred (some [])) := (hk3.block _ (by omega) h2).trans hd2
        have hl3' := hl3
        rw [hL] at hl3'
        have hnD : ¬ O' D := fun h => (hO' D h).elim h2 (fun h => by omega)
        have hnL : ¬ O' (D + 1) := fun h => (hO' _ h).elim h3 (fun h => by omega)
        refine ⟨W3.putObj (D + 1) (L (if pe.isNone then .ready else .done) pe), ?_, ?_, ?_, ?_⟩
        · have := run_endRound (P := P) pe hl3'
          rw [hL]
          exact this
        · rintro b (hb | hb)
          · exact (hO' b hb).imp (fun h => (h1 b).2 (.inl h)) (fun h => by omega)
          · exact .inl ((h1 b).2 (.inr hb))
        · exact hk2.trans ((hk3.mono fun x hx => .inl ((h1 x).2 (.inl hx))).trans (Kpt.put W3 _ ((h1 _).2 (.inr (.inl rfl)))) fun x hx => .inl hx) fun x hx => .inl hx
        · rw [hJ]
          exact ⟨O', fun b => Iff.rfl, hnD, hnL, hrec Y hY _ _ _ _ hnL hy3, hput W3 _ _ _ _ hl3, (hputD W3 _).trans hd3⟩
      rintro e a3 W3 hp
      cases e with
      | normal =>
        obtain ⟨O', hO', hk3, hi3⟩ := hp
        obtain ⟨W4, hr, h7, h8, h9⟩ := fin none W3 O' I hI hO' hk3 hi3
        exact ⟨_, _, hr, _, h7, h8, .inl ⟨rfl, h9⟩⟩
      | ret =>
        obtain ⟨O', hO', hk3, hi3⟩ := hp
        obtain ⟨W4, hr, h7, h8, h9⟩ := fin (some .ret) W3 O' _ (hIx _) hO' hk3 hi3
        exact ⟨_, _, hr, _, h7, h8, .inr ⟨rfl, _, h9⟩⟩
      | exit id =>
        obtain ⟨O', hO', hk3, hi3⟩ := hp
        obtain ⟨W4, hr, h7, h8, h9⟩ := fin (some (.exit id)) W3 O' _ (hIx _) hO' hk3 hi3
        exact ⟨_, _, hr, _, h7, h8, .inr ⟨rfl, _, h9⟩⟩
      | goto t => exact hp.elim
      | panic ch => exact hp.elim
      | outgrown => exact hp.elim
    · rw [hJ]
      exact ⟨O, fun b => Iff.rfl, fun h => by have := hnO _ h; omega, fun h => by have := hnO _ h; omega, hi1, hl1, hd1⟩
    · rintro e W2 ⟨⟨v, rfl⟩, O2, h | ⟨k, c, h⟩⟩
      all_goals
        rw [hJ] at h
        obtain ⟨O, h1, h2, h3, h4, h5, h6⟩ := h
        have h5' := h5
        rw [hL] at h5'
      · refine ⟨none, _, run_endLoop (P := P) h5' (by simp), hdone D O _ (by omega) h2 (hrec I hI _ _ _ _ h3 h4) ?_⟩
        rw [hputD]; exact h6
      · refine ⟨some c, _, run_endLoop (P := P) h5' (by simp), (wpIn_wide (n := 0)).2 (hstop D c k O _ (by omega) h2 (hrec _ (hIx c) _ _ _ _ h3 h4) ?_)⟩
        rw [hputD]; exact h6

/-- **THE RANGE, WHERE THE ASSIGNMENT TO THE LOOP's VARIABLE WRITES MEMORY.** -/
theorem wp_range2 {α : Type} {P : Program} {g : Operand} {ps : Array Tmp} {assign body : Code} {Q : Exit → Act → World → Prop} {a : Act} {w : World} {gf : Nat} {lb : Array Value}
    (hg : a.eval g = .func (.func gf) #[] lb) (eg : ∀ args w, (callFunc gf args).run P w = .ok (.enter gf args) w) {enc : α → Array Value} {C S : Nat → Prop} {xs : List α} (hit : Iter P gf lb enc C S xs w) (hps : ∀ x, (enc x).size = ps.size)
    (hC : ∀ b, C b → b < w.heap.size) (O : Nat → Prop) (hO : ∀ b, O b → b < w.heap.size ∧ ¬ C b ∧ ¬ S b)
    (I : Nat → (Nat → Prop) → World → Prop) (Ix : Code → Nat → (Nat → Prop) → World → Prop) (hI : Abide C w.heap.size I) (hIx : ∀ c, Abide C w.heap.size (Ix c)) (h0 : I 0 O w) (Aa : Act → Nat → (Nat → Prop) → World → Prop) (hAa : ∀ a', Abide C w.heap.size (Aa a'))
    (hassign : ∀ (l k : Nat) (hk : k < xs.length) (O : Nat → Prop) (W : World) (K : Act → World → Prop), I k O W → (∀ a' O1 W', (∀ b, O1 b → O b ∨ W.heap.size ≤ b) → Kpt O W W' → Aa a' k O1 W' → K a' W') →
      assign.wpIn (Fence.wide.inRound l) 0 P (Exit.then K (fun _ _ _ => False)) { tmps := (ps.zip (enc xs[k])).foldl (fun t (p, v) => t.setIfInBounds p v) a.tmps, defers := [] } W)
    (hbody : ∀ (l k : Nat) (hk : k < xs.length) (a' : Act) (O : Nat → Prop) (W : World), Aa a' k O W → body.wpIn (Fence.wide.inRound l) 0 P (roundEnd I Ix k O W) a' W)
    (hdone : ∀ (D : Nat) (O : Nat → Prop) (W : World), w.heap.size ≤ D → ¬ O D → I xs.length O W → W.heap[D]? = some (.deferred (some [])) → Q .normal { a with defers := { target := .collected D, args := #[] } :: a.defers } W)
    (hstop : ∀ (D : Nat) (c : Code) (k : Nat) (O : Nat → Prop) (W : World), w.heap.size ≤ D → ¬ O D → Ix c k O W → W.heap[D]? = some (.deferred (some [])) → c.wp P Q { a with defers := { target := .collected D, args := #[] } :: a.defers } W) :
    (Code.rangeFunc g ps assign body).wp P Q a w := by
  refine (wpIn_wide (n := 0)).1 (wpIn_rangeFunc fun fn hfn => ?_)
  obtain ⟨D, hD⟩ : ∃ D, D = w.heap.size := ⟨_, rfl⟩
  obtain ⟨L, hL⟩ : ∃ L : LoopState → Option Code → Obj, L = fun st pe => .loop ⟨st, pe, fn, a.tmps, ps, assign, body, D⟩ := ⟨_, rfl⟩
  obtain ⟨W1, hW1⟩ : ∃ W1, (w.alloc (.deferred (some []))).alloc (L .ready none) = W1 := ⟨_, rfl⟩
  have hs1 : W1.heap.size = D + 2 := by rw [← hW1, hD]; simp
  have hl1 : W1.heap[D + 1]? = some (L .ready none) := by
    have := World.alloc_heap_new (w.alloc (.deferred (some []))) (L .ready none)
    rw [← hW1, hD]; simpa using this
  have hd1 : W1.heap[D]? = some (.deferred (some [])) := by
    rw [← hW1, hD]
    exact (Below.heap_alloc _ _ _ (by simp)).trans (World.alloc_heap_new w _)
  have hst1 : Stp w W1 := by rw [← hW1]; exact ((Stp.refl w).alloc _).alloc _
  have hnO : ∀ b, O b → b < D := fun b hb => by rw [hD]; exact (hO b hb).1
  have hi1 : I 0 O W1 := hI 0 O w W1 h0 (Kpt.of_stp hst1)
  -- the book-keeping beside what the caller tells: the record, and the block for calls that are put off
  obtain ⟨J, hJ⟩ : ∃ J : LoopState → Option Code → (Nat → (Nat → Prop) → World → Prop) → Nat → (Nat → Prop) → World → Prop,
      J = fun st pe Y k O2 W => ∃ O, (∀ b, O2 b ↔ O b ∨ b = D + 1 ∨ b = D) ∧ ¬ O D ∧ ¬ O (D + 1) ∧ Y k O W ∧ W.heap[D + 1]? = some (L st pe) ∧ W.heap[D]? = some (.deferred (some [])) := ⟨_, rfl⟩
  have hsub : ∀ (O O2 : Nat → Prop), (∀ b, O2 b ↔ O b ∨ b = D + 1 ∨ b = D) → ∀ b, ItMay C W1.heap.size O2 b → ItMay C w.heap.size O b := by
    rintro O O2 h b ⟨h1, h2⟩
    exact ⟨fun hb => h1 ((h b).2 (.inl hb)), h2.imp id (fun h3 => by omega)⟩
  have hJA : ∀ st pe Y, Abide C w.heap.size Y → Abide C W1.heap.size (J st pe Y) := by
    intro st pe Y hY k O2 A B h hk
    rw [hJ] at h ⊢
    obtain ⟨O, h1, h2, h3, h4, h5, h6⟩ := h
    have keep : ∀ x o, O2 x → A.heap[x]? = some o → B.heap[x]? = some o := fun x o hx ho =>
      (hk.block x (Array.getElem?_eq_some_iff.1 ho).1 (fun hm => hm.1 hx)).trans ho
    exact ⟨O, h1, h2, h3, hY k O A B h4 (hk.mono fun x hx => .inl (hsub O O2 h1 x hx)), keep _ _ ((h1 _).2 (.inr (.inl rfl))) h5, keep _ _ ((h1 _).2 (.inr (.inr rfl))) h6⟩
  refine ⟨D + 1, [{ target := .collected D, args := #[] }], W1, { target := .fn (.func gf) lb, args := #[.func (.yield (D + 1)) #[] #[]] }, W1, gf, #[.func (.yield (D + 1)) #[] #[]] ++ lb, W1, ?_, ?_, fun _ _ => trivial, ?_, fun h => by simp [Fence.wide] at h, ?_⟩
  · have := run_enterLoop_outer (P := P) (w := w) fn a.tmps ps assign body
    rw [← hW1, hL, hD]
    exact this
  · simp only [resolve, hg]
    simp [go_sem]
  · simp [invoke, go_sem, eg]
  · have hput : ∀ (W : World) (st st' : LoopState) (pe pe' : Option Code), W.heap[D + 1]? = some (L st pe) → (W.putObj (D + 1) (L st' pe')).heap[D + 1]? = some (L st' pe') := fun W _ _ _ _ h => World.putObj_heap_same (Array.getElem?_eq_some_iff.1 h).1
    have hputD : ∀ (W : World) (o : Obj), (W.putObj (D + 1) o).heap[D]? = W.heap[D]? := fun W o => World.putObj_heap_other (by omega)
    -- a turn of the record is an iterator's step, to what the caller tells
    have hrec : ∀ (Y : Nat → (Nat → Prop) → World → Prop), Abide C w.heap.size Y → ∀ k O W o, ¬ O (D + 1) → Y k O W → Y k O (W.putObj (D + 1) o) := fun Y hY k O W o hn h =>
      hY k O W _ h (Kpt.put W o ⟨hn, .inr (by omega)⟩)
    refine (hit (D + 1) (J .ready none I) (fun k O2 W => ∃ c, J .done (some c) (Ix c) k O2 W) (fun b => O b ∨ b = D + 1 ∨ b = D) W1 (Kpt.of_stp hst1) ?_ (hJA _ _ _ hI) (fun k O2 A B h hk => let ⟨c, hc⟩ := h; ⟨c, hJA _ _ _ (hIx c) k O2 A B hc hk⟩) ?_ ?_).mono ?_
    · rintro b (hb | hb | hb)
      · exact ⟨(hO b hb).2.1, fun _ => (hO b hb).2.2⟩
      · exact ⟨fun h => by have := hC b h; omega, fun h => by omega⟩
      · exact ⟨fun h => by have := hC b h; omega, fun h => by omega⟩
    · intro k hk O2 W h
      rw [hJ] at h
      obtain ⟨O, h1, h2, h3, h4, h5, h6⟩ := h
      have hlt : D + 1 < W.heap.size := (Array.getElem?_eq_some_iff.1 h5).1
      have h5' := h5
      rw [hL] at h5'
      have hy := run_yield (P := P) (args := enc xs[k]) h5' (hps _)
      refine ⟨fn, _, assign, body, hy, roundIn_of_wpIn hfn (hassign _ k hk O W _ h4 ?_)⟩
      intro a' O1 Wa hO1 hka hA1
      have h5a : Wa.heap[D + 1]? = some (L .ready none) := (hka.block _ hlt h3).trans h5
      have h6a : Wa.heap[D]? = some (.deferred (some [])) := (hka.block _ (by omega) h2).trans h6
      have hlta : D + 1 < Wa.heap.size := (Array.getElem?_eq_some_iff.1 h5a).1
      have hsza := hka.size
      have h2a : ¬ O1 D := fun h => (hO1 D h).elim h2 (fun h => by omega)
      have h3a : ¬ O1 (D + 1) := fun h => (hO1 _ h).elim h3 (fun h => by omega)
      have h5a' := h5a
      rw [hL] at h5a'
      refine ⟨_, run_beginRound h5a' rfl, ?_⟩
      obtain ⟨W2, hW2⟩ : ∃ W2, Wa.putObj (D + 1) (L .busy none) = W2 := ⟨_, rfl⟩
      have e2 : Wa.putObj (D + 1) (.loop ⟨.busy, none, fn, a.tmps, ps, assign, body, D⟩) = W2 := by rw [← hW2, hL]
      have hl2 : W2.heap[D + 1]? = some (L .busy none) := by rw [← hW2]; exact hput Wa _ _ _ _ h5a
      have hd2 : W2.heap[D]? = some (.deferred (some [])) := by rw [← hW2, hputD]; exact h6a
      have hi2 : Aa a' k O1 W2 := by rw [← hW2]; exact hrec (Aa a') (hAa a') k O1 Wa _ h3a hA1
      have hs2 : W2.heap.size = Wa.heap.size := by rw [← hW2]; simp
      have hk2 : Kpt O2 W W2 := by rw [← hW2]; exact (hka.mono fun x hx => .inl ((h1 x).2 (.inl hx))).trans (Kpt.put Wa _ ((h1 _).2 (.inr (.inl rfl)))) fun x hx => .inl hx
      show body.wpIn (Fence.wide.inRound (D + 1)) 0 P _ _ (Wa.putObj (D + 1) (.loop ⟨.busy, none, fn, a.tmps, ps, assign, body, D⟩))
      rw [e2]
      refine wpIn_mono (hbody (D + 1) k hk a' O1 W2 hi2) ?_
      have fin : ∀ (pe : Option Code) (W3 : World) (O' : Nat → Prop) (Y : Nat → (Nat → Prop) → World → Prop), Abide C w.heap.size Y → (∀ b, O' b → O1 b ∨ W2.heap.size ≤ b) → Kpt O1 W2 W3 → Y (k + 1) O' W3 →
          ∃ W4, (Instr.endRound (D + 1) pe).run P W3 = .ok (.bool pe.isNone) W4 ∧ (∀ b, (O' b ∨ b = D + 1 ∨ b = D) → O2 b ∨ W.heap.size ≤ b) ∧ Kpt O2 W W4 ∧ J (if pe.isNone then .ready else .done) pe Y (k + 1) (fun b => O' b ∨ b = D + 1 ∨ b = D) W4 := by
        intro pe W3 O' Y hY hO' hk3 hy3
        have hl3 : W3.heap[D + 1]? = some (L .busy none) := (hk3.block _ (by omega) h3a).trans hl2
        have hd3 : W3.heap[D]? = some (.deferred (some [])) := (hk3.block _ (by omega) h2a).trans hd2
        have hl3' := hl3
        rw [hL] at hl3'
        have hnD : ¬ O' D := fun h => (hO' D h).elim h2a (fun h => by omega)
        have hnL : ¬ O' (D + 1) := fun h => (hO' _ h).elim h3a (fun h => by omega)
        refine ⟨W3.putObj (D + 1) (L (if pe.isNone then .ready else .done) pe), ?_, ?_, ?_, ?_⟩
        · have := run_endRound (P := P) pe hl3'
          rw [hL]
          exact this
        · rintro b (hb | hb)
          · exact (hO' b hb).elim (fun h => (hO1 b h).imp (fun h => (h1 b).2 (.inl h)) id) (fun h => .inr (by omega))
          · exact .inl ((h1 b).2 (.inr hb))
        · exact hk2.trans ((hk3.mono (O' := fun x => O2 x ∨ W.heap.size ≤ x) fun x hx => .inl ((hO1 x hx).imp (fun h => (h1 x).2 (.inl h)) id)).trans (Kpt.put (O := fun x => O2 x ∨ W.heap.size ≤ x) W3 _ (.inl ((h1 _).2 (.inr (.inl rfl))))) fun x hx => .inl hx) fun x hx => hx
        · rw [hJ]
          exact ⟨O', fun b => Iff.rfl, hnD, hnL, hrec Y hY _ _ _ _ hnL hy3, hput W3 _ _ _ _ hl3, (hputD W3 _).trans hd3⟩
      rintro e a3 W3 hp
      cases e with
      | normal =>
        obtain ⟨O', hO', hk3, hi3⟩ := hp
        obtain ⟨W4, hr, h7, h8, h9⟩ := fin none W3 O' I hI hO' hk3 hi3
        exact ⟨_, _, hr, _, h7, h8, .inl ⟨rfl, h9⟩⟩
      | ret =>
        obtain ⟨O', hO', hk3, hi3⟩ := hp
        obtain ⟨W4, hr, h7, h8, h9⟩ := fin (some .ret) W3 O' _ (hIx _) hO' hk3 hi3
        exact ⟨_, _, hr, _, h7, h8, .inr ⟨rfl, _, h9⟩⟩
      | exit id =>
        obtain ⟨O', hO', hk3, hi3⟩ := hp
        obtain ⟨W4, hr, h7, h8, h9⟩ := fin (some (.exit id)) W3 O' _ (hIx _) hO' hk3 hi3
        exact ⟨_, _, hr, _, h7, h8, .inr ⟨rfl, _, h9⟩⟩
      | goto t => exact hp.elim
      | panic ch => exact hp.elim
      | outgrown => exact hp.elim
    · rw [hJ]
      exact ⟨O, fun b => Iff.rfl, fun h => by have := hnO _ h; omega, fun h => by have := hnO _ h; omega, hi1, hl1, hd1⟩
    · rintro e W2 ⟨⟨v, rfl⟩, O2, h | ⟨k, c, h⟩⟩
      all_goals
        rw [hJ] at h
        obtain ⟨O, h1, h2, h3, h4, h5, h6⟩ := h
        have h5' := h5
        rw [hL] at h5'
      · refine ⟨none, _, run_endLoop (P := P) h5' (by simp), hdone D O _ (by omega) h2 (hrec I hI _ _ _ _ h3 h4) ?_⟩
        rw [hputD]; exact h6
      · refine ⟨some c, _, run_endLoop (P := P) h5' (by simp), (wpIn_wide (n := 0)).2 (hstop D c k O _ (by omega) h2 (hrec _ (hIx c) _ _ _ _ h3 h4) ?_)⟩
        rw [hputD]; exact h6

/-- What a function with a range over an iterator ends in: the mark is taken away. -/
theorem leaves_mark {P : Program} {fn : Func} {tmps : Array Value} {R : Ending → World → Prop} {D : Nat} {W : World} {v : Value} (hD : W.heap[D]? = some (.deferred (some []))) (hv : (results fn tmps).run P (W.putObj D (.deferred none)) = .ok v (W.putObj D (.deferred none)))
    (hR : R (.returned v) (W.putObj D (.deferred none))) : LeavesInM Fence.wide 0 P fn tmps R [{ target := .collected D, args := #[] }] .returning W :=
  ⟨by simp, .inl ⟨D, _, rfl, run_takeDeferred hD, v, hv, hR⟩⟩
end Go.Proofs.Lime
namespace Go.Proofs.Lime
open Go.RowKit
set_option linter.unusedVariables false
set_option linter.unusedSimpArgs false

/-- Whom one comes to from n by steps s, n itself first, at most f of them; -1: nobody. -/
def chainIn (s : Int → Int) : Nat → Int → List Int
  | 0, _ => []
  | f + 1, n => if n = -1 then [] else n :: chainIn s f (s n)
theorem chain_nil (s : Int → Int) (f : Nat) : chainIn s f (-1) = [] := by cases f <;> simp [chainIn]
theorem chain_step {s : Int → Int} {f : Nat} {n : Int} (h : n ≠ -1) : chainIn s (f + 1) n = n :: chainIn s f (s n) := by rw [chainIn, if_neg h]
theorem chain_le (s : Int → Int) : ∀ (f : Nat) (n : Int), (chainIn s f n).length ≤ f
  | 0, _ => by simp [chainIn]
  | f + 1, n => by
    rw [chainIn]
    split
    · simp
    · have := chain_le s f (s n)
      simp; omega
theorem ends_chain (t : List Nd) : ∀ (f : Nat) (n : Int), endsIn t f n = decide ((chainIn (upN t) f n).length < f)
  | 0, _ => by simp [endsIn, chainIn]
  | f + 1, n => by
    rw [endsIn, chainIn]
    split
    · simp
    · rw [ends_chain t f]; simp

/-- The next one of a way up that is not over. -/
theorem drop_cons {α : Type} {xs ys : List α} {k : Nat} {x : α} (h : xs.drop k = x :: ys) : ∃ hk : k < xs.length, xs[k] = x ∧ xs.drop (k + 1) = ys := by
  have hk : k < xs.length := by
    rcases Nat.lt_or_ge k xs.length with h1 | h1
    · exact h1
    · rw [List.drop_eq_nil_of_le h1] at h; cases h
  rw [List.drop_eq_getElem_cons hk] at h
  injection h with h1 h2
  exact ⟨hk, h1, h2⟩

/-- Between two rounds: xs are handed over, k of them are; the one that comes next stands in the cell BN. -/
structure UpSt (ok : Int → Prop) (s : Int → Int) (xs : List Int) (F BN : Nat) (O : Nat → Prop) (J : Nat → (Nat → Prop) → World → Prop) (W : World) (k : Nat) (m : Int) (O' : Nat → Prop) (wr : World) : Prop where mk ::
  le : k ≤ xs.length
  cur : m = -1 ∨ ok m
  rest : xs.drop k = chainIn s (F - k) m
  kp : Kpt (fun b => O b ∨ b = BN) W wr
  sub : ∀ b, O' b → O b ∨ W.heap.size ≤ b
  inv : J k O' wr
  box : Boxed wr BN 3 (.int .i64 m)
theorem kpt_drew {O : Nat → Prop} {a b : World} (h : Kpt O a b) : Kpt O a b.drew := ⟨h.os, h.tape, h.output, h.size, h.block⟩
theorem kpt_store {O : Nat → Prop} {a b : World} {l o : Nat} {u : Value} (h : Kpt O a b) (hl : O l) : Kpt O a (b.setCell ⟨l, o, none⟩ u) := h.trans (Kpt.setCell b u hl) fun x hx => .inl hx
theorem kpt_alloc {O : Nat → Prop} {a b : World} {o : Obj} (h : Kpt O a b) : Kpt O a (b.alloc o) := h.trans (O' := O) (Kpt.of_stp ((Stp.refl b).alloc o)) fun x hx => .inl hx
theorem Boxed.keep {O : Nat → Prop} {a b : World} {B : Nat} {t : TypeId} {v : Value} (hb : Boxed a B t v) (h : Kpt O a b) (hO : ¬ O B) : Boxed b B t v := (h.block B hb.lt hO).trans hb
theorem Boxed.stp {a b : World} {B : Nat} {t : TypeId} {v : Value} (hb : Boxed a B t v) (h : Stp a b) : Boxed b B t v := (h.block hb.lt).trans hb
section
variable {ok : Int → Prop} {s : Int → Int} {xs : List Int} {F BN : Nat} {O : Nat → Prop} {J : Nat → (Nat → Prop) → World → Prop} {W : World} {k : Nat} {m : Int} {O' : Nat → Prop} {wr : World}
theorem UpSt.over (U : UpSt ok s xs F BN O J W k (-1) O' wr) : J xs.length O' wr := by
  have h := U.rest
  rw [chain_nil] at h
  have h1 : xs.length ≤ k := List.drop_eq_nil_iff.1 h
  have h2 := U.le
  obtain rfl : k = xs.length := by omega
  exact U.inv
/-- The counter has run out. -/
theorem UpSt.full (U : UpSt ok s xs F BN O J W k m O' wr) (h : F ≤ k) : J xs.length O' wr := by
  have h0 := U.rest
  rw [show F - k = 0 by omega, chainIn] at h0
  have h1 : xs.length ≤ k := List.drop_eq_nil_iff.1 h0
  have h2 := U.le
  obtain rfl : k = xs.length := by omega
  exact U.inv
theorem UpSt.next (U : UpSt ok s xs F BN O J W k m O' wr) (hm : m ≠ -1) (hF : k < F) : ∃ hk : k < xs.length, xs[k] = m ∧ xs.drop (k + 1) = chainIn s (F - (k + 1)) (s m) := by
  have h := U.rest
  rw [show F - k = (F - (k + 1)) + 1 by omega, chain_step hm] at h
  exact drop_cons h
/-- One round more. O3: what the round's body has turned; W3: the world behind it; then the cell gets its next value. -/
theorem UpSt.go (U : UpSt ok s xs F BN O J W k m O' wr) (hON : ¬ O BN) (hBW : BN < W.heap.size) (hm : m ≠ -1) (hF : k < F) (hs : s m = -1 ∨ ok (s m)) {O3 : Nat → Prop} {W3 : World} (h3 : ∀ b, O3 b → O' b ∨ wr.heap.size ≤ b) (hk : Kpt O' wr W3) (hj : J (k + 1) O3 W3)
    (hA : Abide (· = BN) W.heap.size J) : UpSt ok s xs F BN O J W (k + 1) (s m) O3 (W3.drew.setCell ⟨BN, 0, none⟩ (.int .i64 (s m))) ∧ UpSt ok s xs F BN O J W (k + 1) (s m) O3 (W3.setCell ⟨BN, 0, none⟩ (.int .i64 (s m))) := by
  obtain ⟨h1, _, h2⟩ := U.next hm hF
  have hsz := U.kp.size
  have hn' : ¬ O' BN := fun h => (U.sub BN h).elim hON (fun h => by omega)
  have hn3 : ¬ O3 BN := fun h => (h3 BN h).elim hn' (fun h => by omega)
  have hb3 : Boxed W3 BN 3 (.int .i64 m) := Boxed.keep U.box hk hn'
  have hk3 : Kpt (fun b => O b ∨ b = BN) W W3 := U.kp.trans hk fun x hx => (U.sub x hx).imp .inl id
  have hs3 : ∀ b, O3 b → O b ∨ W.heap.size ≤ b := fun b hb => (h3 b hb).elim (U.sub b) (fun h => .inr (by omega))
  have hit : ItMay (· = BN) W.heap.size O3 BN := ⟨hn3, .inl rfl⟩
  exact ⟨⟨h1, hs, h2, kpt_store (kpt_drew hk3) (.inr rfl), hs3, hA _ _ _ _ hj (kpt_store (kpt_drew (Kpt.refl _ _)) hit), Boxed.set _ hb3⟩,
    ⟨h1, hs, h2, kpt_store hk3 (.inr rfl), hs3, hA _ _ _ _ hj (kpt_store (Kpt.refl _ _) hit), Boxed.set _ hb3⟩⟩
end
/-- Two variables, laid one behind the other. -/
theorem two_boxes (w : World) (s t : TypeId) (u v : Value) : ∃ W, (w.alloc (.cells #[u] s)).alloc (.cells #[v] t) = W ∧ Stp w W ∧ W.heap.size = w.heap.size + 2 ∧ Boxed W w.heap.size s u ∧ Boxed W (w.heap.size + 1) t v := by
  refine ⟨_, rfl, ((Stp.refl w).alloc _).alloc _, by simp, Boxed.alloc (Boxed.new _ _ _) _, ?_⟩
  have := Boxed.new (w.alloc (.cells #[u] s)) t v
  rw [World.size_alloc] at this
  exact this
theorem one_box (w : World) (s : TypeId) (u : Value) : ∃ W, w.alloc (.cells #[u] s) = W ∧ Stp w W ∧ W.heap.size = w.heap.size + 1 ∧ Boxed W w.heap.size s u :=
  ⟨_, rfl, (Stp.refl w).alloc _, by simp, Boxed.new _ _ _⟩
end Go.Proofs.Lime
namespace Go.Proofs.Lime
open Go.RowKit
set_option linter.unusedVariables false
set_option linter.unusedSimpArgs false
attribute [local go_sem] Oper.semAt_some

section
variable {P : Program} {ops : Array Oper} {rest : List Oper} {o : Oper} {a : Act} {Q : Exit → Act → World → Prop} {W : World} {α : Type} {d : Kd α} {S : Nat → Prop} {F : Fence} {n : Nat}
/-- append(v, ys...) within a fence. Behind 'gi_at_builtin'. -/
theorem wplI_appendrow {T T' : Nat → Prop} (hgd : o.guard = none) (s x : Operand) (t e : TypeId) (z : Value) (bytes : Nat)
    (ho : o.op = .call { callee := .builtin .append, args := #[s, x], argTypes := #[t, t] })
    (ht : P.underlying t = some (.slice e)) (hinfo : (P.info? e).map (fun i => (i.zero, i.size, i.bytes)) = some (some z, d.sz, bytes)) (hz : z.cells.size = d.sz) (hs0 : 0 < d.sz) (hb0 : 0 < bytes)
    (v : Value) (xs : List α) (u : Value) (ys : List α) (hs : a.eval s = v) (hx : a.eval x = u) (HR : Row d T W u ys) (hTT : ∀ x cs, d.K T W x cs → d.K T' W x cs) (hT : ∀ k, T' k → k < W.heap.size → S k ∧ some k ≠ v.ownBlock)
    (HO : Own d e S W v xs) (hfresh : ∀ k, W.heap.size ≤ k → S k) (hl : (xs.length + ys.length) * bytes ≤ 140737488355328)
    (h : ∀ v1 w1, Own d e S w1 v1 (xs ++ ys) → W.grownBy w1 v.ownBlock → wpListIn F n P ops Q rest (a.put o.dst v1) w1) :
    wpListIn F n P ops Q (o :: rest) a W := by
  refine wpListIn_plain hgd fun K hK => ?_
  obtain ⟨v1, w1, hr, h1, h2, h3⟩ := run_appendrow (P := P) t o.type e z bytes ht hinfo hz hs0 hb0 v xs u ys HR hTT hT HO hfresh hl
  unfold Oper.wpIn
  refine ⟨?_, ?_⟩
  · simp [Oper.about, ho, resolve, Target.leads, Sem.run_pure]
  · rw [Oper.semAt_plain F _ _ (by rw [ho]; intro c hc'; cases hc')]
    simp [execOp, ho, resolve, invoke, builtin, hs, hx, hr, Result.andThen]
    exact hK _ _ (h v1 w1 h1 h2)
end

theorem Iter.later {α : Type} {P : Program} {g : Nat} {lb : Array Value} {enc : α → Array Value} {C S : Nat → Prop} {xs : List α} {w w0 : World} (h : Iter P g lb enc C S xs w) (hs : Stp w w0) : Iter P g lb enc C S xs w0 :=
  fun l J Jx O W hk hO => h l J Jx O W ((Kpt.of_stp hs).trans hk fun x hx => .inl hx) (fun b hb => ⟨(hO b hb).1, fun hl => (hO b hb).2 (Nat.lt_of_lt_of_le hl hs.size)⟩)
theorem Kpt.of_grown {O : Nat → Prop} {a b : World} {row : Option Nat} (h : a.grownBy b row) (hr : ∀ k, row = some k → O k) : Kpt O a b :=
  ⟨h.os, h.tape, h.output, h.size, fun x hx hn => h.block x hx (fun e => hn (hr x e.symm))⟩
theorem Boxed.grown {a b : World} {B : Nat} {t : TypeId} {v : Value} {row : Option Nat} (hb : Boxed a B t v) (h : a.grownBy b row) (hr : row ≠ some B) : Boxed b B t v := (h.block B hb.lt (fun e => hr e.symm)).trans hb

/-- What is held between two rounds: B the cell of the list's variable, w where the range began. -/
structure CoSt (C : Nat → Prop) (xs : List Int) (B : Nat) (w : World) (k : Nat) (O : Nat → Prop) (W : World) : Prop where mk ::
  ob : O B
  new : ∀ b, O b → B ≤ b
  kp : Kpt (fun b => C b ∨ b = B) w W
  own : ∃ v, Boxed W B 48 v ∧ Own intK 3 (fun b => O b ∧ b ≠ B) W v (xs.take k)
theorem coSt_abide (C : Nat → Prop) (xs : List Int) (B : Nat) (w : World) : Abide C w.heap.size (CoSt C xs B w) := by
  intro k O A W h hk
  obtain ⟨h1, h2, h3, v, h4, h5⟩ := h
  exact ⟨h1, h2, h3.trans hk (fun x hx => hx.2.imp .inl id), v, Boxed.keep h4 hk (fun h => h.1 h1), h5.kpt hk (fun x hx _ h => h.1 hx.1)⟩

set_option maxHeartbeats 1000000 in
theorem appendSeq_c {C S : Nat → Prop} {gf : Nat} {lb : Array Value} {xs : List Int} {w : World} (eg : ∀ args w, (callFunc gf args).run Tryz.prog w = .ok (.enter gf args) w) (hit : Iter Tryz.prog gf lb (fun x : Int => #[.int .i64 x]) C S xs w)
    (hC : ∀ b, C b → b < w.heap.size) (hS : ∀ b, S b → b < w.heap.size) (hx : xs.length ≤ 1000000) :
    Calls Tryz.prog 115 #[.slice none 0 0, .func (.func gf) #[] lb] w fun e w' => ∃ v, e = .returned v ∧ Own intK 3 (fun b => w.heap.size ≤ b) w' v xs ∧ Kpt C w w' := by
  refine (callsIn_wide (n := 0)).1 (callsIn_of_wp_marks Tryz.func115 rfl trivial (wpIn_wide.2 ?_) rfl); simp only [Tryz.ntmps115, List.size_toArray, List.length_cons, List.length_nil, Nat.reduceAdd, Nat.reduceSub, Array.replicate_succ, Array.replicate_zero, List.push_toArray, List.append_toArray, List.nil_append, List.cons_append]
  go_wp2
  obtain ⟨w0, hw0⟩ : ∃ w0, w.alloc (.cells #[.slice none 0 0] 48) = w0 := ⟨_, rfl⟩
  have hb0 : Boxed w0 w.heap.size 48 (.slice none 0 0) := by rw [← hw0]; exact Boxed.new _ _ _
  have hs0 : Stp w w0 := by rw [← hw0]; exact (Stp.refl w).alloc _
  have hz0 : w0.heap.size = w.heap.size + 1 := by rw [← hw0]; simp
  rw [hw0]
  clear hw0
  generalize hB : w.heap.size = B at *
  refine wp_range (gf := gf) (lb := lb) rfl eg (hit.later hs0) (fun _ => rfl) (fun b hb => by have := hC b hb; omega) (· = B) (fun b hb => ?_) (CoSt C xs B w0) (fun _ _ _ _ => False) (coSt_abide C xs B w0) (fun _ _ _ _ _ h _ => h) ?_ (fun x => { tmps := #[.slice none 0 0, .func (.func gf) #[] lb, .pointer (some ⟨B, 0, none⟩), undef, .slice none 0 0, .int .i64 x, .func (.func gf) #[] lb, .int .i64 x, undef, undef, undef, undef, undef], defers := [] }) ?_ ?_ ?_ ?_
  · subst hb
    exact ⟨by omega, fun h => by have := hC b h; omega, fun h => by have := hS b h; omega⟩
  · exact ⟨rfl, fun b hb => by omega, Kpt.refl _ _, _, hb0, Own.nil _ _ _ _⟩
  · intro l x W K hK
    gi_wp2
    exact hK
  · intro l k hk O W hI
    obtain ⟨h1, h2, h3, v, h4, h5⟩ := hI
    have hcB := Boxed.cell h4
    have hfB := Boxed.frozen h4
    have hxk := Lib.hid (List.take_succ_eq_append_getElem hk)
    generalize xs[k] = x at hxk
    have hnB : v.ownBlock ≠ some B := fun e => (h5.blk B e).2 rfl
    have hBW := h4.lt
    have hk1 := Lib.hid (show ((xs.take k).length + [x].length) * 8 ≤ 140737488355328 by simp; omega)
    have HO := Lib.hid ((h5.stp ((Stp.refl W).alloc (.cells #[.int .i64 x] 3))).mono (S' := fun b => b ≠ B ∧ (O b ∨ W.heap.size ≤ b)) fun k hk _ => ⟨hk.2, .inl hk.1⟩)
    have hx1 : (x : Int) = x := rfl
    gi_wp2_with (gi_at_builtin; go_loud (refine wplI_appendrow (d := intK) (S := fun b => b ≠ B ∧ (O b ∨ W.heap.size ≤ b)) (T := fun b => b = W.heap.size) (T' := fun _ => False) rfl (.tmp 8) (.tmp 10) 48 3 (.int .i64 0) 8 rfl Tryz.underlying48 infoInt rfl (by decide) (by decide) v (xs.take k) _ [x] rfl rfl (Row.box (World.alloc_heap_new W _) rfl rfl) (fun _ _ h => h) (fun _ h => h.elim) HO.out (fun k hk => by rw [World.size_alloc] at hk; exact ⟨by omega, .inr (by omega)⟩) hk1.out ?_; intro v1 w1 ho hg; have hb1 := Boxed.grown (Boxed.alloc h4 (.cells #[.int .i64 x] 3)) hg hnB; have hc1 := Boxed.cell hb1; have hf1 := Boxed.frozen hb1; obtain ⟨A1, n1, c1, e1⟩ : ∃ A1 n1 c1, v1 = .slice A1 n1 c1 := (let ⟨A1, c1, e⟩ := ho.reads.slice; ⟨A1, _, c1, e⟩); subst e1))
    have hg2 : W.grownBy w1 v.ownBlock := World.grownBy.trans (World.grownBy_alloc W _ _) hg
    have hkp : Kpt O W (w1.setCell ⟨B, 0, none⟩ (.slice A1 n1 c1)) := kpt_store (Kpt.of_grown hg2 fun k e => (h5.blk k e).1) h1
    refine ⟨fun b => O b ∨ (W.heap.size ≤ b ∧ b < w1.heap.size), fun b hb => hb.imp id And.left, hkp, .inl h1, fun b hb => hb.elim (h2 b) (fun h => by omega), ?_, _, Boxed.set _ hb1, ?_⟩
    · refine h3.trans hkp fun b hb => ?_
      have := h2 b hb
      rcases Nat.lt_or_ge B b with h | h
      · exact .inr (by omega)
      · exact .inl (.inr (by omega))
    · rw [hxk.out]
      have ho2 := ho.mono (S' := fun b => (O b ∨ (W.heap.size ≤ b ∧ b < w1.heap.size)) ∧ b ≠ B) fun k hk hl => ⟨hk.2.imp id (fun h => ⟨h, hl⟩), hk.1⟩
      exact ho2.move fun k hk _ => Below.heap_setCell w1 ⟨B, 0, none⟩ _ k hk.2
  · intro D O W hD hn hI hWD
    obtain ⟨h1, h2, h3, v, h4, h5⟩ := hI
    have hcB := Boxed.cell h4
    rw [List.take_of_length_le (Nat.le_refl _)] at h5
    go_wp2
    refine leaves_mark hWD (results_tmp rfl _ _ _) ⟨v, rfl, ?_, ?_⟩
    · exact (h5.move fun k hk _ => World.putObj_heap_other (fun e => hn (by first | (rw [← e]; exact hk.1) | (rw [e]; exact hk.1)))).mono fun k hk _ => by have := h2 k hk.1; omega
    · exact (((Kpt.of_stp hs0).trans h3 fun x hx => .inl hx).mono fun x hx => hx.imp id (fun h => by omega)).trans (Kpt.put (O := fun b => b = D) W _ rfl) fun x hx => .inr (by omega)
  · intro D c k O W _ _ h
    exact h.elim
theorem collect_c {C S : Nat → Prop} {gf : Nat} {lb : Array Value} {xs : List Int} {w : World} (eg : ∀ args w, (callFunc gf args).run Tryz.prog w = .ok (.enter gf args) w) (hit : Iter Tryz.prog gf lb (fun x : Int => #[.int .i64 x]) C S xs w)
    (hC : ∀ b, C b → b < w.heap.size) (hS : ∀ b, S b → b < w.heap.size) (hx : xs.length ≤ 1000000) :
    Calls Tryz.prog 107 #[.func (.func gf) #[] lb] w fun e w' => ∃ v, e = .returned v ∧ Own intK 3 (fun b => w.heap.size ≤ b) w' v xs ∧ Kpt C w w' := by
  have ca := appendSeq_c eg hit hC hS hx
  go_enter Tryz.func107, Tryz.ntmps107
  go_wp2_with (go_at_call 115; refine ca.mono ?_; rintro e w1 ⟨v, rfl, h1, h2⟩)
  go_ret
  exact ⟨v, rfl, h1, h2⟩
end Go.Proofs.Lime
namespace Go.Proofs.Lime
open Go.RowKit
set_option linter.unusedVariables false
set_option linter.unusedSimpArgs false

/-- What is asked of a predicate on numbers that turns nothing. -/
def IntPred (g : Nat) (lb : Array Value) (p : Int → Bool) (w : World) : Prop :=
  ∀ (W : World) (x : Int), Stp w W → Calls Tryz.prog g (#[.int .i64 x] ++ lb) W fun e w' => e = .returned (.bool (p x)) ∧ Stp W w'
theorem indexFuncI_c {S : Nat → Prop} {w : World} {v : Value} {xs : List Int} (h : Row intK S w v xs) (p : Int → Bool) (g : Nat) (lb : Array Value)
    (eg : ∀ args w, (callFunc g args).run Tryz.prog w = .ok (.enter g args) w) (hp : IntPred g lb p w) :
    Calls Tryz.prog 81 #[v, .func (.func g) #[] lb] w fun e w' => e = .returned (.int .i64 (idx p xs)) ∧ Stp w w' := by
  obtain ⟨A, c, rfl, hc, hm⟩ := h.form
  go_enter Tryz.func81, Tryz.ntmps81
  go_wp2
  go_loopg [5, 8] xs.length (fun gg _ s8 wr => ∃ k : Nat, k ≤ xs.length ∧ xs.length - k ≤ gg ∧ s8 = .int .i64 k ∧ Stp w wr ∧ Aside (idxFrom p k (xs.drop k) = idx p xs))
  case atStart => exact ⟨0, Nat.zero_le _, by omega, rfl, Stp.refl w, rfl⟩
  case round =>
    obtain ⟨k, hk, hg, rfl, hb, A1⟩ := hrel
    by_cases hlt : k < xs.length
    · have hltz : (k : Int) < (xs.length : Int) := by omega
      obtain ⟨b, o, rfl, hS, hbw, x0⟩ := int_at (h.stp hb) k hlt
      have hcall := hp wr xs[k] hb
      generalize hy : xs[k] = y at x0 hcall
      have B : Aside (xs[k] = y) := hy
      clear hy h hp
      cases hq : p y with
      | true =>
        rw [hq] at hcall
        go_wp2_with (go_at_fn g; refine hcall.mono ?_; rintro e w' ⟨rfl, hb'⟩)
        go_ret
        exact ⟨ret_int (by rw [← A1.out, idxFrom_hit hlt (by rw [B.out]; exact hq)]), hb.trans hb'⟩
      | false =>
        rw [hq] at hcall
        go_wp2_with (go_at_fn g; refine hcall.mono ?_; rintro e w' ⟨rfl, hb'⟩)
        go_roundg (xs.length - (k + 1))
        case measure => omega
        case rel => exact ⟨k + 1, by omega, by omega, by go_num, hb.trans hb', (idxFrom_miss hlt (by rw [B.out]; exact hq)).symm.trans A1.out⟩
    · have hltz : ¬ (k : Int) < (xs.length : Int) := by omega
      go_wp2
      go_ret
      exact ⟨ret_int (by rw [← A1.out, idxFrom_end hlt]), hb⟩
theorem containsFuncI_c {S : Nat → Prop} {w : World} {v : Value} {xs : List Int} (h : Row intK S w v xs) (p : Int → Bool) (g : Nat) (lb : Array Value)
    (eg : ∀ args w, (callFunc g args).run Tryz.prog w = .ok (.enter g args) w) (hp : IntPred g lb p w) :
    Calls Tryz.prog 63 #[v, .func (.func g) #[] lb] w fun e w' => e = .returned (.bool (xs.any p)) ∧ Stp w w' := by
  rw [← idx_any]
  go_enter Tryz.func63, Tryz.ntmps63
  go_wp2_with (go_at_call 81; refine (indexFuncI_c h p g lb eg hp).mono ?_; rintro e w' ⟨rfl, hb'⟩)
  go_ret
  exact ⟨rfl, hb'⟩
theorem index_c {S : Nat → Prop} {w : World} {v : Value} {xs : List Int} (h : Row intK S w v xs) (n : Int) :
    Calls Tryz.prog 79 #[v, .int .i64 n] w fun e w' => e = .returned (.int .i64 (idx (· == n) xs)) ∧ Stp w w' := by
  obtain ⟨A, c, rfl, hc, hm⟩ := h.form
  go_enter Tryz.func79, Tryz.ntmps79
  go_wp2
  go_loopg [5, 8] xs.length (fun gg _ s8 wr => ∃ k : Nat, k ≤ xs.length ∧ xs.length - k ≤ gg ∧ s8 = .int .i64 k ∧ Stp w wr ∧ Aside (idxFrom (· == n) k (xs.drop k) = idx (· == n) xs))
  case atStart => exact ⟨0, Nat.zero_le _, by omega, rfl, Stp.refl w, rfl⟩
  case round =>
    obtain ⟨k, hk, hg, rfl, hb, A1⟩ := hrel
    by_cases hlt : k < xs.length
    · have hltz : (k : Int) < (xs.length : Int) := by omega
      obtain ⟨b, o, rfl, hS, hbw, x0⟩ := int_at (h.stp hb) k hlt
      generalize hy : xs[k] = y at x0
      have B : Aside (xs[k] = y) := hy
      clear hy h
      go_wp2
      · have h1 : y = n := by grind
        go_ret
        exact ⟨ret_int (by rw [← A1.out, idxFrom_hit hlt (by rw [B.out]; simpa using h1)]), by (exact Lime.stp_)⟩
      · have h1 := Lib.hid (show ¬ y = n by grind)
        go_roundg (xs.length - (k + 1))
        case measure => omega
        case rel => exact ⟨k + 1, by omega, by omega, by go_num, by (exact Lime.stp_), (idxFrom_miss hlt (by rw [B.out]; simpa using h1.out)).symm.trans A1.out⟩
    · have hltz : ¬ (k : Int) < (xs.length : Int) := by omega
      go_wp2
      go_ret
      exact ⟨ret_int (by rw [← A1.out, idxFrom_end hlt]), hb⟩
theorem contains_c {S : Nat → Prop} {w : World} {v : Value} {xs : List Int} (h : Row intK S w v xs) (n : Int) :
    Calls Tryz.prog 72 #[v, .int .i64 n] w fun e w' => e = .returned (.bool (xs.any (· == n))) ∧ Stp w w' := by
  rw [← idx_any]
  go_enter Tryz.func72, Tryz.ntmps72
  go_wp2_with (go_at_call 79; refine (index_c h n).mono ?_; rintro e w' ⟨rfl, hb'⟩)
  go_ret
  exact ⟨rfl, hb'⟩
end Go.Proofs.Lime
