/- What a claim's reading of an argument tells of the cells that it lies in: lists, by their elements' kind. No conditions. -/
import Derived.Test.YtkmmdjfacdkiiaaLib
import Derived.Deep.Slices
import Derived.WideShapes
import Derived.ProofKit
import Derived.OpenShut
namespace Go.Proofs.Lime
open Go.RowKit Go.ChangeShapes Go.WideShapes
set_option linter.unusedVariables false
set_option linter.unusedSimpArgs false

/-- What reads as the type e is an element of the kind d, and fair. -/
def Opens {α : Type} (d : Kd α) (G : α → Prop) (e : TypeId) : Prop := ∀ (H : Type) (enc : TypeId × Value → H) (w : World) (base : Nat) (spare : Nat → Bool) (held : Bool) (fuel : Nat) (cs : List Value) (x : DataW H × List MemPlace),
  DataW.trod enc Try.prog w base spare held fuel e cs = some x → ∃ y, d.K (fun _ => True) w y cs ∧ G y

theorem open_field {H : Type} {enc : TypeId × Value → H} {w : World} {base : Nat} {spare : Nat → Bool} {held : Bool} {fuel : Nat} {t : TypeId} {fs : Array Field} {cs : List Value} {x : DataW H × List MemPlace}
    (ht : Try.prog.underlying t = some (.struct fs)) (h : DataW.trod enc Try.prog w base spare held fuel t cs = some x) (i : Nat) (f : Field) (hf : fs[i]? = some f) :
    ∃ n y, DataW.trod enc Try.prog w base spare held n f.type ((cs.drop f.offset).take (Try.prog.cellsOf f.type)) = some y := by
  obtain ⟨xs, n, _, _, _, hl, hx⟩ := DataW.trod_struct ht h
  have h1 := hx i f hf
  have h2 : i < xs.length := by rw [hl]; exact (Array.getElem?_eq_some_iff.1 hf).1
  rw [List.getElem?_eq_getElem h2] at h1
  exact ⟨n, _, h1⟩

theorem open_row {α : Type} {d : Kd α} {G : α → Prop} {t e : TypeId} (ho : Opens d G e) (ht : Try.prog.underlying t = some (.slice e)) (hc : Try.prog.cellsOf e = d.sz) (hz : 0 < d.sz)
    {H : Type} {enc : TypeId × Value → H} {w : World} {base : Nat} {spare : Nat → Bool} {held : Bool} {fuel : Nat} {cs : List Value} {x : DataW H × List MemPlace} (h : DataW.trod enc Try.prog w base spare held fuel t cs = some x) :
    ∃ v xs, cs = [v] ∧ Row d (fun _ => True) w v xs ∧ ∀ y ∈ xs, G y := by
  rcases Go.Deep.open_slice ht h with ⟨rfl, _⟩ | ⟨a, len, cap, m, n, D, Pl, rfl, hb, hl, hm, hmm, _, hx⟩
  · exact ⟨_, [], rfl, Row.nil d _ w, by simp⟩
  · rw [hc] at hx
    have key : ∀ i : Nat, ∃ y : Option α, i < len → ∃ y0 cs', y = some y0 ∧ d.K (fun _ => True) w y0 cs' ∧ G y0 ∧ (∀ j u, cs'[j]? = some u → w.cell? ((a.add (i * d.sz)).add j) = some u) ∧ cs'.length = d.sz := by
      intro i
      by_cases hi : i < len
      · obtain ⟨cs', h1, h2⟩ := hx i (by rw [hmm]; split <;> omega)
        obtain ⟨_, h3, h4⟩ := World.cells?_some h1
        obtain ⟨y, hy, hg⟩ := ho _ _ _ _ _ _ _ _ _ h2
        exact ⟨some y, fun _ => ⟨y, cs', rfl, hy, hg, fun j u hj => by rw [h4 j (by rw [← h3]; exact (List.getElem?_eq_some_iff.1 hj).1)]; exact hj, h3⟩⟩
      · exact ⟨none, fun h => absurd h hi⟩
    have key2 : ∀ k, k ≤ len → ∃ xs : List α, xs.length = k ∧ ∀ i (hi : i < xs.length), ∃ cs', d.K (fun _ => True) w xs[i] cs' ∧ G xs[i] ∧ (∀ j u, cs'[j]? = some u → w.cell? ((a.add (i * d.sz)).add j) = some u) ∧ cs'.length = d.sz := by
      intro k
      induction k with
      | zero => intro _; exact ⟨[], rfl, fun i hi => absurd hi (by simp)⟩
      | succ k ih =>
        intro hk
        obtain ⟨xs, h1, h2⟩ := ih (by omega)
        obtain ⟨y, hy⟩ := key k
        obtain ⟨y0, cs', _, h3, h4, h5, h6⟩ := hy (by omega)
        refine ⟨xs ++ [y0], by simp [h1], fun i hi => ?_⟩
        rw [List.length_append, List.length_singleton] at hi
        by_cases hlt : i < xs.length
        · rw [List.getElem_append_left hlt]; exact h2 i hlt
        · obtain rfl : i = k := by omega
          rw [List.getElem_append_right (by omega)]
          simp only [h1, Nat.sub_self, List.getElem_cons_zero]
          exact ⟨cs', h3, h4, h5, h6⟩
    obtain ⟨xs, rfl, hxs⟩ := key2 len (Nat.le_refl _)
    refine ⟨_, xs, rfl, ⟨⟨_, _, rfl, hl, by simpa [maxLen] using hm⟩, fun j hj => ?_⟩, fun y hy => ?_⟩
    · obtain ⟨cs', hK, _, hcell, hlen⟩ := hxs j hj
      obtain ⟨b, o, s⟩ := a
      have hs : s = none := by
        by_cases hj0 : j * d.sz = 0
        · have h0 := hcell 0 cs'[0] (by rw [List.getElem?_eq_getElem])
          have := World.cell?_spot h0
          simpa [Addr.add, hj0] using this
        · obtain ⟨cs0, _, _, hcell0, hlen0⟩ := hxs 0 (by omega)
          have h0 := hcell0 0 cs0[0] (by rw [List.getElem?_eq_getElem])
          have := World.cell?_spot h0
          simpa [Addr.add] using this
      subst hs
      have had : ∀ i, ((⟨b, o, none⟩ : Addr).add (j * d.sz)).add i = ⟨b, o + j * d.sz + i, none⟩ := fun i => by unfold Addr.add; split <;> split <;> simp_all
      refine ⟨b, o, cap, cs', rfl, trivial, ?_, hK, fun i u hi => by rw [← had]; exact hcell i u hi⟩
      have h0 := hcell 0 cs'[0] (by rw [List.getElem?_eq_getElem])
      rw [had] at h0
      exact World.block_lt_of_cell? w _ h0
    · obtain ⟨i, hi, rfl⟩ := List.getElem_of_mem hy
      obtain ⟨_, _, hG, _⟩ := hxs i hi
      exact hG

/-- A list that came as an argument. -/
theorem open_list {α : Type} {d : Kd α} {G : α → Prop} {t e : TypeId} (ho : Opens d G e) (ht : Try.prog.underlying t = some (.slice e)) (hc : Try.prog.cellsOf e = d.sz) (hz : 0 < d.sz)
    {H : Type} {enc : TypeId × Value → H} {w : World} {base b0 : Nat} {r : Reach} {spare : Nat → Bool} {held : Bool} {v : Value} {D : DataW H} {ps : List MemPlace} (hval : Value.okWide Try.prog w r b0 t v) (h : DataW.Trod enc Try.prog w base spare held t v D ps) :
    ∃ xs, Row d (fun _ => True) w v xs ∧ ∀ y ∈ xs, G y := by
  obtain ⟨a, n, c, rfl⟩ := okWide_slice ht hval
  obtain ⟨fuel, hf⟩ := h
  obtain ⟨v, xs, e, h1, h2⟩ := open_row ho ht hc hz hf
  simp only [Value.cells, List.cons.injEq, and_true] at e
  subst e
  exact ⟨xs, h1, h2⟩
/-- A struct that came as an argument. -/
theorem open_agg {α : Type} {d : Kd α} {G : α → Prop} {t : TypeId} {fs : Array Field} (ho : Opens d G t) (ht : Try.prog.underlying t = some (.struct fs))
    {H : Type} {enc : TypeId × Value → H} {w : World} {base b0 : Nat} {r : Reach} {spare : Nat → Bool} {held : Bool} {v : Value} {D : DataW H} {ps : List MemPlace} (hval : Value.okWide Try.prog w r b0 t v) (h : DataW.Trod enc Try.prog w base spare held t v D ps) :
    ∃ y cs, v = .agg cs ∧ d.K (fun _ => True) w y cs.toList ∧ G y := by
  obtain ⟨cs, rfl, hs⟩ := okWide_struct ht hval
  obtain ⟨fuel, hf⟩ := h
  obtain ⟨y, h1, h2⟩ := ho _ _ _ _ _ _ _ _ _ hf
  exact ⟨y, cs, rfl, h1, h2⟩
theorem trod_lts {H : Type} {enc : TypeId × Value → H} {w : World} {base : Nat} {spare : Nat → Bool} {held : Bool} {t : TypeId} {v : Value} {D : DataW H} {ps : List MemPlace} (h : DataW.Trod enc Try.prog w base spare held t v D ps) :
    ∀ x ∈ ps, x.block < w.heap.size := by
  obtain ⟨m, hm⟩ := h
  exact DataW.trod_lt m _ _ _ hm
theorem laidOut : laidOutB Try.prog = true := by kernel_rfl
theorem own : ownKnob Try.prog.godebug = none := by kernel_rfl
end Go.Proofs.Lime
