/- The contracts of what makes and turns trees in the print's form. No conditions. -/
import Derived.Test.YtclhmgchllenlaaME
import Derived.Test.YtclhmgchllenlaaTin
namespace Go.Proofs.Ytclhmgchllenlaa.P
open Go.RowKit Go.Proofs.YtclhmgchllenlaaW.PrintWords Go.Proofs.YtclhmgchllenlaaW.PrintLast Go.Proofs.YtclhmgchllenlaaW.PrintMore
set_option linter.unusedVariables false
set_option linter.unusedSimpArgs false
theorem heap_lt' {a b : World} {k : Nat} (h : a.heap[k]? = b.heap[k]?) (hk : k < b.heap.size) : k < a.heap.size := by
  rw [Array.getElem?_eq_getElem hk] at h
  exact (Array.getElem?_eq_some_iff.1 h).1
/-- A tree that is only read, in the print's words. -/
theorem V_tree {S : Nat → Prop} {w : World} {base : Nat} {v : Value} {t : List Lime.Nd} (h : Lime.Row Lime.nodeK S w v t) : Kd.V k49 49 w base S v (rt t) := by
  obtain ⟨A, c, rfl, h1, h2⟩ := h.form
  refine ⟨A, c, by rw [rt_length], by rw [rt_length]; exact h1, fun W' hW' => ?_⟩
  have hrow : Lime.Row Lime.nodeK S W' (.slice A t.length c) t := ⟨⟨A, c, rfl, h1, h2⟩, fun j hj => by
    obtain ⟨b, o, c', cs, e, hS, hb, hk, hc⟩ := h.get j hj
    have hq := hW' b hS hb
    refine ⟨b, o, c', cs, e, hS, heap_lt' hq hb, Lime.nodeK.mono (fun k hk => hk.1) (Lime.nodeK.move (fun k hk => hW' k hk.1 hk.2) (Lime.nodeK.bound hk)), fun i u hi => ?_⟩
    rw [World.cell?_of_block (w := w) (a := ⟨b, o + j * Lime.nodeK.sz + i, none⟩) hq]
    exact hc i u hi⟩
  rw [rt_length]
  exact (C_tree hrow).1
theorem rt_tr (l : List S49) : rt (tr l) = l := by
  have h1 : ∀ x : S49, nd2 (nd1 x) = x := fun x => by
    obtain ⟨a, b, c, d, e, f, g⟩ := x
    simp only [nd1, nd2, List.map_map]
    congr 1
    exact List.map_id'' (fun _ => rfl) g
  simp [tr, rt, List.map_map, Function.comp_def, h1]
/-- Trees of no great length alone. -/
def ifOk {α : Type} (l : List S49) (x : α) : Option α := if Lime.okT (tr l) = true then some x else none
theorem ifOk_some {α : Type} {l : List S49} {x r : α} (h : ifOk l x = some r) : Lime.okT (tr l) = true ∧ x = r := by
  unfold ifOk at h
  split at h
  · exact ⟨‹_›, Option.some.inj h⟩
  · cases h
theorem out_V {P0 : Nat → Prop} {A0 : Option Addr} {c0 : Nat} {l0 : List S49} {w w' : World} (hs0 : Kd.V k49 49 w w.heap.size (fun k_ => P0 k_) (.slice A0 l0.length c0) l0) (hb : Lime.Stp w w') {u : Value} {r : List Lime.Nd} (h : Lime.TOut w w' (.slice A0 l0.length c0) (tr l0) u r) : Kd.V k49 49 w' w.heap.size (fun k_ => P0 k_ ∨ w.heap.size ≤ k_) u (rt r) := by
  rcases h with ⟨rfl, rfl⟩ | h
  · rw [rt_tr]
    exact Kd.V_mono (Kd.V_below hs0 hb.out) fun k hk => .inl hk
  · exact Kd.V_mono (V_tree h) fun k hk => .inr hk
def tree_New.f : Option (List S49) := some (rt [Lime.freshN 0 0])
theorem tree_New.calls (r : List S49) (w : World) (h : tree_New.f = some r) : Calls Try.prog 22 #[] w fun e w' => ∃ v0_ : Value, e = .returned (v0_) ∧ Kd.V k49 49 w' w.heap.size (fun k_ => w.heap.size ≤ k_) v0_ r ∧ Below w.heap.size w w' := by
  obtain rfl := Option.some.inj h
  exact (Lime.new_c w).mono fun e w' ⟨u, h1, h2, h3⟩ => ⟨u, h1, V_tree h2, h3.out⟩
def tree_Make.f (l0 : List S49) (a1 a2 : Int) : Option (List S49 × Int × Int) := ifOk l0 (rt (Lime.mkR (tr l0) a1 a2).1, (Lime.mkR (tr l0) a1 a2).2.1, (Lime.mkR (tr l0) a1 a2).2.2)
theorem tree_Make.calls (P0_ : Nat → Prop) (A0 : Option Addr) (c0 : Nat) (l0 : List S49) (a1 : Int) (a2 : Int) (r1 : List S49) (r2 : Int) (r3 : Int) (w : World) (hs0 : Kd.V k49 49 w w.heap.size (fun k_ => P0_ k_) (.slice A0 l0.length c0) l0) (h : tree_Make.f l0 a1 a2 = some (r1, r2, r3)) :
    Calls Try.prog 11 #[.slice A0 l0.length c0, .int .i64 a1, .int .i64 a2] w fun e w' => ∃ v0_ : Value, e = .returned (.tuple #[v0_, .int .i64 r2, .int .i64 r3]) ∧ Kd.V k49 49 w' w.heap.size (fun k_ => (P0_ k_ ∨ w.heap.size ≤ k_)) v0_ r1 ∧ Below w.heap.size w w' := by
  obtain ⟨hok, hx⟩ := ifOk_some h
  injection hx with h1 h2
  injection h2 with h2 h3
  subst h1 h2 h3
  have hC := Kd.V_reads' hs0
  exact (Lime.make_c (row_tree hC.2.2 hC.2.1) hok a1 a2).mono fun e w' ⟨u, h1, h2, h3⟩ => ⟨u, h1, out_V hs0 h3 h2, h3.out⟩
def tree_Attach.f (l0 : List S49) (a1 : Int) : Option (List S49 × Int × Int) := ifOk l0 (rt (Lime.atR (tr l0) a1).1, (Lime.atR (tr l0) a1).2.1, (Lime.atR (tr l0) a1).2.2)
theorem tree_Attach.calls (P0_ : Nat → Prop) (A0 : Option Addr) (c0 : Nat) (l0 : List S49) (a1 : Int) (r1 : List S49) (r2 : Int) (r3 : Int) (w : World) (hs0 : Kd.V k49 49 w w.heap.size (fun k_ => P0_ k_) (.slice A0 l0.length c0) l0) (h : tree_Attach.f l0 a1 = some (r1, r2, r3)) :
    Calls Try.prog 13 #[.slice A0 l0.length c0, .int .i64 a1] w fun e w' => ∃ v0_ : Value, e = .returned (.tuple #[v0_, .int .i64 r2, .int .i64 r3]) ∧ Kd.V k49 49 w' w.heap.size (fun k_ => (P0_ k_ ∨ w.heap.size ≤ k_)) v0_ r1 ∧ Below w.heap.size w w' := by
  obtain ⟨hok, hx⟩ := ifOk_some h
  injection hx with h1 h2
  injection h2 with h2 h3
  subst h1 h2 h3
  have hC := Kd.V_reads' hs0
  exact (Lime.attach_c (row_tree hC.2.2 hC.2.1) hok a1).mono fun e w' ⟨u, h1, h2, h3⟩ => ⟨u, h1, out_V hs0 h3 h2, h3.out⟩
def tree_Insert.f (l0 : List S49) (a1_0 a1_1 a1_2 : Int) : Option (List S49 × Int) := ifOk l0 (rt (Lime.insR (tr l0) a1_0 a1_1 a1_2).1, (Lime.insR (tr l0) a1_0 a1_1 a1_2).2)
theorem tree_Insert.calls (P0_ : Nat → Prop) (A0 : Option Addr) (c0 : Nat) (l0 : List S49) (a1_0 : Int) (a1_1 : Int) (a1_2 : Int) (r1 : List S49) (r2 : Int) (w : World) (hs0 : Kd.V k49 49 w w.heap.size (fun k_ => P0_ k_) (.slice A0 l0.length c0) l0) (h : tree_Insert.f l0 a1_0 a1_1 a1_2 = some (r1, r2)) :
    Calls Try.prog 17 #[.slice A0 l0.length c0, .agg #[.int .i64 a1_0, .int .i64 a1_1, .int .i64 a1_2]] w fun e w' => ∃ v0_ : Value, e = .returned (.tuple #[v0_, .int .i64 r2]) ∧ Kd.V k49 49 w' w.heap.size (fun k_ => (P0_ k_ ∨ w.heap.size ≤ k_)) v0_ r1 ∧ Below w.heap.size w w' := by
  obtain ⟨hok, hx⟩ := ifOk_some h
  injection hx with h1 h2
  subst h1 h2
  have hC := Kd.V_reads' hs0
  exact (Lime.insert_c (row_tree hC.2.2 hC.2.1) hok a1_0 a1_1 a1_2).mono fun e w' ⟨u, h1, h2, h3⟩ => ⟨u, h1, out_V hs0 h3 h2, h3.out⟩
def tree_Remove.f (l0 : List S49) (a1 : Int) : Option (List S49 × Int) := ifOk l0 (rt (Lime.rmR (tr l0) a1).1, (Lime.rmR (tr l0) a1).2)
theorem tree_Remove.calls (P0_ : Nat → Prop) (A0 : Option Addr) (c0 : Nat) (l0 : List S49) (a1 : Int) (r1 : List S49) (r2 : Int) (w : World) (hs0 : Kd.V k49 49 w w.heap.size (fun k_ => P0_ k_) (.slice A0 l0.length c0) l0) (h : tree_Remove.f l0 a1 = some (r1, r2)) :
    Calls Try.prog 20 #[.slice A0 l0.length c0, .int .i64 a1] w fun e w' => ∃ v0_ : Value, e = .returned (.tuple #[v0_, .int .i64 r2]) ∧ Kd.V k49 49 w' w.heap.size (fun k_ => (P0_ k_ ∨ w.heap.size ≤ k_)) v0_ r1 ∧ Below w.heap.size w w' := by
  obtain ⟨hok, hx⟩ := ifOk_some h
  injection hx with h1 h2
  subst h1 h2
  have hC := Kd.V_reads' hs0
  exact (Lime.remove_c (row_tree hC.2.2 hC.2.1) hok a1).mono fun e w' ⟨u, h1, h2, h3⟩ => ⟨u, h1, out_V hs0 h3 h2, h3.out⟩
end Go.Proofs.Ytclhmgchllenlaa.P
