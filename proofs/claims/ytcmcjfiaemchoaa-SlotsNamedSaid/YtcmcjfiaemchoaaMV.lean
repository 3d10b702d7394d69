/- Trees and lists written out, as they lie in blocks. No conditions. Walk: some answers that the document gives, of slots. The answers that the document gives, in the print's form. No conditions. -/
import Derived.Test.YtcmcjfiaemchoaaMA
import Derived.Test.YtcmcjfiaemchoaaMT
namespace Go.Proofs.Lime
open Go.RowKit
set_option linter.unusedVariables false
set_option linter.unusedSimpArgs false

theorem ints_lit (xs : List Int) {S : Nat → Prop} {W : World} {B : Nat} {e : TypeId} (hB : W.heap[B]? = some (.cells (xs.map (Value.int .i64)).toArray e (0, 0))) (hS : S B) (hl : xs.length ≤ 1000) : Row intK S W (.slice (some ⟨B, 0, none⟩) xs.length xs.length) xs := by
  refine ⟨⟨_, _, rfl, Nat.le_refl _, by omega⟩, fun j hj => ⟨B, 0, _, [.int .i64 xs[j]], rfl, hS, (Array.getElem?_eq_some_iff.1 hB).1, rfl, fun i u hi => ?_⟩⟩
  have h1 : i < 1 := (List.getElem?_eq_some_iff.1 hi).1
  obtain rfl : i = 0 := by omega
  have h2 : intK.sz = 1 := rfl
  simp only [World.cell?, hB, h2]
  simp at hi
  subst hi
  simp [hj]
theorem flat_at {α : Type} (f : α → List Value) (n : Nat) (hn : ∀ x, (f x).length = n) : ∀ (xs : List α) (j : Nat) (hj : j < xs.length) (i : Nat), i < n → (xs.flatMap f)[j * n + i]? = (f xs[j])[i]?
  | [], j, hj, _, _ => by simp at hj
  | x :: xs, 0, _, i, hi => by
    rw [List.flatMap_cons, Nat.zero_mul, Nat.zero_add, List.getElem_cons_zero, List.getElem?_append_left (by rw [hn]; exact hi)]
  | x :: xs, j + 1, hj, i, hi => by
    have h1 : (f x).length ≤ (j + 1) * n + i := by rw [hn, Nat.succ_mul]; omega
    rw [List.flatMap_cons, List.getElem?_append_right h1, hn, List.getElem_cons_succ]
    rw [show (j + 1) * n + i - n = j * n + i by rw [Nat.succ_mul]; omega]
    exact flat_at f n hn xs j (by simpa using hj) i hi
theorem attrs_lit (xs : List Attr) {S : Nat → Prop} {W : World} {B : Nat} {e : TypeId} (hB : W.heap[B]? = some (.cells (xs.flatMap Attr.cells).toArray e (0, 0))) (hS : S B) (hl : xs.length ≤ 1000) : Row attrK S W (.slice (some ⟨B, 0, none⟩) xs.length xs.length) xs := by
  refine ⟨⟨_, _, rfl, Nat.le_refl _, by omega⟩, fun j hj => ⟨B, 0, _, _, rfl, hS, (Array.getElem?_eq_some_iff.1 hB).1, rfl, fun i u hi => ?_⟩⟩
  have h1 : i < 2 := (List.getElem?_eq_some_iff.1 hi).1
  have h2 : attrK.sz = 2 := rfl
  simp only [World.cell?, hB, h2]
  have := flat_at Attr.cells 2 (fun _ => rfl) xs j hj i h1
  rw [show (xs[j].cells)[i]? = some u from hi] at this
  simpa using this
/-- A node's cells: vk, va: where its kids and attributes lie. -/
def Nd.lit (x : Nd) (vk va : Value) : List Value := [.int .i64 x.kind, .int .i64 x.tag, .int .i64 x.parent, vk, .int .i64 x.host, .int .i64 x.root, va]
theorem tree_lit (xs : List (Nd × Value × Value)) {S : Nat → Prop} {W : World} {B : Nat} {e : TypeId} (hB : W.heap[B]? = some (.cells (xs.flatMap fun p => p.1.lit p.2.1 p.2.2).toArray e (0, 0))) (hS : S B) (hl : xs.length ≤ 1000)
    (hk : ∀ p ∈ xs, Row intK S W p.2.1 p.1.kids ∧ Row attrK S W p.2.2 p.1.attrs) : Row nodeK S W (.slice (some ⟨B, 0, none⟩) xs.length xs.length) (xs.map Prod.fst) := by
  have hlen : (xs.map Prod.fst).length = xs.length := by simp
  refine ⟨⟨_, _, by rw [hlen], by omega, by omega⟩, fun j hj => ?_⟩
  have hj' : j < xs.length := by omega
  have h0 := hk _ (List.getElem_mem hj')
  refine ⟨B, 0, xs.length, _, by rw [hlen], hS, (Array.getElem?_eq_some_iff.1 hB).1, ⟨xs[j].2.1, xs[j].2.2, rfl, by simpa using h0.1, by simpa using h0.2⟩, fun i u hi => ?_⟩
  have hi' : ((xs[j].1).lit xs[j].2.1 xs[j].2.2)[i]? = some u := by simpa [Nd.lit] using hi
  have h1 : i < 7 := (List.getElem?_eq_some_iff.1 hi').1
  have h2 : nodeK.sz = 7 := rfl
  simp only [World.cell?, hB, h2]
  have := flat_at (fun p : Nd × Value × Value => p.1.lit p.2.1 p.2.2) 7 (fun _ => rfl) xs j hj' i h1
  rw [hi'] at this
  simpa using this
theorem calls_named {P : Program} {f : FuncId} {args : Array Value} {w : World} {R : Ending → World → Prop} (h : ∀ W, W = w → Calls P f args W R) : Calls P f args w R := h _ rfl
end Go.Proofs.Lime
namespace Go.Proofs.Lime
open Go.RowKit
set_option linter.unusedVariables false
set_option linter.unusedSimpArgs false

def liveT : List Nd := [⟨0, 0, -1, [1], -1, -1, []⟩, ⟨1, 0, 0, [5, 6], -1, 2, []⟩, ⟨3, 0, -1, [3, 4], 1, -1, []⟩, ⟨1, 3, 2, [], -1, -1, []⟩, ⟨1, 3, 2, [], -1, -1, [⟨4, 7⟩]⟩, ⟨1, 0, 1, [], -1, -1, [⟨4, 7⟩]⟩, ⟨2, 0, 1, [], -1, -1, []⟩]
set_option maxRecDepth 100000 in
set_option maxHeartbeats 4000000 in
theorem live_c (w : World) : Calls Try.prog 10 #[] w fun e w' => e = .returned (.bool true) ∧ Stp w w' := by
  go_enter Try.func10, Try.ntmps10
  go_wp2_with fail
  refine calls_named fun W hW => ?_
  have hr : Row nodeK (fun _ => True) W (.slice (some ⟨w.heap.size + 1 + 1 + 1 + 1 + 1, 0, none⟩) 7 7) liveT := by
    refine tree_lit (e := 35) [(⟨0, 0, -1, [1], -1, -1, []⟩, .slice (some ⟨w.heap.size, 0, none⟩) 1 1, .slice none 0 0), (⟨1, 0, 0, [5, 6], -1, 2, []⟩, .slice (some ⟨w.heap.size + 1, 0, none⟩) 2 2, .slice none 0 0), (⟨3, 0, -1, [3, 4], 1, -1, []⟩, .slice (some ⟨w.heap.size + 1 + 1, 0, none⟩) 2 2, .slice none 0 0), (⟨1, 3, 2, [], -1, -1, []⟩, .slice none 0 0, .slice none 0 0), (⟨1, 3, 2, [], -1, -1, [⟨4, 7⟩]⟩, .slice none 0 0, .slice (some ⟨w.heap.size + 1 + 1 + 1, 0, none⟩) 1 1), (⟨1, 0, 1, [], -1, -1, [⟨4, 7⟩]⟩, .slice none 0 0, .slice (some ⟨w.heap.size + 1 + 1 + 1 + 1, 0, none⟩) 1 1), (⟨2, 0, 1, [], -1, -1, []⟩, .slice none 0 0, .slice none 0 0)] ?_ trivial (by simp) ?_
    · rw [hW]
      refine heap_new _ _ _ ?_
      simp
    · intro p hp
      simp only [List.mem_cons, List.not_mem_nil, or_false] at hp
      rcases hp with rfl | rfl | rfl | rfl | rfl | rfl | rfl
      · exact ⟨ints_lit [1] (e := 3) (by rw [hW]; (repeat (first | (refine heap_new _ _ _ ?_; (first | rfl | (simp; done)); done) | refine heap_old ?_))) trivial (by simp), Row.nil _ _ _⟩
      · exact ⟨ints_lit [5, 6] (e := 3) (by rw [hW]; (repeat (first | (refine heap_new _ _ _ ?_; (first | rfl | (simp; done)); done) | refine heap_old ?_))) trivial (by simp), Row.nil _ _ _⟩
      · exact ⟨ints_lit [3, 4] (e := 3) (by rw [hW]; (repeat (first | (refine heap_new _ _ _ ?_; (first | rfl | (simp; done)); done) | refine heap_old ?_))) trivial (by simp), Row.nil _ _ _⟩
      · exact ⟨Row.nil _ _ _, Row.nil _ _ _⟩
      · exact ⟨Row.nil _ _ _, attrs_lit [⟨4, 7⟩] (e := 37) (by rw [hW]; (repeat (first | (refine heap_new _ _ _ ?_; (first | rfl | (simp; done)); done) | refine heap_old ?_))) trivial (by simp)⟩
      · exact ⟨Row.nil _ _ _, attrs_lit [⟨4, 7⟩] (e := 37) (by rw [hW]; (repeat (first | (refine heap_new _ _ _ ?_; (first | rfl | (simp; done)); done) | refine heap_old ?_))) trivial (by simp)⟩
      · exact ⟨Row.nil _ _ _, Row.nil _ _ _⟩
  have hst : Stp w W := by rw [hW]; (repeat (first | exact Stp.refl _ | assumption | refine Stp.drew ?_ | refine Stp.drewN ?_ _ | refine Stp.alloc ?_ _ | refine Stp.setCell ?_ (by first | omega | (simp; omega) | simp) _ | refine Stp.trans ?_ (by assumption)))
  clear hW
  have hks : KidsOk liveT := by unfold KidsOk liveT; decide
  have hks0 : KidsOk [] := fun k hk => absurd hk (by simp)
  have c1 := slall_r hr hks 2
  rw [show allR liveT 2 = [3, 4] by decide +kernel] at c1
  have c2 := fun W' (h : Stp W W') => slof_r (hr.stp h) hks 5
  rw [show ofR liveT 5 = 4 by decide +kernel] at c2
  have c3 := fun W' (h : Stp W W') => slof_r (hr.stp h) hks 6
  rw [show ofR liveT 6 = 3 by decide +kernel] at c3
  have c4 := fun W' (h : Stp W W') => slof_r (hr.stp h) hks 1
  rw [show ofR liveT 1 = -1 by decide +kernel] at c4
  have c5 := fun W' (h : Stp W W') => slasg_r (hr.stp h) hks 4
  rw [show asgR liveT 4 = [5] by decide +kernel] at c5
  have c6 := fun W' (h : Stp W W') => slasg_r (hr.stp h) hks 3
  rw [show asgR liveT 3 = [6] by decide +kernel] at c6
  have c7 := fun W' (h : Stp W W') => slasg_r (hr.stp h) hks 1
  rw [show asgR liveT 1 = [] by decide +kernel] at c7
  have c8 := fun (W' : World) => slof_r (Row.nil nodeK (fun _ => True) W') hks0 0
  rw [show ofR [] 0 = -1 by decide +kernel] at c8
  have c9 := fun W' (h : Stp W W') => slof_r (hr.stp h) hks 9
  rw [show ofR liveT 9 = -1 by decide +kernel] at c9
  clear hr hks hks0
  refine (show Calls Try.prog 14 _ _ _ from c1).mono ?_
  rintro e w1 ⟨u, rfl, o1, b1⟩
  obtain ⟨Au, cu, rfl, _⟩ := o1.reads.form
  clear c1
  go_wp2_with fail
  refine (show Calls Try.prog 16 _ _ _ from ints_c (T := fun _ => True) (o1.reads.stp ((Stp.refl _).alloc _)) (ints_lit [3, 4] (World.alloc_heap_new _ _) trivial (by decide))).mono ?_
  rintro e w2 ⟨rfl, hb⟩
  have b2 : Stp w1 w2 := ((Stp.refl _).alloc _).trans hb
  clear hb
  clear o1
  go_wp2_with fail
  refine (show Calls Try.prog 12 _ _ _ from c2 _ (by (repeat (first | exact Stp.refl _ | assumption | refine Stp.drew ?_ | refine Stp.drewN ?_ _ | refine Stp.alloc ?_ _ | refine Stp.setCell ?_ (by first | omega | (simp; omega) | simp) _ | refine Stp.trans ?_ (by assumption))))).mono ?_
  rintro e w3 ⟨rfl, b3⟩
  clear c2
  go_wp2_with fail
  refine (show Calls Try.prog 12 _ _ _ from c3 _ (by (repeat (first | exact Stp.refl _ | assumption | refine Stp.drew ?_ | refine Stp.drewN ?_ _ | refine Stp.alloc ?_ _ | refine Stp.setCell ?_ (by first | omega | (simp; omega) | simp) _ | refine Stp.trans ?_ (by assumption))))).mono ?_
  rintro e w4 ⟨rfl, b4⟩
  clear c3
  go_wp2_with fail
  refine (show Calls Try.prog 12 _ _ _ from c4 _ (by (repeat (first | exact Stp.refl _ | assumption | refine Stp.drew ?_ | refine Stp.drewN ?_ _ | refine Stp.alloc ?_ _ | refine Stp.setCell ?_ (by first | omega | (simp; omega) | simp) _ | refine Stp.trans ?_ (by assumption))))).mono ?_
  rintro e w5 ⟨rfl, b5⟩
  clear c4
  go_wp2_with fail
  refine (show Calls Try.prog 13 _ _ _ from c5 _ (by (repeat (first | exact Stp.refl _ | assumption | refine Stp.drew ?_ | refine Stp.drewN ?_ _ | refine Stp.alloc ?_ _ | refine Stp.setCell ?_ (by first | omega | (simp; omega) | simp) _ | refine Stp.trans ?_ (by assumption))))).mono ?_
  rintro e w6 ⟨u, rfl, o6, b6⟩
  obtain ⟨Au, cu, rfl, _⟩ := o6.reads.form
  clear c5
  go_wp2_with fail
  refine (show Calls Try.prog 16 _ _ _ from ints_c (T := fun _ => True) (o6.reads.stp ((Stp.refl _).alloc _)) (ints_lit [5] (World.alloc_heap_new _ _) trivial (by decide))).mono ?_
  rintro e w7 ⟨rfl, hb⟩
  have b7 : Stp w6 w7 := ((Stp.refl _).alloc _).trans hb
  clear hb
  clear o6
  go_wp2_with fail
  refine (show Calls Try.prog 13 _ _ _ from c6 _ (by (repeat (first | exact Stp.refl _ | assumption | refine Stp.drew ?_ | refine Stp.drewN ?_ _ | refine Stp.alloc ?_ _ | refine Stp.setCell ?_ (by first | omega | (simp; omega) | simp) _ | refine Stp.trans ?_ (by assumption))))).mono ?_
  rintro e w8 ⟨u, rfl, o8, b8⟩
  obtain ⟨Au, cu, rfl, _⟩ := o8.reads.form
  clear c6
  go_wp2_with fail
  refine (show Calls Try.prog 16 _ _ _ from ints_c (T := fun _ => True) (o8.reads.stp ((Stp.refl _).alloc _)) (ints_lit [6] (World.alloc_heap_new _ _) trivial (by decide))).mono ?_
  rintro e w9 ⟨rfl, hb⟩
  have b9 : Stp w8 w9 := ((Stp.refl _).alloc _).trans hb
  clear hb
  clear o8
  go_wp2_with fail
  refine (show Calls Try.prog 13 _ _ _ from c7 _ (by (repeat (first | exact Stp.refl _ | assumption | refine Stp.drew ?_ | refine Stp.drewN ?_ _ | refine Stp.alloc ?_ _ | refine Stp.setCell ?_ (by first | omega | (simp; omega) | simp) _ | refine Stp.trans ?_ (by assumption))))).mono ?_
  rintro e w10 ⟨u, rfl, o10, b10⟩
  obtain ⟨Au, cu, rfl, _⟩ := o10.reads.form
  clear c7
  go_wp2_with fail
  refine (show Calls Try.prog 12 _ _ _ from c8 _).mono ?_
  rintro e w11 ⟨rfl, b11⟩
  go_wp2_with fail
  refine (show Calls Try.prog 12 _ _ _ from c9 _ (by (repeat (first | exact Stp.refl _ | assumption | refine Stp.drew ?_ | refine Stp.drewN ?_ _ | refine Stp.alloc ?_ _ | refine Stp.setCell ?_ (by first | omega | (simp; omega) | simp) _ | refine Stp.trans ?_ (by assumption))))).mono ?_
  rintro e w12 ⟨rfl, b12⟩
  go_wp2
  go_ret
  exact ⟨rfl, by (repeat (first | exact Stp.refl _ | assumption | refine Stp.drew ?_ | refine Stp.drewN ?_ _ | refine Stp.alloc ?_ _ | refine Stp.setCell ?_ (by first | omega | (simp; omega) | simp) _ | refine Stp.trans ?_ (by assumption)))⟩
end Go.Proofs.Lime
namespace Go.Proofs.Ytcmcjfiaemchoaa.P
open Go.RowKit Go.Proofs.YtcmcjfiaemchoaaW.PrintWords Go.Proofs.YtcmcjfiaemchoaaW.PrintLast Go.Proofs.YtcmcjfiaemchoaaW.PrintMore
set_option linter.unusedVariables false
set_option linter.unusedSimpArgs false
def limelightlaw05_live.f : Option Bool := some true
theorem limelightlaw05_live.calls (r : Bool) (w : World) (h : limelightlaw05_live.f = some r) : Calls Try.prog 10 #[] w fun e w' => e = .returned (.bool r) ∧ Below w.heap.size w w' := by
  obtain rfl := Option.some.inj h
  exact (Lime.live_c w).mono fun e w' ⟨h1, h3⟩ => ⟨h1, h3.out⟩
end Go.Proofs.Ytcmcjfiaemchoaa.P
