/- Walk: some answers that the document gives, of trees. -/
import Derived.Test.YtclhmgchllenlaaGMk
namespace Go.Proofs.Lime
open Go.RowKit
set_option linter.unusedVariables false
set_option linter.unusedSimpArgs false
attribute [local go_sem] Oper.semAt_some
theorem ints_lit (xs : List Int) {S : Nat → Prop} {W : World} {B : Nat} {e : TypeId} (hB : W.heap[B]? = some (.cells (xs.map (Value.int .i64)).toArray e (0, 0))) (hS : S B) (hl : xs.length ≤ 1000) : Row intK S W (.slice (some ⟨B, 0, none⟩) xs.length xs.length) xs := by
  refine ⟨⟨_, _, rfl, Nat.le_refl _, by omega⟩, fun j hj => ⟨B, 0, _, [.int .i64 xs[j]], rfl, hS, (Array.getElem?_eq_some_iff.1 hB).1, rfl, fun i u hi => ?_⟩⟩
  have h1 : i < 1 := (List.getElem?_eq_some_iff.1 hi).1
  obtain rfl : i = 0 := by omega
  have h2 : intK.sz = 1 := rfl
  simp only [World.cell?, hB, h2]
  simp at hi
  subst hi
  simp [hj]
theorem TOut.row {S : Nat → Prop} {w w' : World} {v u : Value} {t r : List Nd} (hr : Row nodeK S w v t) (h : TOut w w' v t u r) (hs : Stp w w') : Row nodeK (fun _ => True) w' u r := by
  rcases h with ⟨rfl, rfl⟩ | h
  · exact (hr.stp hs).mono fun _ _ => trivial
  · exact h.mono fun _ _ => trivial
abbrev la0 : List Nd := [freshN 0 0]
abbrev la1 : List Nd := [freshN 0 0, freshN 1 1]
abbrev la2 : List Nd := [freshN 0 0, freshN 1 1, freshN 2 0]
abbrev la3 : List Nd := [⟨0, 0, -1, [1], -1, -1, []⟩, ⟨1, 1, 0, [], -1, -1, []⟩, freshN 2 0]
abbrev la4 : List Nd := [⟨0, 0, -1, [2, 1], -1, -1, []⟩, ⟨1, 1, 0, [], -1, -1, []⟩, ⟨2, 0, 0, [], -1, -1, []⟩]
abbrev la5 : List Nd := [⟨0, 0, -1, [2, 1], -1, -1, []⟩, ⟨1, 1, 0, [], -1, 3, []⟩, ⟨2, 0, 0, [], -1, -1, []⟩, ⟨3, 0, -1, [], 1, -1, []⟩]
abbrev la6 : List Nd := [⟨0, 0, -1, [1], -1, -1, []⟩, ⟨1, 1, 0, [], -1, 3, []⟩, ⟨2, 0, -1, [], -1, -1, []⟩, ⟨3, 0, -1, [], 1, -1, []⟩]
set_option maxRecDepth 100000 in
set_option maxHeartbeats 4000000 in
theorem live01_c (w : World) : Calls Try.prog 10 #[] w fun e w' => e = .returned (.bool true) ∧ Stp w w' := by
  have m1 : mkR la0 1 1 = (la1, 1, 0) := by kernel_rfl
  have m2 : mkR la1 2 0 = (la2, 2, 0) := by kernel_rfl
  have m3 : insR la2 0 1 (-1) = (la3, 0) := by kernel_rfl
  have m4 : insR la3 0 2 1 = (la4, 0) := by kernel_rfl
  have m5 : atR la4 1 = (la5, 3, 0) := by kernel_rfl
  have m6 : (insR la5 3 1 (-1)).2 = 5 := by kernel_rfl
  have m7 : rmR la5 2 = (la6, 0) := by kernel_rfl
  go_enter Try.func10, Try.ntmps10
  go_upto_region 2 with (first | (go_at_call 22; refine (new_c _).mono ?_; rintro e w1 ⟨u1, rfl, r1, hb1⟩; have c1 := make_c r1 (by decide) 1 1; rw [m1] at c1; obtain ⟨A1, d1, rfl, _, _⟩ := r1.form) | (go_at_call 11; refine (show Calls Try.prog 11 _ _ _ from c1).mono ?_; rintro e w2 ⟨u2, rfl, o2, hb2⟩))
  have r2 := TOut.row r1 o2 hb2
  have c2 := make_c r2 (by decide) 2 0
  rw [m2] at c2
  clear c1 r1 o2
  obtain ⟨A2, d2, rfl, _, _⟩ := r2.form
  go_upto_region 3 with (go_at_call 11; refine (show Calls Try.prog 11 _ _ _ from c2).mono ?_; rintro e w3 ⟨u3, rfl, o3, hb3⟩)
  have r3 := TOut.row r2 o3 hb3
  have c3 := insert_c r3 (by decide) 0 1 (-1)
  rw [m3] at c3
  clear c2 r2 o3
  obtain ⟨A3, d3, rfl, _, _⟩ := r3.form
  go_upto_region 4 with (go_at_call 17; refine (show Calls Try.prog 17 _ _ _ from c3).mono ?_; rintro e w4 ⟨u4, rfl, o4, hb4⟩)
  have r4 := TOut.row r3 o4 hb4
  have c4 := insert_c r4 (by decide) 0 2 1
  rw [m4] at c4
  clear c3 r3 o4
  obtain ⟨A4, d4, rfl, _, _⟩ := r4.form
  go_upto_region 5 with (go_at_call 17; refine (show Calls Try.prog 17 _ _ _ from c4).mono ?_; rintro e w5 ⟨u5, rfl, o5, hb5⟩)
  have r5 := TOut.row r4 o5 hb5
  have c5 := attach_c r5 (by decide) 1
  rw [m5] at c5
  clear c4 r4 o5
  obtain ⟨A5, d5, rfl, _, _⟩ := r5.form
  go_upto_region 6 with (go_at_call 13; refine (show Calls Try.prog 13 _ _ _ from c5).mono ?_; rintro e w6 ⟨u6, rfl, o6, hb6⟩)
  have r6 := TOut.row r5 o6 hb6
  have c6 := insert_c r6 (by decide) 3 1 (-1)
  clear c5 r5 o6
  obtain ⟨A6, d6, rfl, _, _⟩ := r6.form
  go_upto_region 7 with (go_at_call 17; refine (show Calls Try.prog 17 _ _ _ from c6).mono ?_; rintro e w7 ⟨u7, rfl, o7, hb7⟩; rw [m6])
  have r7 := r6.stp hb7
  have c7 := remove_c r7 (by decide) 2
  rw [m7] at c7
  clear c6 r6 o7
  go_upto_region 8 with (go_at_call 20; refine (show Calls Try.prog 20 _ _ _ from c7).mono ?_; rintro e w8 ⟨u8, rfl, o8, hb8⟩)
  have r8 := TOut.row r7 o8 hb8
  have r7' := r7.stp hb8
  clear c7 r7 o8
  obtain ⟨A8, d8, rfl, _, _⟩ := r8.form
  obtain ⟨bU, oU, rfl, _, _, hatU⟩ := tree_base r7' (by decide)
  obtain ⟨K0, k0, _, _, a0⟩ := hatU 0 (by decide)
  obtain ⟨_, _, _, _, a1⟩ := hatU 1 (by decide)
  obtain ⟨_, _, _, _, a3⟩ := hatU 3 (by decide)
  obtain ⟨bV, oV, rfl, _, _, hatV⟩ := tree_base r8 (by decide)
  obtain ⟨K1, k1, _, _, e0⟩ := hatV 0 (by decide)
  obtain ⟨_, _, _, _, e2⟩ := hatV 2 (by decide)
  have x1 := a0.c3
  have x2 := a1.c5
  have x3 := a3.c4
  have x4 := e0.c3
  have x5 := e2.c2
  have y1 := a0.kids
  have y2 := e0.kids
  have hst : Stp w w8 := hb1.trans (hb2.trans (hb3.trans (hb4.trans (hb5.trans (hb6.trans (hb7.trans hb8))))))
  simp only [List.getElem_cons_zero, List.getElem_cons_succ, Nat.zero_mul, Nat.one_mul, Nat.add_zero, Nat.reduceMul, List.length_cons, List.length_nil, Nat.reduceAdd] at x1 x2 x3 x4 x5 y1 y2
  have ck := fun W (h : Stp w8 W) => check_c (r8.stp h) (by intro k hk; revert k; decide)
  have cn := fun W => check_c (S := fun _ => True) (Row.nil nodeK _ W) (by intro k hk; simp at hk)
  rw [show mayT la6 = true by kernel_rfl, if_pos rfl] at ck
  rw [show mayT ([] : List Nd) = false by kernel_rfl, if_neg (by simp)] at cn
  clear hatU hatV a0 a1 a3 e0 e2 r7' r8 hb1 hb2 hb3 hb4 hb5 hb6 hb7 hb8 m1 m2 m3 m4 m5 m6 m7
  go_upto_region 10 with fail
  have ci1 : Calls Try.prog 27 #[.slice K0 2 k0, .slice (some ⟨w8.heap.size, 0, none⟩) 2 2] (w8.alloc (.cells #[.int .i64 2, .int .i64 1] 3)) fun e w' => e = .returned (.bool true) ∧ Stp (w8.alloc (.cells #[.int .i64 2, .int .i64 1] 3)) w' :=
    ints_c (y1.stp ((Stp.refl w8).alloc _)) (ints_lit (S := fun _ => True) [2, 1] (World.alloc_heap_new w8 _) trivial (by decide))
  have ci2 : ∀ W, Stp w8 W → Calls Try.prog 27 #[.slice K1 1 k1, .slice (some ⟨W.heap.size, 0, none⟩) 1 1] (W.alloc (.cells #[.int .i64 1] 3)) fun e w' => e = .returned (.bool true) ∧ Stp (W.alloc (.cells #[.int .i64 1] 3)) w' := fun W h =>
    ints_c (y2.stp (h.alloc _)) (ints_lit (S := fun _ => True) [1] (World.alloc_heap_new W _) trivial (by decide))
  clear y1 y2
  go_wp2_with (first | (go_at_call 27; with_reducible refine ci1.mono ?_; rintro e w9 ⟨rfl, hb9⟩; have hb9' : Stp w8 w9 := ((Stp.refl w8).alloc _).trans hb9; replace x2 := hb9'.cell x2; replace x3 := hb9'.cell x3; replace x4 := hb9'.cell x4; replace x5 := hb9'.cell x5) | (go_at_call 27; refine (show Calls Try.prog 27 _ _ _ from ci2 w9 hb9').mono ?_; rintro e w10 ⟨rfl, hb10⟩; have hb10' : Stp w9 w10 := ((Stp.refl w9).alloc _).trans hb10; replace x5 := hb10'.cell x5) | (go_at_call 25; with_reducible refine (cn _).mono ?_; rintro e w12 ⟨rfl, hb12⟩) | (go_at_call 25; refine (show Calls Try.prog 25 _ _ _ from ck _ Lime.stp_).mono ?_; rintro e w11 ⟨rfl, hb11⟩))
  go_ret
  exact ⟨rfl, by (exact Lime.stp_)⟩
end Go.Proofs.Lime
namespace Go.Proofs.Ytclhmgchllenlaa.P
open Go.RowKit Go.Proofs.YtclhmgchllenlaaW.PrintWords
def limelightlaw01_live.f : Option Bool := some true
theorem limelightlaw01_live.calls (r : Bool) (w : World) (h : limelightlaw01_live.f = some r) : Calls Try.prog 10 #[] w fun e w' => e = .returned (.bool r) ∧ Below w.heap.size w w' := by
  obtain rfl := Option.some.inj h
  exact (Lime.live01_c w).mono fun e w' ⟨h1, h3⟩ => ⟨h1, h3.out⟩
end Go.Proofs.Ytclhmgchllenlaa.P
