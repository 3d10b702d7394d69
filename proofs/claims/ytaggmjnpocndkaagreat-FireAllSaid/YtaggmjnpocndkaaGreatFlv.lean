/- Walks: some answers that the document gives, of an event's calls; a run that is none. -/
import Derived.Test.YtaggmjnpocndkaaGreatFal
import Derived.Test.YtaggmjnpocndkaaGreatMW
namespace Go.Proofs.Lime
open Go.RowKit
set_option linter.unusedVariables false
set_option linter.unusedSimpArgs false
attribute [local go_sem] Oper.semAt_some
attribute [local go_sem high] pnil pnil2
theorem eqStp (d : Nat) (w : World) (x0 y0 x1 y1 x2 y2 : Int) :
    (Op.equalIn (d + 2) 37 (.agg #[.int .i64 x0, .int .i64 x1, .int .i64 x2]) (.agg #[.int .i64 y0, .int .i64 y1, .int .i64 y2])).run Tryz.prog w = .ok (x0 == y0 && (x1 == y1 && (x2 == y2))) w := by
  refine eqA_of Tryz.underlying37 (by kernel_rfl) ?_
  refine eqf_cons (by rfl) (by go_simp; rfl) (by go_simp; rfl) (by go_simp) ?_
  refine eqf_cons (by rfl) (by go_simp; rfl) (by go_simp; rfl) (by go_simp) ?_
  exact eqf_last (by rfl) (by go_simp; rfl) (by go_simp; rfl) (by go_simp)
theorem eqVis (d : Nat) (w : World) (x0 y0 x1 y1 x2 y2 x3 y3 : Int) (x4 y4 : Bool) :
    (Op.equalIn (d + 3) 39 (.agg #[.int .i64 x0, .int .i64 x1, .int .i64 x2, .int .i64 x3, .bool x4]) (.agg #[.int .i64 y0, .int .i64 y1, .int .i64 y2, .int .i64 y3, .bool y4])).run Tryz.prog w = .ok ((x0 == y0 && (x1 == y1 && (x2 == y2))) && (x3 == y3 && (x4 == y4))) w := by
  refine eqA_of Tryz.underlying39 (by kernel_rfl) ?_
  refine eqf_cons (by rfl) (by go_simp) (by go_simp) (eqStp (d + 0) w _ _ _ _ _ _) ?_
  refine eqf_cons (by rfl) (by go_simp; rfl) (by go_simp; rfl) (by go_simp) ?_
  exact eqf_last (by rfl) (by go_simp; rfl) (by go_simp; rfl) (by go_simp)
theorem eqCal (d : Nat) (w : World) (a0 b0 a1 b1 : Int) (a2 b2 a3 b3 : Bool) (a4 b4 x0 y0 x1 y1 x2 y2 x3 y3 : Int) (x4 y4 : Bool) :
    (Op.equalIn (d + 4) 41 (.agg #[.int .i64 a0, .int .i64 a1, .bool a2, .bool a3, .int .i64 a4, .int .i64 x0, .int .i64 x1, .int .i64 x2, .int .i64 x3, .bool x4]) (.agg #[.int .i64 b0, .int .i64 b1, .bool b2, .bool b3, .int .i64 b4, .int .i64 y0, .int .i64 y1, .int .i64 y2, .int .i64 y3, .bool y4])).run Tryz.prog w = .ok ((a0 == b0 && (a1 == b1 && (a2 == b2 && (a3 == b3 && (a4 == b4))))) && ((x0 == y0 && (x1 == y1 && (x2 == y2))) && (x3 == y3 && (x4 == y4)))) w := by
  refine eqA_of Tryz.underlying41 (by kernel_rfl) ?_
  refine eqf_cons (by rfl) (by go_simp) (by go_simp) (eqHear (d + 1) w _ _ _ _ _ _ _ _ _ _) ?_
  exact eqf_last (by rfl) (by go_simp) (by go_simp) (eqVis d w _ _ _ _ _ _ _ _ _ _)
def liveT9 : List Nd := [⟨0, 0, -1, [1], -1, -1, []⟩, ⟨1, 0, 0, [], -1, -1, []⟩]
def liveH9 : List Hear := [⟨1, 2, false, false, 1⟩, ⟨1, 2, false, false, 2⟩, ⟨0, 2, false, false, 3⟩, ⟨0, 2, true, false, 4⟩]
theorem hears_lit (xs : List Hear) {S : Nat → Prop} {W : World} {B : Nat} {e : TypeId} (hB : W.heap[B]? = some (.cells (xs.flatMap Hear.cells).toArray e (0, 0))) (hS : S B) (hl : xs.length ≤ 1000) : Row hearK S W (.slice (some ⟨B, 0, none⟩) xs.length xs.length) xs := by
  refine ⟨⟨_, _, rfl, Nat.le_refl _, by omega⟩, fun j hj => ⟨B, 0, _, _, rfl, hS, (Array.getElem?_eq_some_iff.1 hB).1, rfl, fun i u hi => ?_⟩⟩
  have h1 : i < 5 := (List.getElem?_eq_some_iff.1 hi).1
  have h2 : hearK.sz = 5 := rfl
  simp only [World.cell?, hB, h2]
  have := flat_at Hear.cells 5 (fun _ => rfl) xs j hj i h1
  rw [show (xs[j].cells)[i]? = some u from hi] at this
  simpa using this
abbrev lv1 : Vis := ⟨⟨0, 1, -1⟩, 1, true⟩
abbrev lv2 : Vis := ⟨⟨1, 1, -1⟩, 2, true⟩
abbrev lv3 : Vis := ⟨⟨1, 1, -1⟩, 2, false⟩
abbrev lv4 : Vis := ⟨⟨0, 1, -1⟩, 3, false⟩
set_option maxRecDepth 100000 in
set_option maxHeartbeats 4000000 in
theorem live9_c (w : World) : Calls Tryz.prog 5 #[] w fun e w' => e = .returned (.bool true) ∧ Stp w w' := by
  go_enter Tryz.func5, Tryz.ntmps5
  go_upto_region 3 with fail
  obtain ⟨w3, hw3⟩ : ∃ w3, ((w.alloc (.cells #[.int .i64 1] 3)).alloc (.cells #[.int .i64 0, .int .i64 0, .int .i64 (-1), .slice (some ⟨w.heap.size, 0, none⟩) 1 1, .int .i64 (-1), .int .i64 (-1), .slice none 0 0, .int .i64 1, .int .i64 0, .int .i64 0, .slice none 0 0, .int .i64 (-1), .int .i64 (-1), .slice none 0 0] 51)).alloc (.cells #[.int .i64 1, .int .i64 2, .bool false, .bool false, .int .i64 1, .int .i64 1, .int .i64 2, .bool false, .bool false, .int .i64 2, .int .i64 0, .int .i64 2, .bool false, .bool false, .int .i64 3, .int .i64 0, .int .i64 2, .bool true, .bool false, .int .i64 4] 35) = w3 := ⟨_, rfl⟩
  have hr : Row nodeK (fun _ => True) w3 (.slice (some ⟨w.heap.size + 1, 0, none⟩) 2 2) liveT9 := by
    refine tree_lit (e := 51) [(⟨0, 0, -1, [1], -1, -1, []⟩, .slice (some ⟨w.heap.size, 0, none⟩) 1 1, .slice none 0 0), (⟨1, 0, 0, [], -1, -1, []⟩, .slice none 0 0, .slice none 0 0)] ?_ trivial (by simp) ?_
    · rw [← hw3]
      (repeat (first | (refine heap_new _ _ _ ?_; (first | rfl | (simp; done)); done) | refine heap_old ?_))
    · intro p hp
      simp only [List.mem_cons, List.not_mem_nil, or_false] at hp
      rcases hp with rfl | rfl
      · exact ⟨ints_lit [1] (e := 3) (by rw [← hw3]; (repeat (first | (refine heap_new _ _ _ ?_; (first | rfl | (simp; done)); done) | refine heap_old ?_))) trivial (by simp), Row.nil _ _ _⟩
      · exact ⟨Row.nil _ _ _, Row.nil _ _ _⟩
  have hl : Row hearK (fun k => k < w3.heap.size) w3 (.slice (some ⟨w.heap.size + 1 + 1, 0, none⟩) 4 4) liveH9 := by
    refine hears_lit (e := 35) liveH9 ?_ ?_ (by decide)
    · rw [← hw3]
      (repeat (first | (refine heap_new _ _ _ ?_; (first | rfl | (simp; done)); done) | refine heap_old ?_))
    · rw [← hw3]; simp
  have hs3 : Stp w w3 := by rw [← hw3]; (exact Lime.stp_)
  rw [hw3]
  clear hw3
  go_upto_region 4 with fail
  obtain ⟨w4, hw4, hs4, hz4', gE⟩ := box_named w3 #[.int .i64 2, .int .i64 1, .int .i64 (-1), .bool true, .bool true, .bool false] 25
  have hE4 : w4.heap[w3.heap.size]? = some (.cells #[.int .i64 2, .int .i64 1, .int .i64 (-1), .bool true, .bool true, .bool false] 25 (0, 0)) := by rw [← hw4]; exact World.alloc_heap_new w3 _
  clear gE
  rw [hw4]
  clear hw4
  have hr4 := hr.stp hs4
  have hl4 := hl.stp hs4
  have hz4 := hs4.size
  have hsw4 : Stp w w4 := hs3.trans hs4
  have hEl := (Array.getElem?_eq_some_iff.1 hE4).1
  clear hr hl hs3 hs4
  have hks : KidsOk liveT9 := by unfold KidsOk liveT9; decide
  have ho : mayT liveT9 = true ∧ isN liveT9 1 = true := ⟨by decide +kernel, by decide +kernel⟩
  have cn := fun W (h : Stp w4 W) => new_yes (hr4.stp h) hks (by decide) 2 (-1) true true false ho
  have hvs : visL (pathT liveT9 false 1 (-1) 1) true = [lv1, lv2, lv3, lv4] := by decide +kernel
  rw [hvs] at cn
  obtain ⟨e0, _⟩ := inB hE4 0 _ rfl
  obtain ⟨e1, _⟩ := inB hE4 1 _ rfl
  obtain ⟨e2, _⟩ := inB hE4 2 _ rfl
  obtain ⟨e3, _⟩ := inB hE4 3 _ rfl
  obtain ⟨e4, _⟩ := inB hE4 4 _ rfl
  obtain ⟨e5, _⟩ := inB hE4 5 _ rfl
  go_upto_region 5 with (go_at_call 10; refine (show Calls Tryz.prog 10 _ _ _ from cn _ (Stp.refl _)).mono ?_; rintro e w5 ⟨B, rfl, hB, R5, hb5⟩)
  have hB5 : B < w5.heap.size := by obtain ⟨_, _, h, _⟩ := R5.cells; exact (Array.getElem?_eq_some_iff.1 h).1
  have hl5 := hl4.stp hb5
  clear cn e0 e1 e2 e3 e4 e5
  have n1 : nxt liveH9 2 false [lv1, lv2, lv3, lv4] vis0 [] = (some ⟨⟨0, 2, true, false, 4⟩, lv1⟩, [lv2, lv3, lv4], lv1, []) := by kernel_rfl
  have n2 : nxt liveH9 2 false [lv2, lv3, lv4] lv1 [] = (some ⟨⟨1, 2, false, false, 1⟩, lv3⟩, [lv4], lv3, [⟨1, 2, false, false, 2⟩]) := by kernel_rfl
  have n3 : nxt liveH9 2 true [lv4] lv3 [⟨1, 2, false, false, 2⟩] = (some ⟨⟨1, 2, false, false, 2⟩, lv3⟩, [lv4], lv3, []) := by kernel_rfl
  have n4 : nxt liveH9 2 true [lv4] lv3 [] = (none, [lv4], lv3, []) := by kernel_rfl
  have hTB : ¬ (fun k => k < w3.heap.size) B := fun h => by have h' : B < w3.heap.size := h; omega
  have c1 := next_c R5 (fun h => h.2 rfl) hl5 hTB (by decide)
  rw [n1] at c1
  dsimp only [Option.getD_some, Option.getD_none, Option.isSome_some, Option.isSome_none, Cal.arr, cal0] at c1
  go_upto_region 8 with (go_at_call 11; refine c1.mono ?_; rintro e w6 ⟨rfl, Rw6, kw6⟩)
  obtain ⟨w7, hw7, sw7, zw7, bw7⟩ := box10 w6 (.int .i64 0) (.int .i64 2) (.bool true) (.bool false) (.int .i64 4) (.int .i64 0) (.int .i64 1) (.int .i64 (-1)) (.int .i64 1) (.bool true)
  rw [hw7]
  clear hw7 c1
  have hz6 := kw6.size
  have K7 : Kpt (fun k => k = B) w5 w7 := kw6.trans (Kpt.of_stp (O := fun k => k = B) sw7) fun x hx => .inl hx
  have R7 := Rw6.stp sw7
  have hl7 := hl5.kpt K7 fun k hk _ e => hTB (e ▸ hk)
  have nS7 : ¬ runS (fun k => w4.heap.size ≤ k ∧ k ≠ B) w5 B := fun h => h.elim (fun h => h.1.2 rfl) (fun h => by omega)
  have c2 := next_c R7 nS7 hl7 hTB (by decide)
  rw [n2] at c2
  dsimp only [Option.getD_some, Option.getD_none, Option.isSome_some, Option.isSome_none, Cal.arr, cal0] at c2
  go_upto_region 9 with (go_at_call 11; refine c2.mono ?_; rintro e w8 ⟨rfl, Rw8, kw8⟩)
  obtain ⟨w9, hw9, sw9, zw9, bw9⟩ := box10 w8 (.int .i64 1) (.int .i64 2) (.bool false) (.bool false) (.int .i64 1) (.int .i64 1) (.int .i64 1) (.int .i64 (-1)) (.int .i64 2) (.bool false)
  rw [hw9]
  clear hw9 c2
  have hz8 := kw8.size
  have K9 : Kpt (fun k => k = B) w7 w9 := kw8.trans (Kpt.of_stp (O := fun k => k = B) sw9) fun x hx => .inl hx
  have R9 := Rw8.stp sw9
  have hl9 := hl7.kpt K9 fun k hk _ e => hTB (e ▸ hk)
  have nS9 : ¬ runS (runS (fun k => w4.heap.size ≤ k ∧ k ≠ B) w5) w7 B := fun h => h.elim (fun h => nS7 h.1) (fun h => by omega)
  have ct := tell_c R9 nS9
  go_upto_region 10 with (go_at_call 12; refine ct.mono ?_; rintro e w10 ⟨⟨ut, rfl⟩, R10, K10⟩)
  have hz10 := K10.size
  have hl10 := hl9.kpt K10 fun k hk _ e => hTB (e ▸ hk)
  clear ct R9 R7 R5 hl4 hl5 hl7 hl9 Rw6 Rw8 kw6 kw8
  have c3 := next_c R10 nS9 hl10 hTB (by decide)
  rw [n3] at c3
  dsimp only [Option.getD_some, Option.getD_none, Option.isSome_some, Option.isSome_none, Cal.arr, cal0] at c3
  go_upto_region 11 with (go_at_call 11; refine c3.mono ?_; rintro e w11 ⟨rfl, Rw11, kw11⟩)
  obtain ⟨w12, hw12, sw12, zw12, bw12⟩ := box10 w11 (.int .i64 1) (.int .i64 2) (.bool false) (.bool false) (.int .i64 2) (.int .i64 1) (.int .i64 1) (.int .i64 (-1)) (.int .i64 2) (.bool false)
  rw [hw12]
  clear hw12 c3
  have hz11 := kw11.size
  have K12 : Kpt (fun k => k = B) w10 w12 := kw11.trans (Kpt.of_stp (O := fun k => k = B) sw12) fun x hx => .inl hx
  have R12 := Rw11.stp sw12
  have hl12 := hl10.kpt K12 fun k hk _ e => hTB (e ▸ hk)
  have nS12 : ¬ runS (runS (runS (fun k => w4.heap.size ≤ k ∧ k ≠ B) w5) w7) w10 B := fun h => h.elim (fun h => nS9 h.1) (fun h => by omega)
  have c4 := next_c R12 nS12 hl12 hTB (by decide)
  rw [n4] at c4
  dsimp only [Option.getD_some, Option.getD_none, Option.isSome_some, Option.isSome_none, Cal.arr, cal0] at c4
  go_upto_region 12 with (go_at_call 11; refine c4.mono ?_; rintro e w13 ⟨rfl, Rw13, kw13⟩)
  obtain ⟨w14, hw14, sw14, zw14, bw14⟩ := box10 w13 (.int .i64 0) (.int .i64 0) (.bool false) (.bool false) (.int .i64 0) (.int .i64 0) (.int .i64 0) (.int .i64 0) (.int .i64 0) (.bool false)
  rw [hw14]
  clear hw14 c4
  have hz13 := kw13.size
  have K14 : Kpt (fun k => k = B) w12 w14 := kw13.trans (Kpt.of_stp (O := fun k => k = B) sw14) fun x hx => .inl hx
  have R14 := Rw13.stp sw14
  have hl14 := hl12.kpt K14 fun k hk _ e => hTB (e ▸ hk)
  have K5 : Kpt (fun k => k = B) w5 w14 := (((K7.trans K9 fun x hx => .inl hx).trans K10 fun x hx => .inl hx).trans K12 fun x hx => .inl hx).trans K14 fun x hx => .inl hx
  have K4 : Kpt (fun k => k = B) w4 w14 := (Kpt.of_stp (O := fun k => k = B) hb5).trans K5 fun x hx => .inl hx
  have hzw := hsw4.size
  have hS14 : Stp w w14 := ((Kpt.of_stp (O := fun _ => False) hsw4).trans K4 fun x hx => .inr (by omega)).stp fun x h => h.elim
  have hr14 := hr4.bound.kpt K4 fun k hk _ e => by have := hk.2; omega
  have hE14 := (K4.block _ hEl (by omega)).trans hE4
  have K7b : Kpt (fun k => k = B) w7 w14 := ((K9.trans K10 fun x hx => .inl hx).trans K12 fun x hx => .inl hx).trans K14 fun x hx => .inl hx
  have b7 := (K7b.block _ (by omega) (by omega)).trans bw7
  have K9b : Kpt (fun k => k = B) w9 w14 := (K10.trans K12 fun x hx => .inl hx).trans K14 fun x hx => .inl hx
  have b9 := (K9b.block _ (by omega) (by omega)).trans bw9
  have b12 := (K14.block _ (by omega) (by omega)).trans bw12
  obtain ⟨e0, _⟩ := inB hE14 0 _ rfl
  obtain ⟨e1, _⟩ := inB hE14 1 _ rfl
  obtain ⟨e2, _⟩ := inB hE14 2 _ rfl
  obtain ⟨e3, _⟩ := inB hE14 3 _ rfl
  obtain ⟨e4, _⟩ := inB hE14 4 _ rfl
  obtain ⟨e5, _⟩ := inB hE14 5 _ rfl
  obtain ⟨p7, _⟩ := inB b7 4 _ rfl
  obtain ⟨p9, _⟩ := inB b9 4 _ rfl
  obtain ⟨q9, _⟩ := inB b9 8 _ rfl
  obtain ⟨p12, _⟩ := inB b12 4 _ rfl
  have ca := all_yes hr14 hks (by decide) hl14 (by decide) 2 (-1) true true false ho
  rw [hvs] at ca
  have hal : (allIn 2 (fuelT liveH9 [lv1, lv2, lv3, lv4]) liveH9 [lv1, lv2, lv3, lv4] vis0 []).length = 4 := by kernel_rfl
  generalize allIn 2 (fuelT liveH9 [lv1, lv2, lv3, lv4]) liveH9 [lv1, lv2, lv3, lv4] vis0 [] = al at ca hal
  have cc := fun W (h : Stp w14 W) => cancelled_c (R14.stp h)
  have hno : ¬ (mayT liveT9 = true ∧ isN liveT9 2 = true) := fun h => by have := h.2; revert this; decide +kernel
  have cm := fun W (h : Stp w14 W) => new_no (hr14.stp h) hks 0 (tg := 2) 0 false false false hno
  clear R10 R12 R14 hl10 hl12 hl14 hr14 hr4 hsw4 K7 K9 K10 K12 K14 K5 K4 K7b K9b b7 b9 b12 bw7 bw9 bw12 bw14 Rw11 Rw13 kw11 kw13 sw7 sw9 sw12 sw14 hE4 hE14 nS7 nS9 nS12 hb5 n1 n2 n3 n4
  go_wp2_with (first | (go_at_call 6; refine (show Calls Tryz.prog 6 _ _ _ from ca).mono ?_; rintro e w15 ⟨u15, rfl, o15, hb15⟩; obtain ⟨A15, c15, rfl, _, _⟩ := o15.reads.form; rw [hal]; replace p7 := hb15.cell p7; replace p9 := hb15.cell p9; replace q9 := hb15.cell q9; replace p12 := hb15.cell p12) | (go_at_call 13; refine (cc _ Lime.stp_).mono ?_; rintro e w16 ⟨rfl, hb16⟩) | (go_at_call 10; refine (show Calls Tryz.prog 10 _ _ _ from cm _ Lime.stp_).mono ?_; rintro e w17 ⟨rfl, hb17⟩))
  go_ret
  exact ⟨rfl, by (exact Lime.stp_)⟩
attribute [local go_sem high] eqCal
end Go.Proofs.Lime
