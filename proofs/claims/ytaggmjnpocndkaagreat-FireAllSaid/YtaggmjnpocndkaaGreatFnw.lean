/- Walks: a new run; what is answered; whether it is cancelled; a run that is none. -/
import Derived.Test.YtaggmjnpocndkaaGreatFin
import Derived.Test.YtaggmjnpocndkaaGreatMU
namespace Go.Proofs.Lime
open Go.RowKit
set_option linter.unusedVariables false
set_option linter.unusedSimpArgs false
attribute [local go_sem] Oper.semAt_some
theorem pnil2 (w : World) (p : Option Addr) : (binOp .neq 52 (.pointer p) (.pointer none)).run Tryz.prog w = .ok (.bool (!p.isNone)) w := run_neq_pointer_nil w _ p (by kernel_rfl)
attribute [local go_sem high] pnil pnil2
def vis0 : Vis := ⟨⟨0, 0, 0⟩, 0, false⟩
theorem cancelled_c {S : Nat → Prop} {B : Nat} {w : World} {et tg re : Int} {bub can comp : Bool} {vs : List Vis} {v : Vis} {tk : List Hear} {sp cd : Bool} (hR : RunAt S B w et tg re bub can comp vs v tk sp cd) :
    Calls Tryz.prog 13 #[.pointer (some ⟨B, 0, none⟩)] w fun e w' => e = .returned (.bool cd) ∧ Stp w w' := by
  obtain ⟨sv, st, hB, _, _⟩ := hR.cells
  obtain ⟨p14, _⟩ := inB hB 14 _ rfl
  clear hB hR
  go_enter Tryz.func13, Tryz.ntmps13
  go_wp2
  go_ret
  exact ⟨rfl, Stp.refl w⟩
theorem cancelled_nil (w : World) : Calls Tryz.prog 13 #[.pointer none] w fun e w' => e = .returned (.bool false) ∧ Stp w w' := by
  go_enter Tryz.func13, Tryz.ntmps13
  go_wp2
  go_ret
  exact ⟨rfl, Stp.refl w⟩
theorem tell_nil (w : World) (a b c : Bool) : Calls Tryz.prog 12 #[.pointer none, .agg #[.bool a, .bool b, .bool c]] w fun e w' => (∃ u, e = .returned u) ∧ Stp w w' := by
  go_enter Tryz.func12, Tryz.ntmps12
  go_wp2
  refine bodyPost_ret (results_none rfl _ _ _) rfl ⟨⟨_, rfl⟩, by (exact Lime.stp_)⟩
set_option maxRecDepth 100000 in
set_option maxHeartbeats 4000000 in
theorem next_nil (w : World) (u : Value) : Calls Tryz.prog 11 #[.pointer none, u] w fun e w' => e = .returned (.tuple #[.agg cal0.arr, .bool false]) ∧ Stp w w' := by
  go_enter Tryz.func11, Tryz.ntmps11
  go_wp2_with fail
  refine scope_front 0 (fun _ _ => False) (fun _ _ => 0) (by rfl) ?pass1 ?first1
  case pass1 => exact fun _ _ h => h.elim
  intro hp
  clear hp
  go_wp2_with fail
  try rw [exit_jump_ret]
  refine bodyPost_ret (results_cell_row_tmp rfl _ _ w.heap.size 41 cal0.arr (0, 0) _ (.bool false) rfl (World.alloc_heap_new w _) Tryz.underlying41 rfl (by kernel_rfl) rfl) rfl ⟨rfl, by (exact Lime.stp_)⟩
theorem tell_c {S : Nat → Prop} {B : Nat} {w : World} {et tg re : Int} {bub comp : Bool} {vs : List Vis} {v : Vis} {tk : List Hear} (hR : RunAt S B w et tg re bub true comp vs v tk false false) (hSB : ¬ S B) :
    Calls Tryz.prog 12 #[.pointer (some ⟨B, 0, none⟩), .agg #[.bool true, .bool false, .bool true]] w fun e w' => (∃ u, e = .returned u) ∧ RunAt S B w' et tg re bub true comp vs v tk true true ∧ Kpt (fun k => k = B) w w' := by
  obtain ⟨sv, st, hB, hv, ht⟩ := hR.cells
  go_enter Tryz.func12, Tryz.ntmps12
  go_upto_region 2 with fail
  obtain ⟨w1, hw1, hs1, hz1, gc⟩ := box_named w #[.bool true, .bool false, .bool true] 58
  have c0 := gc 0 _ rfl
  have c1 := gc 1 _ rfl
  have c2 := gc 2 _ rfl
  rw [hw1]
  clear hw1 gc
  have hB1 := hs1.heap hB
  obtain ⟨p13, f13⟩ := inB hB1 13 _ rfl
  go_upto_region 3 with fail
  obtain ⟨w2, hw2⟩ : ∃ w2, w1.setCell ⟨B, 13, none⟩ (.bool true) = w2 := ⟨_, rfl⟩
  have hB2 : w2.heap[B]? = some (.cells (runA et tg re bub true comp sv v st true false) 70 (0, 0)) := by rw [← hw2]; exact setB hB1 13 _
  have hk2 : Kpt (fun k => k = B) w1 w2 := by rw [← hw2]; exact kpt_store (Kpt.refl _ _) rfl
  rw [hw2]
  have hBl := (Array.getElem?_eq_some_iff.1 hB).1
  replace c1 := hk2.cell (p := ⟨w.heap.size, 1, none⟩) (by show ¬ w.heap.size = B; omega) c1
  replace c2 := hk2.cell (p := ⟨w.heap.size, 2, none⟩) (by show ¬ w.heap.size = B; omega) c2
  clear hw2 p13 f13 hB1 c0
  obtain ⟨p14, f14⟩ := inB hB2 14 _ rfl
  obtain ⟨p4, _⟩ := inB hB2 4 _ rfl
  go_upto_region 4 with fail
  obtain ⟨w3, hw3⟩ : ∃ w3, w2.setCell ⟨B, 14, none⟩ (.bool true) = w3 := ⟨_, rfl⟩
  have hB3 : w3.heap[B]? = some (.cells (runA et tg re bub true comp sv v st true true) 70 (0, 0)) := by rw [← hw3]; exact setB hB2 14 _
  have hk3 : Kpt (fun k => k = B) w2 w3 := by rw [← hw3]; exact kpt_store (Kpt.refl _ _) rfl
  rw [hw3]
  replace c1 := hk3.cell (p := ⟨w.heap.size, 1, none⟩) (by show ¬ w.heap.size = B; omega) c1
  clear hw3 p14 f14 p4 hB2 c2
  have hk : Kpt (fun k => k = B) w w3 := ((Kpt.of_stp (O := fun k => k = B) hs1).trans hk2 fun x hx => .inl hx).trans hk3 fun x hx => .inl hx
  go_wp2
  go_end0
  exact ⟨⟨_, rfl⟩, ⟨⟨_, _, hB3, hv.kpt hk fun x hx _ e => hSB (e ▸ hx), ht.kpt hk fun x hx _ e => hSB (e ▸ hx)⟩⟩, hk⟩
set_option maxRecDepth 100000 in
set_option maxHeartbeats 4000000 in
theorem new_yes {S : Nat → Prop} {w : World} {v : Value} {t : List Nd} (hr : Row nodeK S w v t) (hks : KidsOk t) (hl : t.length ≤ 900) (et : Int) {tg : Int} (re : Int) (bub can comp : Bool) (ho : mayT t = true ∧ isN t tg = true) :
    Calls Tryz.prog 10 #[v, .agg #[.int .i64 et, .int .i64 tg, .int .i64 re, .bool bub, .bool can, .bool comp]] w fun e w' => ∃ B, e = .returned (.pointer (some ⟨B, 0, none⟩)) ∧ w.heap.size ≤ B ∧ RunAt (fun k => w.heap.size ≤ k ∧ k ≠ B) B w' et tg re bub can comp (visL (pathT t comp tg re tg) bub) vis0 [] false false ∧ Stp w w' := by
  obtain ⟨A, c, rfl, hc, hm⟩ := hr.form
  have ck := fun W (h : Stp w W) => check_c (hr.stp h) hks
  have M := May.of ho.1
  rw [if_pos ho.1] at ck
  obtain ⟨h0, h1⟩ := isN_iff.1 ho.2
  have h0' : ¬ tg < 0 := by omega
  have h1' : ¬ (t.length : Int) ≤ tg := by omega
  have cv := fun W (h : Stp w W) => visits_w (bub := bub) (fun W2 h2 => (aimpath_r (hr.stp (h.trans h2)) hks et tg re bub can comp).mono fun e w' ⟨u, h1, h2, h3⟩ => ⟨u, h1, h2.reads, h3⟩) (show (pathR t comp tg re).length ≤ 1000 by rw [show pathR t comp tg re = pathT t comp tg re tg from if_pos ho]; have := M.path_len comp tg re tg (.inr ho.2); omega)
  rw [show pathR t comp tg re = pathT t comp tg re tg from if_pos ho] at cv
  generalize visL (pathT t comp tg re tg) bub = vs at cv ⊢
  clear M ho
  have e0 := box_at w #[.int .i64 et, .int .i64 tg, .int .i64 re, .bool bub, .bool can, .bool comp] 25 0 _ rfl
  have e1 := box_at w #[.int .i64 et, .int .i64 tg, .int .i64 re, .bool bub, .bool can, .bool comp] 25 1 _ rfl
  have e2 := box_at w #[.int .i64 et, .int .i64 tg, .int .i64 re, .bool bub, .bool can, .bool comp] 25 2 _ rfl
  have e3 := box_at w #[.int .i64 et, .int .i64 tg, .int .i64 re, .bool bub, .bool can, .bool comp] 25 3 _ rfl
  have e4 := box_at w #[.int .i64 et, .int .i64 tg, .int .i64 re, .bool bub, .bool can, .bool comp] 25 4 _ rfl
  have e5 := box_at w #[.int .i64 et, .int .i64 tg, .int .i64 re, .bool bub, .bool can, .bool comp] 25 5 _ rfl
  go_enter Tryz.func10, Tryz.ntmps10
  go_upto_region 3 with (go_at_call 18; refine (ck _ Lime.stp_).mono ?_; rintro e w1 ⟨rfl, hb1⟩; replace e0 := hb1.cell e0; replace e1 := hb1.cell e1; replace e2 := hb1.cell e2; replace e3 := hb1.cell e3; replace e4 := hb1.cell e4; replace e5 := hb1.cell e5)
  have hs1 : Stp w w1 := Stp.trans Lime.stp_ hb1
  clear ck hb1
  refine wp_region_noPanic ?_
  refine Go.Proofs.YtaggmjnpocndkaaGreatW.PrintLast.start_ (n := 7) (S := fun W_ => Stp w1 W_) (ds := []) #[false, false, false, false, false, false, false] (by kernel_rfl) rfl (by kernel_rfl) (Stp.refl _).drew (fun hS => ?_)
  refine Go.Proofs.YtaggmjnpocndkaaGreatW.PrintLast.pure_ (i := 1) (v := ?_) (a' := ?_) #[false, true, false, false, false, false, false] Lime.getop_ rfl (by kernel_rfl) (fun _ _ _ h => h) (Or.inl ⟨by rfl, ?_⟩) ?_ ?_
  rotate_left
  focus (intro w_; (exact Lime.calm_))
  rotate_left
  focus (simp only [Act.put, List.setIfInBounds_toArray, List.set_cons_zero, List.set_cons_succ]; first | done | rfl)
  refine Go.Proofs.YtaggmjnpocndkaaGreatW.PrintLast.take_ (i := 0) (v := ?_) (a' := ?_) #[true, true, false, false, false, false, false] Lime.getop_ rfl (by kernel_rfl) (fun _ _ _ h => h) (Or.inl ⟨by rfl, ?_⟩) hS ?_ ?_
  rotate_left
  focus (intro w_ hw_; have q0_ := hw_.cell e0; have q1_ := hw_.cell e1; have q2_ := hw_.cell e2; have q3_ := hw_.cell e3; have q4_ := hw_.cell e4; have q5_ := hw_.cell e5; (exact Lime.calm_))
  rotate_left
  focus (simp only [Act.put, List.setIfInBounds_toArray, List.set_cons_zero, List.set_cons_succ]; first | done | rfl)
  refine Go.Proofs.YtaggmjnpocndkaaGreatW.PrintLast.take_ (i := 2) (v := ?_) (a' := ?_) #[true, true, true, false, false, false, false] Lime.getop_ rfl (by kernel_rfl) (fun _ _ _ h => h) (Or.inl ⟨by rfl, ?_⟩) hS ?_ ?_
  rotate_left
  focus (intro w_ hw_; have q0_ := hw_.cell e0; have q1_ := hw_.cell e1; have q2_ := hw_.cell e2; have q3_ := hw_.cell e3; have q4_ := hw_.cell e4; have q5_ := hw_.cell e5; (exact Lime.calm_))
  rotate_left
  focus (simp only [Act.put, List.setIfInBounds_toArray, List.set_cons_zero, List.set_cons_succ]; first | done | rfl)
  refine Go.Proofs.YtaggmjnpocndkaaGreatW.PrintLast.one_ (i := 3) #[true, true, true, true, false, false, false] Lime.getop_ rfl (by kernel_rfl) (by decide) (fun K hK => ?_)
  rw [if_pos (by rfl)]; go_simp; refine (show Calls Tryz.prog 19 _ _ _ from cv _ (hs1.trans Lime.stp_)).mono ?_; rintro e w2 ⟨u2, rfl, o2, hb2⟩; obtain ⟨A2, c2, rfl, _, _⟩ := o2.reads.form
  refine hK.out _ _ Lime.stp_ (fun hst => ?_); replace hS := hst
  clear hK K
  (try simp only [Act.put, List.setIfInBounds_toArray, List.set_cons_zero, List.set_cons_succ])
  refine Go.Proofs.YtaggmjnpocndkaaGreatW.PrintLast.pure_ (i := 4) (v := ?_) (a' := ?_) #[true, true, true, true, true, false, false] Lime.getop_ rfl (by kernel_rfl) (fun _ _ _ h => h) (Or.inl ⟨by rfl, ?_⟩) ?_ ?_
  rotate_left
  focus (intro w_; (exact Lime.calm_))
  rotate_left
  focus (simp only [Act.put, List.setIfInBounds_toArray, List.set_cons_zero, List.set_cons_succ]; first | done | rfl)
  refine Go.Proofs.YtaggmjnpocndkaaGreatW.PrintLast.one_ (i := 5) #[true, true, true, true, true, true, false] Lime.getop_ rfl (by kernel_rfl) (by decide) (fun K hK => ?_)
  rw [if_pos (by rfl)]; go_simp
  refine hK.out _ _ Lime.stp_ (fun hst => ?_); replace hS := hst
  clear hK K
  (try simp only [Act.put, List.setIfInBounds_toArray, List.set_cons_zero, List.set_cons_succ])
  refine Go.Proofs.YtaggmjnpocndkaaGreatW.PrintLast.pure_ (i := 6) (v := ?_) (a' := ?_) #[true, true, true, true, true, true, true] Lime.getop_ rfl (by kernel_rfl) (fun _ _ _ h => h) (Or.inl ⟨by rfl, ?_⟩) ?_ ?_
  rotate_left
  focus (intro w_; (exact Lime.calm_))
  rotate_left
  focus (simp only [Act.put, List.setIfInBounds_toArray, List.set_cons_zero, List.set_cons_succ]; first | done | rfl)
  refine Go.Proofs.YtaggmjnpocndkaaGreatW.PrintLast.done_ (by kernel_rfl) (noPanic_n ?_)
  have hz1 := hs1.size
  have hs2 := hS
  go_wp2_with fail
  go_ret
  have hz2 : w1.heap.size ≤ w2.heap.size := hb2.size
  exact ⟨w2.heap.size, rfl, by omega, ⟨⟨_, _, World.alloc_heap_new w2 _, (o2.reads.bound.mono fun k hk => ⟨Nat.le_trans hz1 hk.1, by have := hk.2; omega⟩).stp ((Stp.refl w2).alloc _), Row.nil _ _ _⟩⟩, hs1.trans hS⟩
theorem new_no {S : Nat → Prop} {w : World} {v : Value} {t : List Nd} (hr : Row nodeK S w v t) (hks : KidsOk t) (et : Int) {tg : Int} (re : Int) (bub can comp : Bool) (ho : ¬ (mayT t = true ∧ isN t tg = true)) :
    Calls Tryz.prog 10 #[v, .agg #[.int .i64 et, .int .i64 tg, .int .i64 re, .bool bub, .bool can, .bool comp]] w fun e w' => e = .returned (.pointer none) ∧ Stp w w' := by
  obtain ⟨A, c, rfl, hc, hm⟩ := hr.form
  have ck := fun W (h : Stp w W) => check_c (hr.stp h) hks
  by_cases hmy : mayT t = true
  · rw [if_pos hmy] at ck
    have hnr : tg < 0 ∨ (0 ≤ tg ∧ (t.length : Int) ≤ tg) := by
      have h1 : ¬ isN t tg = true := fun h => ho ⟨hmy, h⟩
      rw [isN_iff] at h1
      omega
    clear ho
    have e1 := box_at w #[.int .i64 et, .int .i64 tg, .int .i64 re, .bool bub, .bool can, .bool comp] 25 1 _ rfl
    rcases hnr with h | ⟨h, h2⟩
    · go_enter Tryz.func10, Tryz.ntmps10
      go_wp2_with (go_at_call 18; refine (ck _ Lime.stp_).mono ?_; rintro e w1 ⟨rfl, hb1⟩; replace e1 := hb1.cell e1)
      go_ret
      exact ⟨rfl, by (exact Lime.stp_)⟩
    · have h0' : ¬ tg < 0 := by omega
      go_enter Tryz.func10, Tryz.ntmps10
      go_wp2_with (go_at_call 18; refine (ck _ Lime.stp_).mono ?_; rintro e w1 ⟨rfl, hb1⟩; replace e1 := hb1.cell e1)
      go_ret
      exact ⟨rfl, by (exact Lime.stp_)⟩
  · rw [if_neg hmy] at ck
    go_enter Tryz.func10, Tryz.ntmps10
    go_wp2_with (go_at_call 18; refine (ck _ Lime.stp_).mono ?_; rintro e w1 ⟨rfl, hb1⟩)
    go_ret
    exact ⟨rfl, by (exact Lime.stp_)⟩
end Go.Proofs.Lime
