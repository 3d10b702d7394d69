/- Walk: the law WatchCloses. -/
import Derived.Test.YtpklhnggbhkmiaaWk
import Derived.Deep.Cut
namespace Go.Proofs.Lime
open Go.RowKit
set_option linter.unusedVariables false
set_option linter.unusedSimpArgs false
attribute [local go_sem] Oper.semAt_some
set_option maxRecDepth 100000 in
set_option maxHeartbeats 4000000 in
theorem closes_w {S : Nat → Prop} {W : World} {v : Value} {G : List (List Int)} (hr : Row intsK S W v G) (a : Int) (x : Bool) : Calls Try.prog 6 #[.agg #[v, .int .i64 a, .bool x]] W fun e w' => e = .returned (.bool true) ∧ Stp W w' := by
  obtain ⟨A, c, rfl, hc, hm⟩ := hr.form
  have e0 : (W.alloc (.cells #[.slice A G.length c, .int .i64 a, .bool x] 33)).cell? ⟨W.heap.size, 0, none⟩ = some (.slice A G.length c) := box_at W _ _ 0 _ rfl
  have e1 : (W.alloc (.cells #[.slice A G.length c, .int .i64 a, .bool x] 33)).cell? ⟨W.heap.size, 1, none⟩ = some (.int .i64 a) := box_at W _ _ 1 _ rfl
  have e2 : (W.alloc (.cells #[.slice A G.length c, .int .i64 a, .bool x] 33)).cell? ⟨W.heap.size, 2, none⟩ = some (.bool x) := box_at W _ _ 2 _ rfl
  have cs := fun W' (h : Stp W W') => small_k (hr.stp h) a x
  cases hs : Go.Proofs.Ytpklhnggbhkmiaa.P.sm G with
  | false =>
    rw [hs] at cs
    go_enter Try.func6, Try.ntmps6
    go_wp2_with (first | (go_at_call 13; refine (cs _ Lime.stp_).mono ?_; rintro e w1 ⟨rfl, hb1⟩) | (go_at_call 8; refine (live_k _).mono ?_; rintro e w2 ⟨rfl, hb2⟩))
    go_ret
    exact ⟨rfl, by (exact Lime.stp_)⟩
  | true =>
    rw [hs] at cs
    have hb := Go.Proofs.Ytpklhnggbhkmiaa.P.sm_iff.1 hs
    have hok := hb.ok (by omega)
    have hgl := hb.1
    have hgi := Lib.hid hb.2
    have cc := fun W' (h : Stp W W') => close_k (hr.stp h) hok a x
    have cl := Lib.hid (show closeL G = (G.getD (G.length - 1) []).reverse from rfl)
    generalize hcl : closeL G = cL at cc cl
    have csame : ∀ (A3 : Option Addr) (c3 : Nat) {w3 : World}, Row intsK (fun _ => True) w3 (.slice A3 G.length c3) G → ∀ W4 : World, Stp w3 W4 → Stp W W4 → Calls Try.prog 16 #[.agg #[.slice A3 G.length c3, .int .i64 a, .bool x], .agg #[.slice A G.length c, .int .i64 a, .bool x]] W4 fun e w' => e = .returned (.bool true) ∧ Stp W4 w' := fun A3 c3 w3 r3 W4 h1 h2 => by
      have := same_k (r3.stp h1) (hr.stp h2) (by omega) (fun g hg => by have := hgi.out g hg; omega) a a x x
      rw [show decide (G = G ∧ a = a ∧ x = x) = true by simp] at this
      exact this
    clear hcl hb hs hok
    go_enter Try.func6, Try.ntmps6
    go_upto_region 5 with (first | (go_at_call 13; refine (cs _ Lime.stp_).mono ?_; rintro e w1 ⟨rfl, hb1⟩; replace e0 := hb1.cell e0; replace e1 := hb1.cell e1; replace e2 := hb1.cell e2) | (go_at_call 15; refine (own_k _ _ _ _ _ _).mono ?_; rintro e w2 ⟨rfl, hb2⟩; replace e0 := hb2.cell e0; replace e1 := hb2.cell e1; replace e2 := hb2.cell e2) | (go_at_call 12; refine (cc _ Lime.stp_).mono ?_; rintro e w3 ⟨A3, c3, u, rfl, r3, ru, hb3⟩; replace e0 := hb3.cell e0; replace e1 := hb3.cell e1; replace e2 := hb3.cell e2; replace r3 := r3.mono (S' := fun _ => True) (fun _ _ => trivial); obtain ⟨Au, cu, rfl, _, _⟩ := ru.form) | (go_at_call 17; refine (told_k _ _ _ _ _ _).mono ?_; rintro e w4 ⟨rfl, hb4⟩; have hs4 : Stp w3 w4 := Stp.trans ((Stp.refl w3).alloc _) hb4; replace e0 := hs4.cell e0; replace e1 := hs4.cell e1; replace e2 := hs4.cell e2; have hlt4 : W.heap.size < w4.heap.size := World.block_lt_of_cell? w4 ⟨W.heap.size, 0, none⟩ e0; have csm := fun W4 => csame _ _ r3 W4; have hsw : Stp W w4 := Stp.trans Lime.stp_ hb4))
    obtain ⟨w5, hw5⟩ : ∃ w5, w4.alloc (.cells #[.slice A3 G.length c3, .int .i64 (closeA a), .bool x] 33) = w5 := ⟨_, rfl⟩
    have hs5 : Stp w4 w5 := by rw [← hw5]; exact (Stp.refl w4).alloc _
    have hy : w5.heap[w4.heap.size]? = some (.cells #[.slice A3 G.length c3, .int .i64 (closeA a), .bool x] 33 (0, 0)) := by rw [← hw5]; exact World.alloc_heap_new w4 _
    rw [hw5]
    clear hw5
    replace e0 := hs5.cell e0
    replace e1 := hs5.cell e1
    replace e2 := hs5.cell e2
    obtain ⟨y1, f1⟩ := in_block hy 1 _ rfl
    go_upto_region 6 with fail
    obtain ⟨w6, hw6⟩ : ∃ w6, w5.setCell ⟨w4.heap.size, 1, none⟩ (.int .i64 a) = w6 := ⟨_, rfl⟩
    have hy6 : w6.heap[w4.heap.size]? = some (.cells #[.slice A3 G.length c3, .int .i64 a, .bool x] 33 (0, 0)) := by rw [← hw6]; exact set_block hy 1 _
    have hs6 : Stp w4 w6 := by rw [← hw6]; exact hs5.setCell (Nat.le_refl _) _
    have hk6 : Kpt (fun k => k = w4.heap.size) w5 w6 := by rw [← hw6]; exact kpt_store (Kpt.refl _ _) rfl
    replace e0 := hk6.cell (p := ⟨W.heap.size, 0, none⟩) (by show ¬ W.heap.size = w4.heap.size; omega) e0
    replace e1 := hk6.cell (p := ⟨W.heap.size, 1, none⟩) (by show ¬ W.heap.size = w4.heap.size; omega) e1
    replace e2 := hk6.cell (p := ⟨W.heap.size, 2, none⟩) (by show ¬ W.heap.size = w4.heap.size; omega) e2
    rw [hw6]
    clear hw6 y1 f1 hk6
    obtain ⟨y0, _⟩ := in_block hy6 0 _ rfl
    obtain ⟨y1, _⟩ := in_block hy6 1 _ rfl
    obtain ⟨y2, _⟩ := in_block hy6 2 _ rfl
    have hs36 := hs4.trans hs6
    have hsw6 := hsw.trans hs6
    go_upto_region 8 with (go_at_call 16; refine (csm _ (hs36.trans Lime.stp_) (hsw6.trans Lime.stp_)).mono ?_; rintro e w7 ⟨rfl, hb7⟩; replace e0 := hb7.cell e0)
    have hsw7 := hsw6.trans hb7
    have ru7 := ru.stp (hs36.trans hb7)
    clear y0 y1 y2 e1 e2 csm csame cs
    by_cases h0 : G.length = 0
    · have hc0 : cL = [] := by rw [cl.out, List.eq_nil_of_length_eq_zero h0]; rfl
      subst hc0
      have h0z : ((G.length : Int) == 0) = true := by simp [h0]
      go_wp2_with (go_at_call 8; refine (live_k _).mono ?_; rintro e w9 ⟨rfl, hb9⟩)
      go_ret
      exact ⟨rfl, by (exact Lime.stp_)⟩
    · have h0z : ((G.length : Int) == 0) = false := by simpa using h0
      obtain ⟨j, hj⟩ : ∃ j : Nat, (G.length : Int) - 1 = (j : Int) := ⟨G.length - 1, by omega⟩
      have hjL : G.length - 1 = j := by omega
      have hjl : j < G.length := by omega
      have hjz : (j : Int) < (G.length : Int) := by omega
      obtain ⟨b, o, A', c', rfl, _, _, z0, hri⟩ := ints_at2 (hr.stp hsw7) j hjl
      have hgj := hgi.out _ (List.getElem_mem hjl)
      have hcj : cL = G[j].reverse := by
        rw [cl.out, hjL, List.getD_eq_getElem?_getD, List.getElem?_eq_getElem hjl]; rfl
      generalize G[j] = g at z0 hri hgj hcj
      have hcl : cL.length = g.length := by rw [hcj, List.length_reverse]
      have hclz : ((cL.length : Int) == (g.length : Int)) = true := by simp [hcl]
      have HC := Lib.hid hcj
      clear hcj hjL
      go_wp2_with fail
      go_loopw [7] (fun s7 W' => ∃ i : Nat, s7 = .int .i64 i ∧ i ≤ g.length ∧ Aside (Stp w7 W')) (fun s7 _ => g.length - (intOf s7).toNat)
      case atStart => exact ⟨0, rfl, Nat.zero_le _, Stp.refl _⟩
      case round =>
        obtain ⟨i, rfl, hi, HA⟩ := hrel
        have hst := HA.out
        clear HA
        by_cases hlt : i < g.length
        · have hltz : (i : Int) < (g.length : Int) := by omega
          obtain ⟨m, hm'⟩ : ∃ m : Nat, g.length - 1 - i = m := ⟨_, rfl⟩
          have hmz : (g.length : Int) - 1 - (i : Int) = (m : Int) := by omega
          have hml : m < g.length := by omega
          have hmlz : (m : Int) < (g.length : Int) := by omega
          have hicl : i < cL.length := by omega
          have hicz : (i : Int) < (cL.length : Int) := by omega
          have heq : cL[i] = g[m] := by
            simp only [HC.out, List.getElem_reverse, hm']
          obtain ⟨b1, o1, rfl, _, _, q0⟩ := int_at (ru7.stp hst) i hicl
          obtain ⟨b2, o2, rfl, _, _, q1⟩ := int_at (hri.stp hst) m hml
          rw [heq] at q0
          generalize g[m] = z at q0 q1 heq
          clear heq
          go_wp2_with fail
          refine wp_region_plan (Plan.calm 0 (Plan.calm 1 (Plan.calm 2 (Plan.calm 3 (Plan.calm 4 (Plan.calm 5 (Plan.calm 6 (Plan.calm 7 (Plan.calm 8 (Plan.calm 9 (Plan.calm 10 (Plan.calm 11 (Plan.calm 12 Plan.done))))))))))))) (by kernel_rfl) (by kernel_rfl) (by kernel_rfl) ?_
          have hS : Stp wr wr.drew := (Stp.refl _).drew
          iterate 3 ((first | (refine plan_calm (v := ?_) Lime.getop_ (by rfl) (fun W hW => ?_) ?_; rotate_left; (focus (exact Lime.calm_))) | (refine plan_calm_skip Lime.getop_ (by rfl) ?_)); (try simp only [Act.put, List.setIfInBounds_toArray, List.set_cons_zero, List.set_cons_succ]))
          (first | (refine plan_calm (v := ?_) Lime.getop_ (by rfl) (fun W hW => ?_) ?_; rotate_left; (focus (have q0_ := (hS.trans hW).cell q0; have q1_ := (hS.trans hW).cell q1; clear hW; (exact Lime.calm_)))) | (refine plan_calm_skip Lime.getop_ (by rfl) ?_)); (try simp only [Act.put, List.setIfInBounds_toArray, List.set_cons_zero, List.set_cons_succ])
          iterate 7 ((first | (refine plan_calm (v := ?_) Lime.getop_ (by rfl) (fun W hW => ?_) ?_; rotate_left; (focus (exact Lime.calm_))) | (refine plan_calm_skip Lime.getop_ (by rfl) ?_)); (try simp only [Act.put, List.setIfInBounds_toArray, List.set_cons_zero, List.set_cons_succ]))
          (first | (refine plan_calm (v := ?_) Lime.getop_ (by rfl) (fun W hW => ?_) ?_; rotate_left; (focus (have q0_ := (hS.trans hW).cell q0; have q1_ := (hS.trans hW).cell q1; clear hW; (exact Lime.calm_)))) | (refine plan_calm_skip Lime.getop_ (by rfl) ?_)); (try simp only [Act.put, List.setIfInBounds_toArray, List.set_cons_zero, List.set_cons_succ])
          (first | (refine plan_calm (v := ?_) Lime.getop_ (by rfl) (fun W hW => ?_) ?_; rotate_left; (focus (exact Lime.calm_))) | (refine plan_calm_skip Lime.getop_ (by rfl) ?_)); (try simp only [Act.put, List.setIfInBounds_toArray, List.set_cons_zero, List.set_cons_succ])
          refine plan_done ?_
          go_wp2_with fail
          go_roundw
          case rel => exact ⟨i + 1, by go_num, hlt, hst.trans Lime.stp_⟩
          case measure => simp [intOf]; omega
        · have hltz : ¬ (i : Int) < (g.length : Int) := by omega
          go_wp2_with (go_at_call 8; refine (live_k _).mono ?_; rintro e w9 ⟨rfl, hb9⟩)
          go_ret
          have hsr := hsw7.trans hst
          exact ⟨rfl, by (exact Lime.stp_)⟩
end Go.Proofs.Lime
