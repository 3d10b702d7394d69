/- Walk: the law AimRound. -/
import Derived.Test.YtbdokcdnajdmaaaE05
import Derived.Test.YtbdokcdnajdmaaaMU
import Derived.Test.YtbdokcdnajdmaaaPx1
import Derived.Test.YtbdokcdnajdmaaaPx2
namespace Go.Proofs.Lime
open Go.RowKit
set_option linter.unusedVariables false
set_option linter.unusedSimpArgs false
attribute [local go_sem] Oper.semAt_some

theorem few_c {S : Nat → Prop} {W : World} {A : Option Addr} {c : Nat} {t : List Nd} (hr : Row nodeK S W (.slice A t.length c) t) : Calls Try.prog 8 #[.slice A t.length c] W fun e w' => e = .returned (.bool (smallT t && decide ((t.length : Int) ≤ 30))) ∧ Stp W w' := by
  have hC := Go.Proofs.Ytbdokcdnajdmaaa.P.C_tree hr
  have := Go.Proofs.Ytbdokcdnajdmaaa.P.limelightref01_Few.calls A c (Go.Proofs.Ytbdokcdnajdmaaa.P.rt t) _ W (by rw [Go.Proofs.Ytbdokcdnajdmaaa.P.rt_length]; exact hC.1) (by rw [Go.Proofs.Ytbdokcdnajdmaaa.P.rt_length]; exact hC.2.1) (Go.Proofs.Ytbdokcdnajdmaaa.P.few_f (Go.Proofs.Ytbdokcdnajdmaaa.P.rt t))
  rw [Go.Proofs.Ytbdokcdnajdmaaa.P.rt_length, Go.Proofs.Ytbdokcdnajdmaaa.P.tr_rt] at this
  exact this.mono fun e w' ⟨h, hb⟩ => ⟨h, ⟨hb⟩⟩
theorem eqV (d : Nat) (w : World) (x0 y0 : Int) (x1 y1 : Int) (x2 y2 : Int) (x3 y3 : Int) (x4 y4 : Bool) :
    (Op.equalIn (d + 3) 44 (.agg #[.int .i64 x0, .int .i64 x1, .int .i64 x2, .int .i64 x3, .bool x4]) (.agg #[.int .i64 y0, .int .i64 y1, .int .i64 y2, .int .i64 y3, .bool y4])).run Try.prog w = .ok ((x0 == y0 && (x1 == y1 && (x2 == y2))) && (x3 == y3 && (x4 == y4))) w := by
  refine Go.Proofs.YtbdokcdnajdmaaaW.PrintWords.eqA_of Try.underlying44 (by kernel_rfl) ?_
  refine Go.Proofs.YtbdokcdnajdmaaaW.PrintWords.eqf_cons (by rfl) (by go_simp) (by go_simp) (Go.Proofs.Ytbdokcdnajdmaaa.P.eqA36 (d + 0) w _ _ _ _ _ _) ?_
  refine Go.Proofs.YtbdokcdnajdmaaaW.PrintWords.eqf_cons (by rfl) (by go_simp; rfl) (by go_simp; rfl) (by go_simp) ?_
  exact Go.Proofs.YtbdokcdnajdmaaaW.PrintWords.eqf_last (by rfl) (by go_simp; rfl) (by go_simp; rfl) (by go_simp)
attribute [local go_sem high] Go.Proofs.Ytbdokcdnajdmaaa.P.eqA36 eqV
theorem visL_len (p : List Stp3) : (visL p true).length = 2 * p.length := by
  have hfe : ((p.map (visOf · 3)).filter (fun x => true || x.phase == 2)) = p.map (visOf · 3) := List.filter_eq_self.2 fun x _ => rfl
  simp only [visL, hfe, List.length_append, List.length_map, List.length_reverse]; omega
theorem visL_ge (p : List Stp3) (b : Bool) : p.length ≤ (visL p b).length := by simp [visL]
theorem visL_lo (p : List Stp3) (b : Bool) {i : Nat} (hi : i < p.length) (h : i < (visL p b).length) : (visL p b)[i] = visOf (p[p.length - 1 - i]'(by omega)) 1 := by
  simp only [visL]
  rw [List.getElem_append_left (by simpa using hi), List.getElem_map, List.getElem_reverse]
theorem visL_hi (p : List Stp3) {i : Nat} (hi : i < p.length) (h : p.length + i < (visL p true).length) : (visL p true)[p.length + i] = visOf p[i] 3 := by
  have hfe : ((p.map (visOf · 3)).filter (fun x => true || x.phase == 2)) = p.map (visOf · 3) := List.filter_eq_self.2 fun x _ => rfl
  simp only [visL, hfe]
  rw [List.getElem_append_right (by simp)]
  simp
theorem visL_tail (p : List Stp3) {i : Nat} (hi : p.length ≤ i) (h : i < (visL p false).length) : (visL p false)[i].phase = 2 ∧ (visL p false)[i].cap = false := by
  have hm : (visL p false)[i] ∈ ((p.map (visOf · 3)).filter (fun x => false || x.phase == 2)) := by
    simp only [visL]
    rw [List.getElem_append_right (by simpa using hi)]
    exact List.getElem_mem _
  obtain ⟨h1, h2⟩ := List.mem_filter.1 hm
  obtain ⟨s, _, hs⟩ := List.mem_map.1 h1
  refine ⟨by simpa using h2, ?_⟩
  rw [← hs]; rfl
theorem vis_at5 {S : Nat → Prop} {w : World} {A : Option Addr} {n c : Nat} {xs : List Vis} (h : Row visK S w (.slice A n c) xs) (k : Nat) (hk : k < xs.length) :
    ∃ b o, A = some ⟨b, o, none⟩ ∧ w.cell? ⟨b, o + k * 5, none⟩ = some (.int .i64 xs[k].stop.node) ∧ w.cell? ⟨b, o + k * 5 + 1, none⟩ = some (.int .i64 xs[k].stop.target) ∧ w.cell? ⟨b, o + k * 5 + 2, none⟩ = some (.int .i64 xs[k].stop.related) ∧ w.cell? ⟨b, o + k * 5 + 3, none⟩ = some (.int .i64 xs[k].phase) ∧ w.cell? ⟨b, o + k * 5 + 4, none⟩ = some (.bool xs[k].cap) := by
  obtain ⟨b, o, c', cs, e, hS, hb, hK, hc⟩ := h.get k hk
  injection e with e1 e2 e3
  have hK' : cs = Vis.cells xs[k] := hK
  subst hK'
  exact ⟨b, o, e1, hc 0 _ rfl, hc 1 _ rfl, hc 2 _ rfl, hc 3 _ rfl, hc 4 _ rfl⟩
set_option maxRecDepth 100000 in
set_option maxHeartbeats 4000000 in
theorem aimround_w {S : Nat → Prop} {W : World} {v : Value} {t : List Nd} (hr : Row nodeK S W v t) (et tg re : Int) (bub can comp : Bool) : Calls Try.prog 6 #[v, .agg #[.int .i64 et, .int .i64 tg, .int .i64 re, .bool bub, .bool can, .bool comp]] W fun e w' => e = .returned (.bool true) ∧ Stp W w' := by
  obtain ⟨A, c, rfl, _⟩ := hr.form
  have cf := fun W' (h : Stp W W') => few_c (hr.stp h)
  have e0 : (W.alloc (.cells #[.int .i64 et, .int .i64 tg, .int .i64 re, .bool bub, .bool can, .bool comp] 25)).cell? ⟨W.heap.size, 0, none⟩ = some (.int .i64 et) := box_at W _ _ 0 _ rfl
  have e1 : (W.alloc (.cells #[.int .i64 et, .int .i64 tg, .int .i64 re, .bool bub, .bool can, .bool comp] 25)).cell? ⟨W.heap.size, 1, none⟩ = some (.int .i64 tg) := box_at W _ _ 1 _ rfl
  have e2 : (W.alloc (.cells #[.int .i64 et, .int .i64 tg, .int .i64 re, .bool bub, .bool can, .bool comp] 25)).cell? ⟨W.heap.size, 2, none⟩ = some (.int .i64 re) := box_at W _ _ 2 _ rfl
  have e3 : (W.alloc (.cells #[.int .i64 et, .int .i64 tg, .int .i64 re, .bool bub, .bool can, .bool comp] 25)).cell? ⟨W.heap.size, 3, none⟩ = some (.bool bub) := box_at W _ _ 3 _ rfl
  have e4 : (W.alloc (.cells #[.int .i64 et, .int .i64 tg, .int .i64 re, .bool bub, .bool can, .bool comp] 25)).cell? ⟨W.heap.size, 4, none⟩ = some (.bool can) := box_at W _ _ 4 _ rfl
  have e5 : (W.alloc (.cells #[.int .i64 et, .int .i64 tg, .int .i64 re, .bool bub, .bool can, .bool comp] 25)).cell? ⟨W.heap.size, 5, none⟩ = some (.bool comp) := box_at W _ _ 5 _ rfl
  cases hf : (smallT t && decide ((t.length : Int) ≤ 30)) with
  | false =>
    rw [hf] at cf
    clear e0 e1 e2 e3 e4 e5
    go_enter Try.func6, Try.ntmps6
    go_wp2_with (first | (go_at_call 8; refine (cf _ Lime.stp_).mono ?_; rintro e w1 ⟨rfl, hb1⟩) | (go_at_call 9; refine (live_c _).mono ?_; rintro e w2 ⟨rfl, hb2⟩))
    go_ret
    exact ⟨rfl, by (exact Lime.stp_)⟩
  | true =>
    rw [hf] at cf
    have hs : smallT t = true := by rw [Bool.and_eq_true] at hf; exact hf.1
    have hks := Go.Proofs.Ytbdokcdnajdmaaa.P.kidsOk_small hs
    have hp : (pathR t comp tg re).length ≤ 70 := by rw [← Go.Proofs.Ytbdokcdnajdmaaa.P.tr_rt t]; exact Go.Proofs.Ytbdokcdnajdmaaa.P.pathR_len comp tg re
    have cp : ∀ W', Stp W W' → Calls Try.prog 10 #[.slice A t.length c, .agg #[.int .i64 et, .int .i64 tg, .int .i64 re, .bool true, .bool can, .bool comp]] W' fun e w' => ∃ u, e = .returned u ∧ Row stpK (fun b => W'.heap.size ≤ b) w' u (pathR t comp tg re) ∧ Stp W' w' :=
      fun W' h => (aimpath_r (hr.stp h) hks et tg re true can comp).mono fun e w' ⟨u, h1, h2, h3⟩ => ⟨u, h1, h2.reads, h3⟩
    have cv : ∀ (b : Bool) W', Stp W W' → Calls Try.prog 16 #[.slice A t.length c, .agg #[.int .i64 et, .int .i64 tg, .int .i64 re, .bool b, .bool can, .bool comp]] W' fun e w' => ∃ u, e = .returned u ∧ Row visK (fun b => W'.heap.size ≤ b) w' u (visL (pathR t comp tg re) b) ∧ Stp W' w' :=
      fun b W' h => (visits_w (p := pathR t comp tg re) (fun W'' h' => (aimpath_r (hr.stp (h.trans h')) hks et tg re b can comp).mono fun e w' ⟨u, h1, h2, h3⟩ => ⟨u, h1, h2.reads, h3⟩) (by omega)).mono fun e w' ⟨u, h1, h2, h3⟩ => ⟨u, h1, h2.reads, h3⟩
    generalize pathR t comp tg re = p at cp cv hp
    have cvt := cv true
    have cvf := cv false
    have hV1 := visL_len p
    have hV2 := visL_ge p false
    have hV3 : (visL p false).length ≤ 2 * p.length := by
      have := List.length_filter_le (fun x => false || x.phase == 2) (p.map (visOf · 3))
      rw [List.length_map] at this
      simp only [visL, List.length_append, List.length_map, List.length_reverse]
      omega
    have hlo : ∀ i (hi : i < p.length) (h : i < (visL p true).length), (visL p true)[i] = visOf (p[p.length - 1 - i]'(by omega)) 1 := fun i hi h => visL_lo p true hi h
    have hlw : ∀ i (hi : i < p.length) (h : i < (visL p false).length), (visL p false)[i] = visOf (p[p.length - 1 - i]'(by omega)) 1 := fun i hi h => visL_lo p false hi h
    have hhi : ∀ i (hi : i < p.length) (h : p.length + i < (visL p true).length), (visL p true)[p.length + i] = visOf p[i] 3 := fun i hi h => visL_hi p hi h
    have hta : ∀ i (hi : p.length ≤ i) (h : i < (visL p false).length), (visL p false)[i].phase = 2 ∧ (visL p false)[i].cap = false := fun i hi h => visL_tail p hi h
    generalize visL p true = V at cvt hV1 hlo hhi
    generalize visL p false = U at cvf hV2 hV3 hlw hta
    clear cv hf hks hs
    go_enter Try.func6, Try.ntmps6
    go_wp2_with (go_at_call 8; refine (cf _ Lime.stp_).mono ?_; rintro e w1 ⟨rfl, hb1⟩; replace e0 := hb1.cell e0; replace e1 := hb1.cell e1; replace e2 := hb1.cell e2; replace e3 := hb1.cell e3; replace e4 := hb1.cell e4; replace e5 := hb1.cell e5)
    have hW1 : W.heap.size ≤ w1.heap.size := by have := hb1.size; simp at this; omega
    have hsw1 : Stp W w1 := Stp.trans Lime.stp_ hb1
    clear e0 e1 e2 e3 e4 e5 cf
    refine calls_named fun wx hwx => ?_
    have hsx : Stp w1 wx := by rw [hwx]; exact (Stp.refl w1).alloc _
    have hx : wx.heap[w1.heap.size]? = some (.cells #[.int .i64 et, .int .i64 tg, .int .i64 re, .bool true, .bool can, .bool comp] 25 (0, 0)) := by rw [hwx]; exact World.alloc_heap_new w1 _
    have hzx : wx.heap.size = w1.heap.size + 1 := by rw [hwx]; simp
    clear hwx hb1
    refine (show Calls Try.prog 10 _ _ _ from cp _ (hsw1.trans hsx)).mono ?_
    rintro e w3 ⟨u3, rfl, r3, hb3⟩
    obtain ⟨A3, c3, rfl, hc3, hm3⟩ := r3.form
    have hx3 := hb3.heap hx
    obtain ⟨d0, _⟩ := in_block hx3 0 _ rfl
    obtain ⟨d1, _⟩ := in_block hx3 1 _ rfl
    obtain ⟨d2, _⟩ := in_block hx3 2 _ rfl
    obtain ⟨d3, _⟩ := in_block hx3 3 _ rfl
    obtain ⟨d4, _⟩ := in_block hx3 4 _ rfl
    obtain ⟨d5, _⟩ := in_block hx3 5 _ rfl
    have hsw3 : Stp W w3 := hsw1.trans (hsx.trans hb3)
    go_wp2_with fail
    refine (show Calls Try.prog 16 _ _ _ from cvt _ hsw3).mono ?_
    rintro e w4 ⟨u4, rfl, r4, hb4⟩
    obtain ⟨A4, c4, rfl, hc4, hm4⟩ := r4.form
    clear d0 d1 d2 d3 d4 d5 cp cvt
    have hx4 := hb4.heap hx3
    have r34 := r3.stp hb4
    have hsw4 : Stp W w4 := hsw3.trans hb4
    have hz3 := hb3.size
    have hm0 : wrap64 (2 * (p.length : Int)) = 2 * (p.length : Int) := by unfold wrap64; omega
    have hne : ((V.length : Int) != 2 * (p.length : Int)) = false := by simp; omega
    go_wp2_with fail
    go_loopw [9] (fun s9 W' => ∃ i : Nat, s9 = .int .i64 i ∧ i ≤ p.length ∧ Aside (Stp w4 W')) (fun s9 _ => p.length - (intOf s9).toNat)
    case atStart => exact ⟨0, rfl, Nat.zero_le _, Stp.refl _⟩
    case round =>
      obtain ⟨i, rfl, hi, HA⟩ := hrel
      have hst := HA.out
      clear HA
      by_cases hlt : i < p.length
      · have hltz : (i : Int) < (p.length : Int) := by omega
        have hi4 : i < V.length := by omega
        have hi4z : (i : Int) < (V.length : Int) := by omega
        obtain ⟨j, hj⟩ : ∃ j : Nat, p.length - 1 - i = j := ⟨_, rfl⟩
        have hjz : (p.length : Int) - 1 - (i : Int) = (j : Int) := by omega
        have hjl : j < p.length := by omega
        have hjlz : (j : Int) < (p.length : Int) := by omega
        obtain ⟨m, hm⟩ : ∃ m : Nat, p.length + i = m := ⟨_, rfl⟩
        have hmz : (p.length : Int) + (i : Int) = (m : Int) := by omega
        have hm4 : m < V.length := by omega
        have hmlz : (m : Int) < (V.length : Int) := by omega
        have hV5 := hlo i hlt hi4
        simp only [hj] at hV5
        have hV6 := hhi i hlt (by omega)
        simp only [hm] at hV6
        obtain ⟨b4, o4, rfl, y0, y1, y2, y3, y4⟩ := vis_at5 (r4.stp hst) i hi4
        obtain ⟨b4', o4', eA, s0, s1, s2, s3, s4⟩ := vis_at5 (r4.stp hst) m hm4
        obtain ⟨rfl, rfl⟩ : b4 = b4' ∧ o4 = o4' := by injection eA with eA; injection eA with h1 h2; exact ⟨h1, h2⟩
        obtain ⟨b3, o3, rfl, _, _, z0, z1, z2⟩ := stp_at (r34.stp hst) j hjl
        obtain ⟨b3', o3', eB, _, _, t0, t1, t2⟩ := stp_at (r34.stp hst) i hlt
        obtain ⟨rfl, rfl⟩ : b3 = b3' ∧ o3 = o3' := by injection eB with eA; injection eA with h1 h2; exact ⟨h1, h2⟩
        rw [hV5] at y0 y1 y2 y3 y4
        rw [hV6] at s0 s1 s2 s3 s4
        clear hV5 hV6 eA eB hlo hhi hlw hta
        simp only [visOf] at y0 y1 y2 y4 s0 s1 s2 s4
        generalize p[j] = x1 at y0 y1 y2 y3 y4 z0 z1 z2
        generalize p[i] = x2 at s0 s1 s2 s3 s4 t0 t1 t2
        obtain ⟨n1, g1, f1⟩ := x1
        obtain ⟨n2, g2, f2⟩ := x2
        simp only [show ((1 : Int) == 1) = true from rfl, show ((3 : Int) == 1) = false from rfl] at y4 s4
        clear y3 s3 hj hm
        go_wp2_with fail
        refine wp_region_plan (Plan.calm 0 (Plan.calm 1 (Plan.calm 2 (Plan.calm 3 (Plan.calm 4 (Plan.calm 5 (Plan.calm 6 (Plan.calm 7 (Plan.calm 8 (Plan.calm 9 (Plan.calm 10 (Plan.calm 11 (Plan.calm 12 (Plan.calm 13 (Plan.calm 14 (Plan.calm 15 (Plan.calm 16 (Plan.calm 17 (Plan.calm 18 (Plan.calm 19 (Plan.calm 20 (Plan.calm 21 (Plan.calm 22 (Plan.calm 23 (Plan.calm 24 (Plan.calm 25 (Plan.calm 26 (Plan.calm 27 (Plan.calm 28 (Plan.calm 29 (Plan.calm 30 (Plan.calm 31 (Plan.calm 32 (Plan.calm 33 (Plan.calm 34 (Plan.calm 35 (Plan.calm 36 (Plan.calm 37 (Plan.calm 38 (Plan.calm 39 (Plan.calm 40 (Plan.calm 41 (Plan.calm 42 (Plan.calm 43 Plan.done)))))))))))))))))))))))))))))))))))))))))))) (by kernel_rfl) (by kernel_rfl) (by kernel_rfl) ?_
        have hS : Stp wr wr.drew := (Stp.refl _).drew
        iterate 4 ((first | (refine plan_calm (v := ?_) Lime.getop_ (by rfl) (fun W hW => ?_) ?_; rotate_left; (focus (exact Lime.calm_))) | (refine plan_calm_skip Lime.getop_ (by rfl) ?_)); (try simp only [Act.put, List.setIfInBounds_toArray, List.set_cons_zero, List.set_cons_succ]))
        (first | (refine plan_calm (v := ?_) Lime.getop_ (by rfl) (fun W hW => ?_) ?_; rotate_left; (focus (have q0_ := (hS.trans hW).cell y0; have q1_ := (hS.trans hW).cell y1; have q2_ := (hS.trans hW).cell y2; have q3_ := (hS.trans hW).cell y4; have q4_ := (hS.trans hW).cell z0; have q5_ := (hS.trans hW).cell z1; have q6_ := (hS.trans hW).cell z2; have q7_ := (hS.trans hW).cell s0; have q8_ := (hS.trans hW).cell s1; have q9_ := (hS.trans hW).cell s2; have q10_ := (hS.trans hW).cell s4; have q11_ := (hS.trans hW).cell t0; have q12_ := (hS.trans hW).cell t1; have q13_ := (hS.trans hW).cell t2; clear hW; (exact Lime.calm_)))) | (refine plan_calm_skip Lime.getop_ (by rfl) ?_)); (try simp only [Act.put, List.setIfInBounds_toArray, List.set_cons_zero, List.set_cons_succ])
        iterate 6 ((first | (refine plan_calm (v := ?_) Lime.getop_ (by rfl) (fun W hW => ?_) ?_; rotate_left; (focus (exact Lime.calm_))) | (refine plan_calm_skip Lime.getop_ (by rfl) ?_)); (try simp only [Act.put, List.setIfInBounds_toArray, List.set_cons_zero, List.set_cons_succ]))
        (first | (refine plan_calm (v := ?_) Lime.getop_ (by rfl) (fun W hW => ?_) ?_; rotate_left; (focus (have q0_ := (hS.trans hW).cell y0; have q1_ := (hS.trans hW).cell y1; have q2_ := (hS.trans hW).cell y2; have q3_ := (hS.trans hW).cell y4; have q4_ := (hS.trans hW).cell z0; have q5_ := (hS.trans hW).cell z1; have q6_ := (hS.trans hW).cell z2; have q7_ := (hS.trans hW).cell s0; have q8_ := (hS.trans hW).cell s1; have q9_ := (hS.trans hW).cell s2; have q10_ := (hS.trans hW).cell s4; have q11_ := (hS.trans hW).cell t0; have q12_ := (hS.trans hW).cell t1; have q13_ := (hS.trans hW).cell t2; clear hW; (exact Lime.calm_)))) | (refine plan_calm_skip Lime.getop_ (by rfl) ?_)); (try simp only [Act.put, List.setIfInBounds_toArray, List.set_cons_zero, List.set_cons_succ])
        iterate 6 ((first | (refine plan_calm (v := ?_) Lime.getop_ (by rfl) (fun W hW => ?_) ?_; rotate_left; (focus (exact Lime.calm_))) | (refine plan_calm_skip Lime.getop_ (by rfl) ?_)); (try simp only [Act.put, List.setIfInBounds_toArray, List.set_cons_zero, List.set_cons_succ]))
        (first | (refine plan_calm (v := ?_) Lime.getop_ (by rfl) (fun W hW => ?_) ?_; rotate_left; (focus (have q0_ := (hS.trans hW).cell y0; have q1_ := (hS.trans hW).cell y1; have q2_ := (hS.trans hW).cell y2; have q3_ := (hS.trans hW).cell y4; have q4_ := (hS.trans hW).cell z0; have q5_ := (hS.trans hW).cell z1; have q6_ := (hS.trans hW).cell z2; have q7_ := (hS.trans hW).cell s0; have q8_ := (hS.trans hW).cell s1; have q9_ := (hS.trans hW).cell s2; have q10_ := (hS.trans hW).cell s4; have q11_ := (hS.trans hW).cell t0; have q12_ := (hS.trans hW).cell t1; have q13_ := (hS.trans hW).cell t2; clear hW; (exact Lime.calm_)))) | (refine plan_calm_skip Lime.getop_ (by rfl) ?_)); (try simp only [Act.put, List.setIfInBounds_toArray, List.set_cons_zero, List.set_cons_succ])
        iterate 9 ((first | (refine plan_calm (v := ?_) Lime.getop_ (by rfl) (fun W hW => ?_) ?_; rotate_left; (focus (exact Lime.calm_))) | (refine plan_calm_skip Lime.getop_ (by rfl) ?_)); (try simp only [Act.put, List.setIfInBounds_toArray, List.set_cons_zero, List.set_cons_succ]))
        (first | (refine plan_calm (v := ?_) Lime.getop_ (by rfl) (fun W hW => ?_) ?_; rotate_left; (focus (have q0_ := (hS.trans hW).cell y0; have q1_ := (hS.trans hW).cell y1; have q2_ := (hS.trans hW).cell y2; have q3_ := (hS.trans hW).cell y4; have q4_ := (hS.trans hW).cell z0; have q5_ := (hS.trans hW).cell z1; have q6_ := (hS.trans hW).cell z2; have q7_ := (hS.trans hW).cell s0; have q8_ := (hS.trans hW).cell s1; have q9_ := (hS.trans hW).cell s2; have q10_ := (hS.trans hW).cell s4; have q11_ := (hS.trans hW).cell t0; have q12_ := (hS.trans hW).cell t1; have q13_ := (hS.trans hW).cell t2; clear hW; (exact Lime.calm_)))) | (refine plan_calm_skip Lime.getop_ (by rfl) ?_)); (try simp only [Act.put, List.setIfInBounds_toArray, List.set_cons_zero, List.set_cons_succ])
        iterate 3 ((first | (refine plan_calm (v := ?_) Lime.getop_ (by rfl) (fun W hW => ?_) ?_; rotate_left; (focus (exact Lime.calm_))) | (refine plan_calm_skip Lime.getop_ (by rfl) ?_)); (try simp only [Act.put, List.setIfInBounds_toArray, List.set_cons_zero, List.set_cons_succ]))
        (first | (refine plan_calm (v := ?_) Lime.getop_ (by rfl) (fun W hW => ?_) ?_; rotate_left; (focus (have q0_ := (hS.trans hW).cell y0; have q1_ := (hS.trans hW).cell y1; have q2_ := (hS.trans hW).cell y2; have q3_ := (hS.trans hW).cell y4; have q4_ := (hS.trans hW).cell z0; have q5_ := (hS.trans hW).cell z1; have q6_ := (hS.trans hW).cell z2; have q7_ := (hS.trans hW).cell s0; have q8_ := (hS.trans hW).cell s1; have q9_ := (hS.trans hW).cell s2; have q10_ := (hS.trans hW).cell s4; have q11_ := (hS.trans hW).cell t0; have q12_ := (hS.trans hW).cell t1; have q13_ := (hS.trans hW).cell t2; clear hW; (exact Lime.calm_)))) | (refine plan_calm_skip Lime.getop_ (by rfl) ?_)); (try simp only [Act.put, List.setIfInBounds_toArray, List.set_cons_zero, List.set_cons_succ])
        iterate 9 ((first | (refine plan_calm (v := ?_) Lime.getop_ (by rfl) (fun W hW => ?_) ?_; rotate_left; (focus (exact Lime.calm_))) | (refine plan_calm_skip Lime.getop_ (by rfl) ?_)); (try simp only [Act.put, List.setIfInBounds_toArray, List.set_cons_zero, List.set_cons_succ]))
        (first | (refine plan_calm (v := ?_) Lime.getop_ (by rfl) (fun W hW => ?_) ?_; rotate_left; (focus (have q0_ := (hS.trans hW).cell y0; have q1_ := (hS.trans hW).cell y1; have q2_ := (hS.trans hW).cell y2; have q3_ := (hS.trans hW).cell y4; have q4_ := (hS.trans hW).cell z0; have q5_ := (hS.trans hW).cell z1; have q6_ := (hS.trans hW).cell z2; have q7_ := (hS.trans hW).cell s0; have q8_ := (hS.trans hW).cell s1; have q9_ := (hS.trans hW).cell s2; have q10_ := (hS.trans hW).cell s4; have q11_ := (hS.trans hW).cell t0; have q12_ := (hS.trans hW).cell t1; have q13_ := (hS.trans hW).cell t2; clear hW; (exact Lime.calm_)))) | (refine plan_calm_skip Lime.getop_ (by rfl) ?_)); (try simp only [Act.put, List.setIfInBounds_toArray, List.set_cons_zero, List.set_cons_succ])
        (first | (refine plan_calm (v := ?_) Lime.getop_ (by rfl) (fun W hW => ?_) ?_; rotate_left; (focus (exact Lime.calm_))) | (refine plan_calm_skip Lime.getop_ (by rfl) ?_)); (try simp only [Act.put, List.setIfInBounds_toArray, List.set_cons_zero, List.set_cons_succ])
        refine plan_done ?_
        go_wp2_with fail
        go_roundw
        case rel => exact ⟨i + 1, by go_num, hlt, hst.trans Lime.stp_⟩
        case measure => simp [intOf]; omega
      · have hltz : ¬ (i : Int) < (p.length : Int) := by omega
        have hloV := hlo
        clear hlo hhi
        have hxr := hst.heap hx4
        obtain ⟨d0, g0⟩ := in_block hxr 0 _ rfl
        obtain ⟨d1, g1⟩ := in_block hxr 1 _ rfl
        obtain ⟨d2, g2⟩ := in_block hxr 2 _ rfl
        obtain ⟨d3, g3⟩ := in_block hxr 3 _ rfl
        obtain ⟨d4, g4⟩ := in_block hxr 4 _ rfl
        obtain ⟨d5, g5⟩ := in_block hxr 5 _ rfl
        have hswr : Stp W wr := hsw4.trans hst
        go_wp2_with fail
        refine calls_named fun wy hwy => ?_
        have hK : Kpt (fun b => b = w1.heap.size) w4 wy := by rw [hwy]; exact kpt_store (Kpt.of_stp hst) rfl
        have hswy : Stp W wy := by rw [hwy]; exact hswr.setCell hW1 _
        clear hwy
        refine (show Calls Try.prog 16 _ _ _ from cvf _ hswy).mono ?_
        rintro e w6 ⟨u6, rfl, r6, hb6⟩
        obtain ⟨A6, c6, rfl, hc6, hm6⟩ := r6.form
        have r46 : Row visK _ w6 (.slice A4 V.length c4) V := (r4.kpt hK fun x hx _ h => by have h1 : w3.heap.size ≤ x := hx; have h2 : x = w1.heap.size := h; have := hb3.size; omega).stp hb6
        have hsw6 : Stp W w6 := hswy.trans hb6
        clear d0 d1 d2 d3 d4 d5 g0 g1 g2 g3 g4 g5 cvf r3 r34 hx hx3 hx4 hxr hne hm0 r4 hK
        have hUn : ¬ ((U.length : Int) < (p.length : Int)) := by omega
        go_wp2_with fail
        go_loopw [11] (fun s11 W' => ∃ i : Nat, s11 = .int .i64 i ∧ i ≤ p.length ∧ Aside (Stp w6 W')) (fun s11 _ => p.length - (intOf s11).toNat)
        case atStart => exact ⟨0, rfl, Nat.zero_le _, Stp.refl _⟩
        case round =>
          obtain ⟨i, rfl, hi, HA⟩ := hrel
          have hst6 := HA.out
          clear HA
          by_cases hlt2 : i < p.length
          · have hltz2 : (i : Int) < (p.length : Int) := by omega
            have hiU : i < U.length := by omega
            have hiUz : (i : Int) < (U.length : Int) := by omega
            have hiV : i < V.length := by omega
            have hiVz : (i : Int) < (V.length : Int) := by omega
            have hVU : V[i] = U[i] := by rw [hloV i hlt2 hiV, hlw i hlt2 hiU]
            obtain ⟨b4, o4, rfl, y0, y1, y2, y3, y4⟩ := vis_at5 (r46.stp hst6) i hiV
            obtain ⟨b6, o6, rfl, z0, z1, z2, z3, z4⟩ := vis_at5 (r6.stp hst6) i hiU
            rw [hVU] at y0 y1 y2 y3 y4
            generalize U[i] = x at y0 y1 y2 y3 y4 z0 z1 z2 z3 z4 hVU
            obtain ⟨⟨n1, g1, f1⟩, ph, cp⟩ := x
            clear hVU hloV hlw hta
            go_wp2_with fail
            refine wp_region_plan (Plan.calm 0 (Plan.calm 1 (Plan.calm 2 (Plan.calm 3 (Plan.calm 4 (Plan.calm 5 (Plan.calm 6 (Plan.calm 7 (Plan.calm 8 Plan.done))))))))) (by kernel_rfl) (by kernel_rfl) (by kernel_rfl) ?_
            have hS : Stp wr wr.drew := (Stp.refl _).drew
            iterate 3 ((first | (refine plan_calm (v := ?_) Lime.getop_ (by rfl) (fun W hW => ?_) ?_; rotate_left; (focus (exact Lime.calm_))) | (refine plan_calm_skip Lime.getop_ (by rfl) ?_)); (try simp only [Act.put, List.setIfInBounds_toArray, List.set_cons_zero, List.set_cons_succ]))
            (first | (refine plan_calm (v := ?_) Lime.getop_ (by rfl) (fun W hW => ?_) ?_; rotate_left; (focus (have q0_ := (hS.trans hW).cell y0; have q1_ := (hS.trans hW).cell y1; have q2_ := (hS.trans hW).cell y2; have q3_ := (hS.trans hW).cell y3; have q4_ := (hS.trans hW).cell y4; have q5_ := (hS.trans hW).cell z0; have q6_ := (hS.trans hW).cell z1; have q7_ := (hS.trans hW).cell z2; have q8_ := (hS.trans hW).cell z3; have q9_ := (hS.trans hW).cell z4; clear hW; (exact Lime.calm_)))) | (refine plan_calm_skip Lime.getop_ (by rfl) ?_)); (try simp only [Act.put, List.setIfInBounds_toArray, List.set_cons_zero, List.set_cons_succ])
            iterate 3 ((first | (refine plan_calm (v := ?_) Lime.getop_ (by rfl) (fun W hW => ?_) ?_; rotate_left; (focus (exact Lime.calm_))) | (refine plan_calm_skip Lime.getop_ (by rfl) ?_)); (try simp only [Act.put, List.setIfInBounds_toArray, List.set_cons_zero, List.set_cons_succ]))
            (first | (refine plan_calm (v := ?_) Lime.getop_ (by rfl) (fun W hW => ?_) ?_; rotate_left; (focus (have q0_ := (hS.trans hW).cell y0; have q1_ := (hS.trans hW).cell y1; have q2_ := (hS.trans hW).cell y2; have q3_ := (hS.trans hW).cell y3; have q4_ := (hS.trans hW).cell y4; have q5_ := (hS.trans hW).cell z0; have q6_ := (hS.trans hW).cell z1; have q7_ := (hS.trans hW).cell z2; have q8_ := (hS.trans hW).cell z3; have q9_ := (hS.trans hW).cell z4; clear hW; (exact Lime.calm_)))) | (refine plan_calm_skip Lime.getop_ (by rfl) ?_)); (try simp only [Act.put, List.setIfInBounds_toArray, List.set_cons_zero, List.set_cons_succ])
            (first | (refine plan_calm (v := ?_) Lime.getop_ (by rfl) (fun W hW => ?_) ?_; rotate_left; (focus (exact Lime.calm_))) | (refine plan_calm_skip Lime.getop_ (by rfl) ?_)); (try simp only [Act.put, List.setIfInBounds_toArray, List.set_cons_zero, List.set_cons_succ])
            refine plan_done ?_
            go_wp2_with fail
            go_roundw
            case rel => exact ⟨i + 1, by go_num, hlt2, hst6.trans Lime.stp_⟩
            case measure => simp [intOf]; omega
          · have hltz2 : ¬ (i : Int) < (p.length : Int) := by omega
            have hswr6 : Stp W wr := hsw6.trans hst6
            clear hloV hlw
            go_wp2_with fail
            go_loopw [12] (fun s12 W' => ∃ i : Nat, s12 = .int .i64 i ∧ p.length ≤ i ∧ i ≤ U.length ∧ Aside (Stp wr W')) (fun s12 _ => U.length - (intOf s12).toNat)
            case atStart => exact ⟨p.length, rfl, Nat.le_refl _, hV2, Stp.refl _⟩
            case round =>
              obtain ⟨i, rfl, hin, hi3, HA⟩ := hrel
              have hst7 := HA.out
              clear HA
              by_cases hlt3 : i < U.length
              · have hltz3 : (i : Int) < (U.length : Int) := by omega
                obtain ⟨b6, o6, rfl, z0, z1, z2, z3, z4⟩ := vis_at5 (r6.stp (hst6.trans hst7)) i hlt3
                rw [(hta i hin hlt3).1] at z3
                rw [(hta i hin hlt3).2] at z4
                clear z0 z1 z2
                go_wp2_with fail
                go_roundw
                case rel => exact ⟨i + 1, by go_num, by omega, hlt3, hst7.trans Lime.stp_⟩
                case measure => simp [intOf]; omega
              · have hltz3 : ¬ (i : Int) < (U.length : Int) := by omega
                have hUg : (U.length : Int) ≥ (p.length : Int) := by omega
                have hUg2 : (p.length : Int) ≤ (U.length : Int) := by omega
                have hswf : Stp W wr := hswr6.trans hst7
                go_wp2_with (go_at_call 9; refine (live_c _).mono ?_; rintro e w9 ⟨rfl, hb9⟩)
                go_ret
                exact ⟨rfl, by (exact Lime.stp_)⟩
end Go.Proofs.Lime
