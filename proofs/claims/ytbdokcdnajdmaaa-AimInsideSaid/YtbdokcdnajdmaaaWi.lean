/- Walk: the law AimInside. -/
import Derived.Test.YtbdokcdnajdmaaaE05
import Derived.Test.YtbdokcdnajdmaaaE04
import Derived.Test.YtbdokcdnajdmaaaMU
import Derived.Test.YtbdokcdnajdmaaaPx1
import Derived.Test.YtbdokcdnajdmaaaPx2
namespace Go.Proofs.Lime
open Go.RowKit
set_option linter.unusedVariables false
set_option linter.unusedSimpArgs false
attribute [local go_sem] Oper.semAt_some

section
variable {S : Nat → Prop} {W : World} {A : Option Addr} {c : Nat} {t : List Nd} (hr : Row nodeK S W (.slice A t.length c) t)
include hr
theorem few_c' : Calls Try.prog 8 #[.slice A t.length c] W fun e w' => e = .returned (.bool (smallT t && decide ((t.length : Int) ≤ 30))) ∧ Stp W w' := by
  have hC := Go.Proofs.Ytbdokcdnajdmaaa.P.C_tree hr
  have := Go.Proofs.Ytbdokcdnajdmaaa.P.limelightref01_Few.calls A c (Go.Proofs.Ytbdokcdnajdmaaa.P.rt t) _ W (by rw [Go.Proofs.Ytbdokcdnajdmaaa.P.rt_length]; exact hC.1) (by rw [Go.Proofs.Ytbdokcdnajdmaaa.P.rt_length]; exact hC.2.1) (Go.Proofs.Ytbdokcdnajdmaaa.P.few_f (Go.Proofs.Ytbdokcdnajdmaaa.P.rt t))
  rw [Go.Proofs.Ytbdokcdnajdmaaa.P.rt_length, Go.Proofs.Ytbdokcdnajdmaaa.P.tr_rt] at this
  exact this.mono fun e w' ⟨h, hb⟩ => ⟨h, ⟨hb⟩⟩
theorem both_c (a b : Int) : Calls Try.prog 11 #[.slice A t.length c, .int .i64 a, .int .i64 b] W fun e w' => e = .returned (.bool (mayT t && (isN t a && isN t b))) ∧ Stp W w' := by
  have hC := Go.Proofs.Ytbdokcdnajdmaaa.P.C_tree hr
  have := Go.Proofs.Ytbdokcdnajdmaaa.P.limelightref03_Both.calls A c (Go.Proofs.Ytbdokcdnajdmaaa.P.rt t) a b _ W (by rw [Go.Proofs.Ytbdokcdnajdmaaa.P.rt_length]; exact hC.1) (by rw [Go.Proofs.Ytbdokcdnajdmaaa.P.rt_length]; exact hC.2.1) (Go.Proofs.Ytbdokcdnajdmaaa.P.both_f (Go.Proofs.Ytbdokcdnajdmaaa.P.rt t) a b)
  rw [Go.Proofs.Ytbdokcdnajdmaaa.P.rt_length, Go.Proofs.Ytbdokcdnajdmaaa.P.tr_rt] at this
  exact this.mono fun e w' ⟨h, hb⟩ => ⟨h, ⟨hb⟩⟩
theorem rtop_c (M : May t) {a : Int} (ha : isN t a = true) : Calls Try.prog 20 #[.slice A t.length c, .int .i64 a] W fun e w' => e = .returned (.int .i64 (topT t a)) ∧ Stp W w' := by
  have hC := Go.Proofs.Ytbdokcdnajdmaaa.P.C_tree hr
  obtain ⟨k, hk⟩ := Go.Proofs.Ytbdokcdnajdmaaa.P.rtop_ev (l := Go.Proofs.Ytbdokcdnajdmaaa.P.rt t) (by rw [Go.Proofs.Ytbdokcdnajdmaaa.P.tr_rt]; exact M) (n := a) (by rw [Go.Proofs.Ytbdokcdnajdmaaa.P.tr_rt]; exact ha)
  have := Go.Proofs.Ytbdokcdnajdmaaa.P.limelightref03_Top.calls k A c (Go.Proofs.Ytbdokcdnajdmaaa.P.rt t) a _ W (by rw [Go.Proofs.Ytbdokcdnajdmaaa.P.rt_length]; exact hC.1) (by rw [Go.Proofs.Ytbdokcdnajdmaaa.P.rt_length]; exact hC.2.1) (hk k (Nat.le_refl _))
  rw [Go.Proofs.Ytbdokcdnajdmaaa.P.rt_length, Go.Proofs.Ytbdokcdnajdmaaa.P.tr_rt] at this
  exact this.mono fun e w' ⟨h, hb⟩ => ⟨h, ⟨hb⟩⟩
theorem rabove_c (M : May t) (a : Int) {b : Int} (hb : isN t b = true) : Calls Try.prog 21 #[.slice A t.length c, .int .i64 a, .int .i64 b] W fun e w' => e = .returned (.bool (decide (a ∈ upsT t b))) ∧ Stp W w' := by
  have hC := Go.Proofs.Ytbdokcdnajdmaaa.P.C_tree hr
  obtain ⟨k, hk⟩ := Go.Proofs.Ytbdokcdnajdmaaa.P.rabove4_ev (l := Go.Proofs.Ytbdokcdnajdmaaa.P.rt t) (by rw [Go.Proofs.Ytbdokcdnajdmaaa.P.tr_rt]; exact M) (b := b) a (by rw [Go.Proofs.Ytbdokcdnajdmaaa.P.tr_rt]; exact hb)
  have := Go.Proofs.Ytbdokcdnajdmaaa.P.limelightref04_Above.calls k A c (Go.Proofs.Ytbdokcdnajdmaaa.P.rt t) a b _ W (by rw [Go.Proofs.Ytbdokcdnajdmaaa.P.rt_length]; exact hC.1) (by rw [Go.Proofs.Ytbdokcdnajdmaaa.P.rt_length]; exact hC.2.1) (hk k (Nat.le_refl _))
  rw [Go.Proofs.Ytbdokcdnajdmaaa.P.rt_length, Go.Proofs.Ytbdokcdnajdmaaa.P.tr_rt] at this
  exact this.mono fun e w' ⟨h, hb⟩ => ⟨h, ⟨hb⟩⟩
end
attribute [local go_sem high] Go.Proofs.Ytbdokcdnajdmaaa.P.eqA36
set_option maxRecDepth 100000 in
set_option maxHeartbeats 4000000 in
theorem aiminside_w {S : Nat → Prop} {W : World} {v : Value} {t : List Nd} (hr : Row nodeK S W v t) (et tg re : Int) (bub can comp : Bool) : Calls Try.prog 7 #[v, .agg #[.int .i64 et, .int .i64 tg, .int .i64 re, .bool bub, .bool can, .bool comp]] W fun e w' => e = .returned (.bool true) ∧ Stp W w' := by
  obtain ⟨A, c, rfl, _⟩ := hr.form
  have cf := fun W' (h : Stp W W') => few_c' (hr.stp h)
  have cb := fun W' (h : Stp W W') => both_c (hr.stp h) tg tg
  have e0 : (W.alloc (.cells #[.int .i64 et, .int .i64 tg, .int .i64 re, .bool bub, .bool can, .bool comp] 25)).cell? ⟨W.heap.size, 0, none⟩ = some (.int .i64 et) := box_at W _ _ 0 _ rfl
  have e1 : (W.alloc (.cells #[.int .i64 et, .int .i64 tg, .int .i64 re, .bool bub, .bool can, .bool comp] 25)).cell? ⟨W.heap.size, 1, none⟩ = some (.int .i64 tg) := box_at W _ _ 1 _ rfl
  have e2 : (W.alloc (.cells #[.int .i64 et, .int .i64 tg, .int .i64 re, .bool bub, .bool can, .bool comp] 25)).cell? ⟨W.heap.size, 2, none⟩ = some (.int .i64 re) := box_at W _ _ 2 _ rfl
  have e3 : (W.alloc (.cells #[.int .i64 et, .int .i64 tg, .int .i64 re, .bool bub, .bool can, .bool comp] 25)).cell? ⟨W.heap.size, 3, none⟩ = some (.bool bub) := box_at W _ _ 3 _ rfl
  have e4 : (W.alloc (.cells #[.int .i64 et, .int .i64 tg, .int .i64 re, .bool bub, .bool can, .bool comp] 25)).cell? ⟨W.heap.size, 4, none⟩ = some (.bool can) := box_at W _ _ 4 _ rfl
  have e5 : (W.alloc (.cells #[.int .i64 et, .int .i64 tg, .int .i64 re, .bool bub, .bool can, .bool comp] 25)).cell? ⟨W.heap.size, 5, none⟩ = some (.bool comp) := box_at W _ _ 5 _ rfl
  cases hf : (smallT t && decide ((t.length : Int) ≤ 30)) with
  | false =>
    rw [hf] at cf
    clear e0 e1 e2 e3 e4 e5
    go_enter Try.func7, Try.ntmps7
    go_wp2_with (first | (go_at_call 8; refine (cf _ Lime.stp_).mono ?_; rintro e w1 ⟨rfl, hb1⟩) | (go_at_call 9; refine (live_c _).mono ?_; rintro e w2 ⟨rfl, hb2⟩))
    go_ret
    exact ⟨rfl, by (exact Lime.stp_)⟩
  | true =>
    rw [hf] at cf
    have hs : smallT t = true := by rw [Bool.and_eq_true] at hf; exact hf.1
    cases hbo : (mayT t && (isN t tg && isN t tg)) with
    | false =>
      rw [hbo] at cb
      go_enter Try.func7, Try.ntmps7
      go_wp2_with (first | (go_at_call 8; refine (cf _ Lime.stp_).mono ?_; rintro e w1 ⟨rfl, hb1⟩; replace e1 := hb1.cell e1) | (go_at_call 11; refine (cb _ Lime.stp_).mono ?_; rintro e w3 ⟨rfl, hb3⟩) | (go_at_call 9; refine (live_c _).mono ?_; rintro e w2 ⟨rfl, hb2⟩))
      go_ret
      exact ⟨rfl, by (exact Lime.stp_)⟩
    | true =>
      rw [hbo] at cb
      have hks := Go.Proofs.Ytbdokcdnajdmaaa.P.kidsOk_small hs
      have hm : mayT t = true := by rw [Bool.and_eq_true] at hbo; exact hbo.1
      have ht : isN t tg = true := by rw [Bool.and_eq_true, Bool.and_eq_true] at hbo; exact hbo.2.1
      have M := May.of hm
      have h64 := M.len2
      have hpl := M.path_len false tg re tg (.inr ht)
      have hql := M.path_len true tg re tg (.inr ht)
      have cp : ∀ W', Stp W W' → Calls Try.prog 10 #[.slice A t.length c, .agg #[.int .i64 et, .int .i64 tg, .int .i64 re, .bool bub, .bool can, .bool false]] W' fun e w' => ∃ u, e = .returned u ∧ Row stpK (fun b => W'.heap.size ≤ b) w' u (pathT t false tg re tg) ∧ Stp W' w' := fun W' h => by
        have h1 := aimpath_r (hr.stp h) hks et tg re bub can false
        rw [show pathR t false tg re = pathT t false tg re tg from if_pos ⟨hm, ht⟩] at h1
        exact h1.mono fun e w' ⟨u, h1, h2, h3⟩ => ⟨u, h1, h2.reads, h3⟩
      have cq : ∀ W', Stp W W' → Calls Try.prog 10 #[.slice A t.length c, .agg #[.int .i64 et, .int .i64 tg, .int .i64 re, .bool bub, .bool can, .bool true]] W' fun e w' => ∃ u, e = .returned u ∧ Row stpK (fun b => W'.heap.size ≤ b) w' u (pathT t true tg re tg) ∧ Stp W' w' := fun W' h => by
        have h1 := aimpath_r (hr.stp h) hks et tg re bub can true
        rw [show pathR t true tg re = pathT t true tg re tg from if_pos ⟨hm, ht⟩] at h1
        exact h1.mono fun e w' ⟨u, h1, h2, h3⟩ => ⟨u, h1, h2.reads, h3⟩
      have ct := fun W' (h : Stp W W') => rtop_c (hr.stp h) M ht
      have hmem : ∀ s ∈ pathT t false tg re tg, isN t s.node = true := fun s h => (M.path_mem false tg re tg (.inr ht) s h).1
      have ca := fun W' (h : Stp W W') (b : Int) (hb : isN t b = true) => rabove_c (hr.stp h) M (topT t tg) hb
      have hin : (nd t (topT t tg)).kind = 3 → ∀ s ∈ pathT t false tg re tg, topT t tg ∈ upsT t s.node := fun h3 => M.path_inside tg re ht h3 tg (.inr ht) (M.topT_above ht)
      have hpre := M.path_prefix tg re tg (.inr ht)
      have hpln : (nd t (topT t tg)).kind ≠ 3 → pathT t false tg re tg = pathT t true tg re tg := fun h3 => M.path_plain tg re ht h3 tg (.inr ht)
      obtain ⟨kt, hkt, hktl⟩ := isN_nat (M.topT_isN ht)
      rw [hkt] at ct ca hin hpln
      have hqp : ∀ i (h : i < (pathT t false tg re tg).length) (h2 : i < (pathT t true tg re tg).length), (pathT t true tg re tg)[i] = (pathT t false tg re tg)[i] := fun i h h2 => (List.IsPrefix.getElem hpre h).symm
      have hle := hpre.length_le
      generalize pathT t false tg re tg = p at *
      generalize pathT t true tg re tg = q at *
      obtain ⟨bt, ot, Ak, ck, Aa, ca', rfl, _, _, z0, _, _, _, _, _, _, _, _, _, _, _, _⟩ := node_at hr kt hktl
      rw [show t[kt] = nd t (kt : Int) from (nd_nat hktl).symm] at z0
      generalize (nd t (kt : Int)).kind = kd at z0 hin hpln
      have hktz : (kt : Int) < (t.length : Int) := by omega
      go_enter Try.func7, Try.ntmps7
      go_wp2_with (first | (go_at_call 8; refine (cf _ Lime.stp_).mono ?_; rintro e w1' ⟨rfl, hb1'⟩; replace e0 := hb1'.cell e0; replace e1 := hb1'.cell e1; replace e2 := hb1'.cell e2; replace e3 := hb1'.cell e3; replace e4 := hb1'.cell e4; replace e5 := hb1'.cell e5) | (go_at_call 11; refine (cb _ Lime.stp_).mono ?_; rintro e w1 ⟨rfl, hb1⟩; replace e0 := hb1.cell e0; replace e1 := hb1.cell e1; replace e2 := hb1.cell e2; replace e3 := hb1.cell e3; replace e4 := hb1.cell e4; replace e5 := hb1.cell e5))
      have hsw1 : Stp W w1 := Stp.trans Lime.stp_ hb1
      have hW1 : W.heap.size ≤ w1.heap.size := hsw1.size
      refine calls_named fun wx hwx => ?_
      have hsx : Stp w1 wx := by rw [hwx]; exact (Stp.refl w1).alloc _
      have hx : wx.heap[w1.heap.size]? = some (.cells #[.int .i64 et, .int .i64 tg, .int .i64 re, .bool bub, .bool can, .bool false] 25 (0, 0)) := by rw [hwx]; exact World.alloc_heap_new w1 _
      have hzx : wx.heap.size = w1.heap.size + 1 := by rw [hwx]; simp
      have he1 := hsx.cell e1
      clear hwx hb1 e0 e1 e2 e3 e4 e5 cf cb
      refine (show Calls Try.prog 10 _ _ _ from cp _ (hsw1.trans hsx)).mono ?_
      rintro e w3 ⟨u3, rfl, r3, hb3⟩
      obtain ⟨A3, c3, rfl, hc3, hm3⟩ := r3.form
      have hx3 := hb3.heap hx
      have e1 := hb3.cell he1
      have hsw3 : Stp W w3 := hsw1.trans (hsx.trans hb3)
      go_wp2_with (go_at_call 20; refine (ct _ Lime.stp_).mono ?_; rintro e w4 ⟨rfl, hb4⟩)
      have hsw4 : Stp W w4 := hsw3.trans hb4
      have hx4 := hb4.heap hx3
      clear ct cp he1 e1
      go_loopw [8] (fun s8 W' => ∃ i : Nat, s8 = .int .i64 i ∧ i ≤ p.length ∧ Aside (Stp w4 W')) (fun s8 _ => p.length - (intOf s8).toNat)
      case atStart => exact ⟨0, rfl, Nat.zero_le _, Stp.refl _⟩
      case round =>
        obtain ⟨i, rfl, hi, HA⟩ := hrel
        have hst := HA.out
        clear HA
        have y0 := (hsw4.trans hst).cell z0
        by_cases hlt : i < p.length
        · have hltz : (i : Int) < (p.length : Int) := by omega
          obtain ⟨b3, o3, rfl, _, _, t0, t1, t2⟩ := stp_at (r3.stp (hb4.trans hst)) i hlt
          have hsN := hmem p[i] (List.getElem_mem hlt)
          have hswr : Stp W wr := hsw4.trans hst
          by_cases hk3 : kd = 3
          · have hk3b : (kd == 3) = true := by simpa using hk3
            have hup := hin hk3 p[i] (List.getElem_mem hlt)
            generalize p[i] = x1 at t0 t1 t2 hsN hup
            obtain ⟨n1, g1, f1⟩ := x1
            have cab := fun W' (h : Stp W W') => ca W' h n1 hsN
            rw [decide_eq_true hup] at cab
            clear t1 t2
            go_wp2_with (go_at_call 21; refine (cab _ Lime.stp_).mono ?_; rintro e w5 ⟨rfl, hb5⟩)
            go_roundw
            case rel => exact ⟨i + 1, by go_num, hlt, hst.trans Lime.stp_⟩
            case measure => simp [intOf]; omega
          · have hk3b : (kd == 3) = false := by simpa using hk3
            go_wp2_with fail
            go_roundw
            case rel => exact ⟨i + 1, by go_num, hlt, hst.trans Lime.stp_⟩
            case measure => simp [intOf]; omega
        · have hltz : ¬ (i : Int) < (p.length : Int) := by omega
          have hxr := hst.heap hx4
          obtain ⟨d0, g0⟩ := in_block hxr 0 _ rfl
          obtain ⟨d1, g1⟩ := in_block hxr 1 _ rfl
          obtain ⟨d2, g2⟩ := in_block hxr 2 _ rfl
          obtain ⟨d3, g3⟩ := in_block hxr 3 _ rfl
          obtain ⟨d4, g4⟩ := in_block hxr 4 _ rfl
          obtain ⟨d5, g5⟩ := in_block hxr 5 _ rfl
          have hswr : Stp W wr := hsw4.trans hst
          go_wp2_with fail
          refine calls_named fun wy hwy => ?_
          have hK : Kpt (fun b => b = w1.heap.size) w3 wy := by rw [hwy]; exact kpt_store (Kpt.of_stp (hb4.trans hst)) rfl
          have hswy : Stp W wy := by rw [hwy]; exact hswr.setCell hW1 _
          clear hwy
          refine (show Calls Try.prog 10 _ _ _ from cq _ hswy).mono ?_
          rintro e w6 ⟨u6, rfl, r6, hb6⟩
          obtain ⟨A6, c6, rfl, hc6, hm6⟩ := r6.form
          have r36 : Row stpK _ w6 (.slice A3 p.length c3) p := (r3.kpt hK fun x hx _ h => by have h1 : wx.heap.size ≤ x := hx; have h2 : x = w1.heap.size := h; omega).stp hb6
          have hsw6 : Stp W w6 := hswy.trans hb6
          clear d0 d1 d2 d3 d4 d5 g0 g1 g2 g3 g4 g5 cq r3 hx hx3 hx4 hxr hK ca y0
          have hge : ¬ ((q.length : Int) < (p.length : Int)) := by omega
          have hgeN : ¬ (q.length < p.length) := by omega
          go_wp2_with fail
          go_loopw [10] (fun s10 W' => ∃ i : Nat, s10 = .int .i64 i ∧ i ≤ p.length ∧ Aside (Stp w6 W')) (fun s10 _ => p.length - (intOf s10).toNat)
          case atStart => exact ⟨0, rfl, Nat.zero_le _, Stp.refl _⟩
          case round =>
            obtain ⟨i, rfl, hi, HA⟩ := hrel
            have hst6 := HA.out
            clear HA
            by_cases hlt2 : i < p.length
            · have hltz2 : (i : Int) < (p.length : Int) := by omega
              have hiq : i < q.length := by omega
              have hiqz : (i : Int) < (q.length : Int) := by omega
              obtain ⟨b4, o4, rfl, _, _, s0, s1, s2⟩ := stp_at (r36.stp hst6) i hlt2
              obtain ⟨b6, o6, rfl, _, _, t0, t1, t2⟩ := stp_at (r6.stp hst6) i hiq
              rw [hqp i hlt2 hiq] at t0 t1 t2
              generalize p[i] = x at s0 s1 s2 t0 t1 t2
              obtain ⟨n1, g1, f1⟩ := x
              clear hqp hin hpln
              go_wp2_with fail
              refine wp_region_plan (Plan.calm 0 (Plan.calm 1 (Plan.calm 2 (Plan.calm 3 (Plan.calm 4 (Plan.calm 5 (Plan.calm 6 (Plan.calm 7 (Plan.calm 8 Plan.done))))))))) (by kernel_rfl) (by kernel_rfl) (by kernel_rfl) ?_
              have hS : Stp wr wr.drew := (Stp.refl _).drew
              iterate 3 ((first | (refine plan_calm (v := ?_) Lime.getop_ (by rfl) (fun W hW => ?_) ?_; rotate_left; (focus (exact Lime.calm_))) | (refine plan_calm_skip Lime.getop_ (by rfl) ?_)); (try simp only [Act.put, List.setIfInBounds_toArray, List.set_cons_zero, List.set_cons_succ]))
              (first | (refine plan_calm (v := ?_) Lime.getop_ (by rfl) (fun W hW => ?_) ?_; rotate_left; (focus (have q0_ := (hS.trans hW).cell s0; have q1_ := (hS.trans hW).cell s1; have q2_ := (hS.trans hW).cell s2; have q3_ := (hS.trans hW).cell t0; have q4_ := (hS.trans hW).cell t1; have q5_ := (hS.trans hW).cell t2; clear hW; (exact Lime.calm_)))) | (refine plan_calm_skip Lime.getop_ (by rfl) ?_)); (try simp only [Act.put, List.setIfInBounds_toArray, List.set_cons_zero, List.set_cons_succ])
              iterate 3 ((first | (refine plan_calm (v := ?_) Lime.getop_ (by rfl) (fun W hW => ?_) ?_; rotate_left; (focus (exact Lime.calm_))) | (refine plan_calm_skip Lime.getop_ (by rfl) ?_)); (try simp only [Act.put, List.setIfInBounds_toArray, List.set_cons_zero, List.set_cons_succ]))
              (first | (refine plan_calm (v := ?_) Lime.getop_ (by rfl) (fun W hW => ?_) ?_; rotate_left; (focus (have q0_ := (hS.trans hW).cell s0; have q1_ := (hS.trans hW).cell s1; have q2_ := (hS.trans hW).cell s2; have q3_ := (hS.trans hW).cell t0; have q4_ := (hS.trans hW).cell t1; have q5_ := (hS.trans hW).cell t2; clear hW; (exact Lime.calm_)))) | (refine plan_calm_skip Lime.getop_ (by rfl) ?_)); (try simp only [Act.put, List.setIfInBounds_toArray, List.set_cons_zero, List.set_cons_succ])
              (first | (refine plan_calm (v := ?_) Lime.getop_ (by rfl) (fun W hW => ?_) ?_; rotate_left; (focus (exact Lime.calm_))) | (refine plan_calm_skip Lime.getop_ (by rfl) ?_)); (try simp only [Act.put, List.setIfInBounds_toArray, List.set_cons_zero, List.set_cons_succ])
              refine plan_done ?_
              go_wp2_with fail
              go_roundw
              case rel => exact ⟨i + 1, by go_num, hlt2, hst6.trans Lime.stp_⟩
              case measure => simp [intOf]; omega
            · have hltz2 : ¬ (i : Int) < (p.length : Int) := by omega
              have hswr6 : Stp W wr := hsw6.trans hst6
              have y0 := hswr6.cell z0
              by_cases hk3 : kd = 3
              · have hk3b : (kd == 3) = true := by simpa using hk3
                go_wp2_with (go_at_call 9; refine (live_c _).mono ?_; rintro e w9 ⟨rfl, hb9⟩)
                go_ret
                exact ⟨rfl, by (exact Lime.stp_)⟩
              · have hk3b : (kd == 3) = false := by simpa using hk3
                have hpq := congrArg List.length (hpln hk3)
                have hpqz : ((q.length : Int) == (p.length : Int)) = true := by simp; omega
                go_wp2_with (go_at_call 9; refine (live_c _).mono ?_; rintro e w9 ⟨rfl, hb9⟩)
                go_ret
                exact ⟨rfl, by (exact Lime.stp_)⟩
end Go.Proofs.Lime
