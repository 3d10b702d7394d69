/- Walk: the document's visits of an event. -/
import Derived.Test.YtaggmjnpocndkaaGreatMU
namespace Go.Proofs.Lime
open Go.RowKit
set_option linter.unusedVariables false
set_option linter.unusedSimpArgs false
attribute [local go_sem] Oper.semAt_some

theorem infoRV : (Tryz.prog.info? 44).map (fun i => (i.zero, i.size, i.bytes)) = some (some (.agg #[.int .i64 0, .int .i64 0, .int .i64 0, .int .i64 0, .bool false]), 5, 40) := by kernel_rfl
theorem set5 {w : World} {B : Nat} {t : TypeId} {a b c d e x : Value} (h : w.heap[B]? = some (.cells #[a, b, c, d, e] t (0, 0))) : (w.setCell ⟨B, 3, none⟩ x).heap[B]? = some (.cells #[a, b, c, x, e] t (0, 0)) := set_block h 3 x
set_option maxRecDepth 100000 in
set_option maxHeartbeats 4000000 in
theorem rvisits_w {w : World} {v : Value} {et tg re : Int} {bub can comp : Bool} {p : List Stp3}
    (hcp : ∀ W, Stp w W → Calls Tryz.prog 43 #[v, .agg #[.int .i64 et, .int .i64 tg, .int .i64 re, .bool bub, .bool can, .bool comp]] W fun e w' => ∃ u, e = .returned u ∧ Row stpK (fun b => W.heap.size ≤ b) w' u p ∧ Stp W w') (hp : p.length ≤ 1000) :
    Calls Tryz.prog 27 #[v, .agg #[.int .i64 et, .int .i64 tg, .int .i64 re, .bool bub, .bool can, .bool comp]] w fun e w' => ∃ u, e = .returned u ∧ Own visK 44 (fun b => w.heap.size ≤ b) w' u (visL p bub) ∧ Stp w w' := by
  go_enter Tryz.func27, Tryz.ntmps27
  go_wp2_with (go_at_call 43; refine (hcp _ Lime.stp_).mono ?_; rintro e w1 ⟨u1, rfl, r1, hb1⟩; obtain ⟨A1, c1, rfl, hc1, hm1⟩ := r1.form)
  have x3w : w1.cell? ⟨w.heap.size, 3, none⟩ = some (.bool bub) := hb1.cell (Stp.cell (Stp.refl _) (box_at w #[.int .i64 et, .int .i64 tg, .int .i64 re, .bool bub, .bool can, .bool comp] 25 3 _ rfl))
  have hs1 : Stp w w1 := Stp.trans Lime.stp_ hb1
  clear hb1 hcp
  go_loopw [5, 7] (fun s5 s7 W => ∃ (i : Int) (k : Nat), s7 = .int .i64 i ∧ -1 ≤ i ∧ i + k + 1 = p.length ∧ Aside (Own visK 44 (fun b => w1.heap.size ≤ b) W s5 ((p.reverse.take k).map (visOf · 1)) ∧ Stp w1 W)) (fun _ s7 _ => (intOf s7 + 1).toNat)
  case atStart => exact ⟨_, 0, rfl, by omega, by omega, Own.nil _ _ _ _, Stp.refl _⟩
  case round =>
    obtain ⟨i, k, rfl, hi1, hi, HA⟩ := hrel
    obtain ⟨hO, hst⟩ := HA.out
    by_cases hi0 : 0 ≤ i
    · obtain ⟨j, rfl⟩ : ∃ j : Nat, i = j := ⟨i.toNat, by omega⟩
      have hj : j < p.length := by omega
      have hjz : (j : Int) < (p.length : Int) := by omega
      have hk : k < p.reverse.length := by rw [List.length_reverse]; omega
      have hxk := List.take_succ_eq_append_getElem hk
      have hjk : p.length - 1 - k = j := by omega
      rw [List.getElem_reverse] at hxk
      simp only [hjk] at hxk
      obtain ⟨b1, o1, rfl, _, _, y0, y1, y2⟩ := stp_at (r1.stp hst) j hj
      have hll := Lib.hid (show ((((p.reverse.take k).map (visOf · 1)).length + 1) * 40 ≤ 140737488355328) by rw [List.length_map, List.length_take]; omega)
      generalize p[j] = s at y0 y1 y2 hxk
      obtain ⟨n, g, r⟩ := s
      obtain ⟨x, hx⟩ : ∃ x, visOf ⟨n, g, r⟩ 1 = x := ⟨_, rfl⟩
      have hx0 := Lib.hid (show (p.reverse.take (k + 1)).map (visOf · 1) = (p.reverse.take k).map (visOf · 1) ++ [x] by rw [hxk, List.map_append, List.map_cons, List.map_nil, hx])
      generalize (p.reverse.take k).map (visOf · 1) = ls at hO hll hx0
      obtain ⟨Av, cv, rfl, _⟩ := hO.reads.form
      have HX := Lib.hid hxk
      clear hxk HA hjk hk
      go_wp2_with fail
      obtain ⟨w2, hw2⟩ : ∃ w2, wr.alloc (.cells #[.int .i64 n, .int .i64 g, .int .i64 r, .int .i64 1, .bool true] 44) = w2 := ⟨_, rfl⟩
      have hs2 : Stp wr w2 := by rw [← hw2]; exact (Stp.refl wr).alloc _
      have hh : w2.heap[wr.heap.size]? = some (.cells #[.int .i64 n, .int .i64 g, .int .i64 r, .int .i64 1, .bool true] 44 (0, 0)) := by rw [← hw2]; exact World.alloc_heap_new wr _
      rw [hw2]
      clear hw2
      have z0 := hs2.cell y0
      have z1 := hs2.cell y1
      clear y0 y1 y2
      by_cases hng : n = g
      · have hnb : (n == g) = true := by simpa using hng
        obtain rfl : x = ⟨⟨n, g, r⟩, 2, true⟩ := by rw [← hx]; simp [visOf, hng]
        clear hng hx
        refine wp_region_plan (Plan.calm 0 (Plan.calm 1 (Plan.calm 2 (Plan.calm 3 (Plan.calm 4 (Plan.calm 5 (Plan.calm 6 (Plan.calm 7 (Plan.calm 8 (Plan.calm 9 (Plan.calm 10 Plan.done))))))))))) (by kernel_rfl) (by kernel_rfl) (by kernel_rfl) ?_
        have hS : Stp w2 w2.drew := (Stp.refl _).drew
        iterate 4 ((first | (refine plan_calm (v := ?_) Lime.getop_ (by rfl) (fun W hW => ?_) ?_; rotate_left; (focus (exact Lime.calm_))) | (refine plan_calm_skip Lime.getop_ (by rfl) ?_)); (try simp only [Act.put, List.setIfInBounds_toArray, List.set_cons_zero, List.set_cons_succ]))
        (first | (refine plan_calm (v := ?_) Lime.getop_ (by rfl) (fun W hW => ?_) ?_; rotate_left; (focus (have q0_ := (hS.trans hW).cell z0; have q1_ := (hS.trans hW).cell z1; clear hW; (exact Lime.calm_)))) | (refine plan_calm_skip Lime.getop_ (by rfl) ?_)); (try simp only [Act.put, List.setIfInBounds_toArray, List.set_cons_zero, List.set_cons_succ])
        iterate 4 ((first | (refine plan_calm (v := ?_) Lime.getop_ (by rfl) (fun W hW => ?_) ?_; rotate_left; (focus (exact Lime.calm_))) | (refine plan_calm_skip Lime.getop_ (by rfl) ?_)); (try simp only [Act.put, List.setIfInBounds_toArray, List.set_cons_zero, List.set_cons_succ]))
        (first | (refine plan_calm (v := ?_) Lime.getop_ (by rfl) (fun W hW => ?_) ?_; rotate_left; (focus (have q0_ := (hS.trans hW).cell z0; have q1_ := (hS.trans hW).cell z1; clear hW; (exact Lime.calm_)))) | (refine plan_calm_skip Lime.getop_ (by rfl) ?_)); (try simp only [Act.put, List.setIfInBounds_toArray, List.set_cons_zero, List.set_cons_succ])
        (first | (refine plan_calm (v := ?_) Lime.getop_ (by rfl) (fun W hW => ?_) ?_; rotate_left; (focus (exact Lime.calm_))) | (refine plan_calm_skip Lime.getop_ (by rfl) ?_)); (try simp only [Act.put, List.setIfInBounds_toArray, List.set_cons_zero, List.set_cons_succ])
        refine plan_done ?_
        obtain ⟨w3, hw3⟩ : ∃ w3, w2.drew = w3 := ⟨_, rfl⟩
        have hs3 : Stp w2 w3 := by rw [← hw3]; exact (Stp.refl w2).drew
        rw [hw3]
        clear hw3 hS
        have hh3 := hs3.heap hh
        obtain ⟨q0, f0⟩ := in_block hh3 0 _ rfl
        obtain ⟨q1, f1⟩ := in_block hh3 1 _ rfl
        obtain ⟨q2, f2⟩ := in_block hh3 2 _ rfl
        obtain ⟨q3, f3⟩ := in_block hh3 3 _ rfl
        obtain ⟨q4, f4⟩ := in_block hh3 4 _ rfl
        go_wp2_with (at_builtin; go_loud (refine wpl_append1 (d := visK) (S := fun b => w1.heap.size ≤ b) (T := fun _ => False) rfl (.tmp 37) (.tmp 39) 78 44 _ 40 rfl Tryz.underlying78 infoRV rfl (by decide) (by decide) (.slice Av ls.length cv) ls ⟨⟨n, g, r⟩, 2, true⟩ [.int .i64 n, .int .i64 g, .int .i64 r, .int .i64 2, .bool true] rfl (by first | (go_simp; done) | (go_simp; rfl)) rfl (fun _ h => h.elim) (hO.stp Lime.stp_) (fun k hk => Nat.le_trans (Stp.size (Stp.trans hst Lime.stp_)) hk) hll.out ?_; intro v9 w9 ho9 hg9; have hst9 : Stp w1 w9 := Stp.grown (Stp.trans hst Lime.stp_) hg9 hO.blk; obtain ⟨A9, c9, e9⟩ : ∃ A1 c1, v9 = .slice A1 (ls ++ [(⟨⟨n, g, r⟩, 2, true⟩ : Vis)]).length c1 := ho9.reads.slice; subst e9))
        go_roundw
        case rel => exact ⟨(j : Int) - 1, k + 1, by go_num, by omega, by omega, by rw [hx0.out]; simpa using ho9, hst9⟩
        case measure => simp [intOf]
      · have hnb : (n == g) = false := by simpa using hng
        obtain rfl : x = ⟨⟨n, g, r⟩, 1, true⟩ := by rw [← hx]; simp [visOf, hng]
        clear hng hx
        refine wp_region_plan (Plan.calm 0 (Plan.calm 1 (Plan.calm 2 (Plan.calm 3 (Plan.calm 4 (Plan.calm 5 (Plan.calm 6 (Plan.calm 7 (Plan.calm 8 (Plan.calm 9 (Plan.calm 10 Plan.done))))))))))) (by kernel_rfl) (by kernel_rfl) (by kernel_rfl) ?_
        have hS : Stp w2 w2.drew := (Stp.refl _).drew
        iterate 4 ((first | (refine plan_calm (v := ?_) Lime.getop_ (by rfl) (fun W hW => ?_) ?_; rotate_left; (focus (exact Lime.calm_))) | (refine plan_calm_skip Lime.getop_ (by rfl) ?_)); (try simp only [Act.put, List.setIfInBounds_toArray, List.set_cons_zero, List.set_cons_succ]))
        (first | (refine plan_calm (v := ?_) Lime.getop_ (by rfl) (fun W hW => ?_) ?_; rotate_left; (focus (have q0_ := (hS.trans hW).cell z0; have q1_ := (hS.trans hW).cell z1; clear hW; (exact Lime.calm_)))) | (refine plan_calm_skip Lime.getop_ (by rfl) ?_)); (try simp only [Act.put, List.setIfInBounds_toArray, List.set_cons_zero, List.set_cons_succ])
        iterate 4 ((first | (refine plan_calm (v := ?_) Lime.getop_ (by rfl) (fun W hW => ?_) ?_; rotate_left; (focus (exact Lime.calm_))) | (refine plan_calm_skip Lime.getop_ (by rfl) ?_)); (try simp only [Act.put, List.setIfInBounds_toArray, List.set_cons_zero, List.set_cons_succ]))
        (first | (refine plan_calm (v := ?_) Lime.getop_ (by rfl) (fun W hW => ?_) ?_; rotate_left; (focus (have q0_ := (hS.trans hW).cell z0; have q1_ := (hS.trans hW).cell z1; clear hW; (exact Lime.calm_)))) | (refine plan_calm_skip Lime.getop_ (by rfl) ?_)); (try simp only [Act.put, List.setIfInBounds_toArray, List.set_cons_zero, List.set_cons_succ])
        (first | (refine plan_calm (v := ?_) Lime.getop_ (by rfl) (fun W hW => ?_) ?_; rotate_left; (focus (exact Lime.calm_))) | (refine plan_calm_skip Lime.getop_ (by rfl) ?_)); (try simp only [Act.put, List.setIfInBounds_toArray, List.set_cons_zero, List.set_cons_succ])
        refine plan_done ?_
        obtain ⟨w3, hw3⟩ : ∃ w3, w2.drew = w3 := ⟨_, rfl⟩
        have hs3 : Stp w2 w3 := by rw [← hw3]; exact (Stp.refl w2).drew
        rw [hw3]
        clear hw3 hS
        have hh3 := hs3.heap hh
        obtain ⟨q0, f0⟩ := in_block hh3 0 _ rfl
        obtain ⟨q1, f1⟩ := in_block hh3 1 _ rfl
        obtain ⟨q2, f2⟩ := in_block hh3 2 _ rfl
        obtain ⟨q3, f3⟩ := in_block hh3 3 _ rfl
        obtain ⟨q4, f4⟩ := in_block hh3 4 _ rfl
        go_wp2_with (at_builtin; go_loud (refine wpl_append1 (d := visK) (S := fun b => w1.heap.size ≤ b) (T := fun _ => False) rfl (.tmp 37) (.tmp 39) 78 44 _ 40 rfl Tryz.underlying78 infoRV rfl (by decide) (by decide) (.slice Av ls.length cv) ls ⟨⟨n, g, r⟩, 1, true⟩ [.int .i64 n, .int .i64 g, .int .i64 r, .int .i64 1, .bool true] rfl (by first | (go_simp; done) | (go_simp; rfl)) rfl (fun _ h => h.elim) (hO.stp Lime.stp_) (fun k hk => Nat.le_trans (Stp.size (Stp.trans hst Lime.stp_)) hk) hll.out ?_; intro v9 w9 ho9 hg9; have hst9 : Stp w1 w9 := Stp.grown (Stp.trans hst Lime.stp_) hg9 hO.blk; obtain ⟨A9, c9, e9⟩ : ∃ A1 c1, v9 = .slice A1 (ls ++ [(⟨⟨n, g, r⟩, 1, true⟩ : Vis)]).length c1 := ho9.reads.slice; subst e9))
        go_roundw
        case rel => exact ⟨(j : Int) - 1, k + 1, by go_num, by omega, by omega, by rw [hx0.out]; simpa using ho9, hst9⟩
        case measure => simp [intOf]
    · obtain rfl : i = -1 := by omega
      have hk : k = p.length := by omega
      subst hk
      have hm : (p.reverse.take p.length).map (visOf · 1) = p.reverse.map (visOf · 1) := by rw [List.take_of_length_le (by simp)]
      rw [hm] at hO
      have hl0 : (p.reverse.map (visOf · 1)).length = p.length := by simp
      have HR := Lib.hid (show visL p bub = p.reverse.map (visOf · 1) ++ (p.map (visOf · 3)).filter (fun x => bub || x.phase == 2) from rfl)
      generalize p.reverse.map (visOf · 1) = l0 at hO HR hl0
      obtain ⟨Av, cv, rfl, _⟩ := hO.reads.form
      have hst1 := Lib.hid hst
      clear hm HA
      go_wp2_with fail
      go_loopw [5, 9] (fun s5 s9 W => ∃ (k : Nat), s9 = .int .i64 k ∧ k ≤ p.length ∧ Aside (Own visK 44 (fun b => w1.heap.size ≤ b) W s5 (l0 ++ ((p.take k).map (visOf · 3)).filter (fun x => bub || x.phase == 2)) ∧ Stp w1 W)) (fun _ s9 _ => p.length - (intOf s9).toNat)
      case atStart => exact ⟨0, rfl, Nat.zero_le _, by rw [← hl0]; simpa using hO, hst1.out⟩
      case round =>
        obtain ⟨k, rfl, hk, HB⟩ := hrel
        obtain ⟨hP, hst2⟩ := HB.out
        clear HB
        by_cases hlt : k < p.length
        · have hltz : (k : Int) < (p.length : Int) := by omega
          have hxk := List.take_succ_eq_append_getElem hlt
          have hfl := List.length_filter_le (fun x => bub || x.phase == 2) ((p.take k).map (visOf · 3))
          have hll := Lib.hid (show ((l0 ++ ((p.take k).map (visOf · 3)).filter (fun x => bub || x.phase == 2)).length + 1) * 40 ≤ 140737488355328 by rw [List.length_append]; rw [List.length_map, List.length_take] at hfl; omega)
          obtain ⟨b1, o1, rfl, _, _, y0, y1, y2⟩ := stp_at (r1.stp hst2) k hlt
          have x3 := hst2.cell x3w
          generalize p[k] = s at y0 y1 y2 hxk
          obtain ⟨n, g, r⟩ := s
          obtain ⟨x, hx⟩ : ∃ x, visOf ⟨n, g, r⟩ 3 = x := ⟨_, rfl⟩
          have hx0 := Lib.hid (show l0 ++ ((p.take (k + 1)).map (visOf · 3)).filter (fun x => bub || x.phase == 2) = (l0 ++ ((p.take k).map (visOf · 3)).filter (fun x => bub || x.phase == 2)) ++ (if (bub || x.phase == 2) = true then [x] else []) by
            rw [hxk, List.map_append, List.filter_append, List.append_assoc, List.map_cons, List.map_nil, hx, List.filter_cons, List.filter_nil])
          generalize l0 ++ ((p.take k).map (visOf · 3)).filter (fun x => bub || x.phase == 2) = ls at hP hll hx0
          obtain ⟨Bv, dv, rfl, _⟩ := hP.reads.form
          clear hxk hfl
          by_cases hng : n = g
          · have hnb : (n == g) = true := by simpa using hng
            obtain rfl : x = ⟨⟨n, g, r⟩, 2, false⟩ := by rw [← hx]; simp [visOf, hng]
            clear hng hx
            go_wp2_with fail
            refine wp_region_plan (Plan.calm 0 (Plan.calm 1 (Plan.calm 2 (Plan.calm 3 (Plan.calm 4 (Plan.calm 5 (Plan.calm 6 (Plan.calm 7 (Plan.calm 8 (Plan.calm 9 (Plan.calm 10 Plan.done))))))))))) (by kernel_rfl) (by kernel_rfl) (by kernel_rfl) ?_
            have hS : Stp wr wr.drew := (Stp.refl _).drew
            iterate 4 ((first | (refine plan_calm (v := ?_) Lime.getop_ (by rfl) (fun W hW => ?_) ?_; rotate_left; (focus (exact Lime.calm_))) | (refine plan_calm_skip Lime.getop_ (by rfl) ?_)); (try simp only [Act.put, List.setIfInBounds_toArray, List.set_cons_zero, List.set_cons_succ]))
            (first | (refine plan_calm (v := ?_) Lime.getop_ (by rfl) (fun W hW => ?_) ?_; rotate_left; (focus (have q0_ := (hS.trans hW).cell y0; have q1_ := (hS.trans hW).cell y1; clear hW; (exact Lime.calm_)))) | (refine plan_calm_skip Lime.getop_ (by rfl) ?_)); (try simp only [Act.put, List.setIfInBounds_toArray, List.set_cons_zero, List.set_cons_succ])
            iterate 4 ((first | (refine plan_calm (v := ?_) Lime.getop_ (by rfl) (fun W hW => ?_) ?_; rotate_left; (focus (exact Lime.calm_))) | (refine plan_calm_skip Lime.getop_ (by rfl) ?_)); (try simp only [Act.put, List.setIfInBounds_toArray, List.set_cons_zero, List.set_cons_succ]))
            (first | (refine plan_calm (v := ?_) Lime.getop_ (by rfl) (fun W hW => ?_) ?_; rotate_left; (focus (have q0_ := (hS.trans hW).cell y0; have q1_ := (hS.trans hW).cell y1; clear hW; (exact Lime.calm_)))) | (refine plan_calm_skip Lime.getop_ (by rfl) ?_)); (try simp only [Act.put, List.setIfInBounds_toArray, List.set_cons_zero, List.set_cons_succ])
            (first | (refine plan_calm (v := ?_) Lime.getop_ (by rfl) (fun W hW => ?_) ?_; rotate_left; (focus (exact Lime.calm_))) | (refine plan_calm_skip Lime.getop_ (by rfl) ?_)); (try simp only [Act.put, List.setIfInBounds_toArray, List.set_cons_zero, List.set_cons_succ])
            refine plan_done ?_
            obtain ⟨w3, hw3⟩ : ∃ w3, wr.drew = w3 := ⟨_, rfl⟩
            have hs3 : Stp wr w3 := by rw [← hw3]; exact (Stp.refl wr).drew
            rw [hw3]
            clear hw3 hS
            have z0 := hs3.cell y0
            have z1 := hs3.cell y1
            have z2 := hs3.cell y2
            have z3 := hs3.cell x3
            clear y0 y1 y2 x3
            go_wp2_with (at_builtin; go_loud (refine wpl_append1 (d := visK) (S := fun b => w1.heap.size ≤ b) (T := fun _ => False) rfl (.tmp 58) (.tmp 64) 78 44 _ 40 rfl Tryz.underlying78 infoRV rfl (by decide) (by decide) (.slice Bv ls.length dv) ls ⟨⟨n, g, r⟩, 2, false⟩ [.int .i64 n, .int .i64 g, .int .i64 r, .int .i64 2, .bool false] rfl (by first | (go_simp; done) | (go_simp; rfl)) rfl (fun _ h => h.elim) (hP.stp Lime.stp_) (fun k hk => Nat.le_trans (Stp.size (Stp.trans hst2 Lime.stp_)) hk) hll.out ?_; intro v9 w9 ho9 hg9; have hst9 : Stp w1 w9 := Stp.grown (Stp.trans hst2 Lime.stp_) hg9 hP.blk; obtain ⟨A9, c9, e9⟩ : ∃ A1 c1, v9 = .slice A1 (ls ++ [(⟨⟨n, g, r⟩, 2, false⟩ : Vis)]).length c1 := ho9.reads.slice; subst e9))
            go_roundw
            case rel => exact ⟨k + 1, by go_num, hlt, by rw [hx0.out]; simpa using ho9, hst9⟩
            case measure => simp [intOf]; omega
          · have hnb : (n == g) = false := by simpa using hng
            obtain rfl : x = ⟨⟨n, g, r⟩, 3, false⟩ := by rw [← hx]; simp [visOf, hng]
            clear hng hx
            cases bub with
            | true =>
              go_wp2_with fail
              refine wp_region_plan (Plan.calm 0 (Plan.calm 1 (Plan.calm 2 (Plan.calm 3 (Plan.calm 4 (Plan.calm 5 (Plan.calm 6 (Plan.calm 7 (Plan.calm 8 (Plan.calm 9 (Plan.calm 10 Plan.done))))))))))) (by kernel_rfl) (by kernel_rfl) (by kernel_rfl) ?_
              have hS : Stp wr wr.drew := (Stp.refl _).drew
              iterate 4 ((first | (refine plan_calm (v := ?_) Lime.getop_ (by rfl) (fun W hW => ?_) ?_; rotate_left; (focus (exact Lime.calm_))) | (refine plan_calm_skip Lime.getop_ (by rfl) ?_)); (try simp only [Act.put, List.setIfInBounds_toArray, List.set_cons_zero, List.set_cons_succ]))
              (first | (refine plan_calm (v := ?_) Lime.getop_ (by rfl) (fun W hW => ?_) ?_; rotate_left; (focus (have q0_ := (hS.trans hW).cell y0; have q1_ := (hS.trans hW).cell y1; clear hW; (exact Lime.calm_)))) | (refine plan_calm_skip Lime.getop_ (by rfl) ?_)); (try simp only [Act.put, List.setIfInBounds_toArray, List.set_cons_zero, List.set_cons_succ])
              iterate 4 ((first | (refine plan_calm (v := ?_) Lime.getop_ (by rfl) (fun W hW => ?_) ?_; rotate_left; (focus (exact Lime.calm_))) | (refine plan_calm_skip Lime.getop_ (by rfl) ?_)); (try simp only [Act.put, List.setIfInBounds_toArray, List.set_cons_zero, List.set_cons_succ]))
              (first | (refine plan_calm (v := ?_) Lime.getop_ (by rfl) (fun W hW => ?_) ?_; rotate_left; (focus (have q0_ := (hS.trans hW).cell y0; have q1_ := (hS.trans hW).cell y1; clear hW; (exact Lime.calm_)))) | (refine plan_calm_skip Lime.getop_ (by rfl) ?_)); (try simp only [Act.put, List.setIfInBounds_toArray, List.set_cons_zero, List.set_cons_succ])
              (first | (refine plan_calm (v := ?_) Lime.getop_ (by rfl) (fun W hW => ?_) ?_; rotate_left; (focus (exact Lime.calm_))) | (refine plan_calm_skip Lime.getop_ (by rfl) ?_)); (try simp only [Act.put, List.setIfInBounds_toArray, List.set_cons_zero, List.set_cons_succ])
              refine plan_done ?_
              obtain ⟨w3, hw3⟩ : ∃ w3, wr.drew = w3 := ⟨_, rfl⟩
              have hs3 : Stp wr w3 := by rw [← hw3]; exact (Stp.refl wr).drew
              rw [hw3]
              clear hw3 hS
              have z0 := hs3.cell y0
              have z1 := hs3.cell y1
              have z2 := hs3.cell y2
              have z3 := hs3.cell x3
              clear y0 y1 y2 x3
              go_wp2_with (at_builtin; go_loud (refine wpl_append1 (d := visK) (S := fun b => w1.heap.size ≤ b) (T := fun _ => False) rfl (.tmp 68) (.tmp 74) 78 44 _ 40 rfl Tryz.underlying78 infoRV rfl (by decide) (by decide) (.slice Bv ls.length dv) ls ⟨⟨n, g, r⟩, 3, false⟩ [.int .i64 n, .int .i64 g, .int .i64 r, .int .i64 3, .bool false] rfl (by first | (go_simp; done) | (go_simp; rfl)) rfl (fun _ h => h.elim) (hP.stp Lime.stp_) (fun k hk => Nat.le_trans (Stp.size (Stp.trans hst2 Lime.stp_)) hk) hll.out ?_; intro v9 w9 ho9 hg9; have hst9 : Stp w1 w9 := Stp.grown (Stp.trans hst2 Lime.stp_) hg9 hP.blk; obtain ⟨A9, c9, e9⟩ : ∃ A1 c1, v9 = .slice A1 (ls ++ [(⟨⟨n, g, r⟩, 3, false⟩ : Vis)]).length c1 := ho9.reads.slice; subst e9))
              go_roundw
              case rel => exact ⟨k + 1, by go_num, hlt, by rw [hx0.out]; simpa using ho9, hst9⟩
              case measure => simp [intOf]; omega
            | false =>
              go_wp2_with fail
              refine wp_region_plan (Plan.calm 0 (Plan.calm 1 (Plan.calm 2 (Plan.calm 3 (Plan.calm 4 (Plan.calm 5 (Plan.calm 6 (Plan.calm 7 (Plan.calm 8 (Plan.calm 9 (Plan.calm 10 Plan.done))))))))))) (by kernel_rfl) (by kernel_rfl) (by kernel_rfl) ?_
              have hS : Stp wr wr.drew := (Stp.refl _).drew
              iterate 4 ((first | (refine plan_calm (v := ?_) Lime.getop_ (by rfl) (fun W hW => ?_) ?_; rotate_left; (focus (exact Lime.calm_))) | (refine plan_calm_skip Lime.getop_ (by rfl) ?_)); (try simp only [Act.put, List.setIfInBounds_toArray, List.set_cons_zero, List.set_cons_succ]))
              (first | (refine plan_calm (v := ?_) Lime.getop_ (by rfl) (fun W hW => ?_) ?_; rotate_left; (focus (have q0_ := (hS.trans hW).cell y0; have q1_ := (hS.trans hW).cell y1; clear hW; (exact Lime.calm_)))) | (refine plan_calm_skip Lime.getop_ (by rfl) ?_)); (try simp only [Act.put, List.setIfInBounds_toArray, List.set_cons_zero, List.set_cons_succ])
              iterate 4 ((first | (refine plan_calm (v := ?_) Lime.getop_ (by rfl) (fun W hW => ?_) ?_; rotate_left; (focus (exact Lime.calm_))) | (refine plan_calm_skip Lime.getop_ (by rfl) ?_)); (try simp only [Act.put, List.setIfInBounds_toArray, List.set_cons_zero, List.set_cons_succ]))
              (first | (refine plan_calm (v := ?_) Lime.getop_ (by rfl) (fun W hW => ?_) ?_; rotate_left; (focus (have q0_ := (hS.trans hW).cell y0; have q1_ := (hS.trans hW).cell y1; clear hW; (exact Lime.calm_)))) | (refine plan_calm_skip Lime.getop_ (by rfl) ?_)); (try simp only [Act.put, List.setIfInBounds_toArray, List.set_cons_zero, List.set_cons_succ])
              (first | (refine plan_calm (v := ?_) Lime.getop_ (by rfl) (fun W hW => ?_) ?_; rotate_left; (focus (exact Lime.calm_))) | (refine plan_calm_skip Lime.getop_ (by rfl) ?_)); (try simp only [Act.put, List.setIfInBounds_toArray, List.set_cons_zero, List.set_cons_succ])
              refine plan_done ?_
              obtain ⟨w3, hw3⟩ : ∃ w3, wr.drew = w3 := ⟨_, rfl⟩
              have hs3 : Stp wr w3 := by rw [← hw3]; exact (Stp.refl wr).drew
              rw [hw3]
              clear hw3 hS
              have z0 := hs3.cell y0
              have z1 := hs3.cell y1
              have z2 := hs3.cell y2
              have z3 := hs3.cell x3
              clear y0 y1 y2 x3
              go_wp2_with fail
              go_roundw
              case rel => exact ⟨k + 1, by go_num, hlt, by rw [hx0.out]; simpa using hP.stp Lime.stp_, hst2.trans Lime.stp_⟩
              case measure => simp [intOf]; omega
        · have hltz : ¬ (k : Int) < (p.length : Int) := by omega
          obtain rfl : k = p.length := by omega
          rw [List.take_of_length_le (Nat.le_refl _), ← HR.out] at hP
          obtain ⟨Bv, dv, rfl, _⟩ := hP.reads.form
          go_wp2_with fail
          go_ret
          exact ⟨_, rfl, hP.mono fun k hk _ => Nat.le_trans hs1.size hk, hs1.trans hst2⟩
end Go.Proofs.Lime
