/- Walks: the document's words for nodes. Walks: the document's words for nodes: counts, steps up, attributes. Walks: the document's words for nodes: kids, shadows, ends. Walks: the document's words for nodes: shadows, ends. -/
import Derived.Test.YtaggmjnpocndkaaGreatMA
namespace Go.Proofs.Lime
open Go.RowKit
set_option linter.unusedVariables false
set_option linter.unusedSimpArgs false

theorem isR_c (w : World) (A : Option Addr) (t : List Nd) (c : Nat) (n : Int) : Calls Tryz.prog 42 #[.slice A t.length c, .int .i64 n] w fun e w' => e = .returned (.bool (isN t n)) ∧ Stp w w' := by
  go_enter Tryz.func42, Tryz.ntmps42
  go_wp2
  all_goals
    go_ret
    exact ⟨ret_bool (by grind [isN]), by (exact Lime.stp_)⟩
theorem rvalue_c (w : World) (n v : Int) : Calls Tryz.prog 91 #[.int .i64 n, .int .i64 v] w fun e w' => e = .returned (.bool (valueOk n v)) ∧ Stp w w' := by
  go_enter Tryz.func91, Tryz.ntmps91
  go_wp2
  all_goals
    go_ret
    exact ⟨ret_bool (by grind [valueOk]), by (exact Lime.stp_)⟩
theorem rattr_c (w : World) (k : Int) (a : Attr) : Calls Tryz.prog 73 #[.int .i64 k, a.val] w fun e w' => e = .returned (.bool (attrOk k a)) ∧ Stp w w' := by
  go_enter Tryz.func73, Tryz.ntmps73
  go_wp2_with ((go_at_call 91; refine (rvalue_c _ _ _).mono ?_; rintro e w1 ⟨rfl, hb1⟩; obtain ⟨hc1, hf1⟩ := hb1.bc; have hz1 := hb1.size; (try simp only [World.size_alloc] at hz1 hc1 hf1)))
  all_goals
    go_ret
    exact ⟨ret_bool (by grind [attrOk]), by (exact Lime.stp_)⟩
theorem rkind_c (w : World) (x : Nd) (vk va : Value) (n : Int) : Calls Tryz.prog 52 #[x.val vk va, .int .i64 n] w fun e w' => e = .returned (.bool (kindOk x n)) ∧ Stp w w' := by
  go_enter Tryz.func52, Tryz.ntmps52
  go_wp2
  all_goals
    go_ret
    exact ⟨ret_bool (by grind [kindOk]), by (exact Lime.stp_)⟩
end Go.Proofs.Lime
namespace Go.Proofs.Lime
open Go.RowKit
set_option linter.unusedVariables false
set_option linter.unusedSimpArgs false

theorem count_take {xs : List Int} {k : Nat} (h : k < xs.length) (n : Int) : (xs.take (k + 1)).count n = (xs.take k).count n + (if xs[k] = n then 1 else 0) := by
  rw [List.take_succ_eq_append_getElem h, List.count_append]
  simp [List.count_cons]
theorem rcount_c {S : Nat → Prop} {w : World} {v : Value} {xs : List Int} (hr : Row intK S w v xs) (n : Int) :
    Calls Tryz.prog 74 #[v, .int .i64 n] w fun e w' => e = .returned (.int .i64 (xs.count n : Nat)) ∧ Stp w w' := by
  obtain ⟨A, c, rfl, hc, hm⟩ := hr.form
  go_enter Tryz.func74, Tryz.ntmps74
  go_wp2
  go_loopg [5, 6] xs.length (fun gg s5 s6 wr => ∃ k cn : Nat, k ≤ xs.length ∧ xs.length - k ≤ gg ∧ s6 = .int .i64 k ∧ s5 = .int .i64 cn ∧ cn ≤ k ∧ Stp w wr ∧ Aside ((xs.take k).count n = cn))
  case atStart => exact ⟨0, 0, Nat.zero_le _, by omega, rfl, rfl, Nat.le_refl _, Stp.refl w, rfl⟩
  case round =>
    obtain ⟨k, cn, hk, hg, rfl, rfl, hcn, hb, A1⟩ := hrel
    by_cases hlt : k < xs.length
    · have hltz : (k : Int) < (xs.length : Int) := by omega
      obtain ⟨b, o, rfl, hS, hbw, x0⟩ := int_at (hr.stp hb) k hlt
      have B := Lib.hid (count_take hlt n)
      generalize xs[k] = y at x0 B
      go_wp2
      · have h1 : y = n := by grind
        go_roundg (xs.length - (k + 1))
        case measure => omega
        case rel => exact ⟨k + 1, cn + 1, by omega, by omega, by go_num, by go_num, by omega, by (exact Lime.stp_), by rw [B.out, A1.out, if_pos h1]; rfl⟩
      · have h1 : ¬ y = n := by grind
        go_roundg (xs.length - (k + 1))
        case measure => omega
        case rel => exact ⟨k + 1, cn, by omega, by omega, by go_num, rfl, by omega, by (exact Lime.stp_), by rw [B.out, A1.out, if_neg h1]; rfl⟩
    · have hltz : ¬ (k : Int) < (xs.length : Int) := by omega
      go_wp2
      go_ret
      exact ⟨ret_int (by rw [← A1.out, List.take_of_length_le (by omega)]), hb⟩

theorem rup_c {S : Nat → Prop} {w : World} {v : Value} {t : List Nd} (hr : Row nodeK S w v t) {k : Nat} (hk : k < t.length) :
    Calls Tryz.prog 75 #[v, .int .i64 k] w fun e w' => e = .returned (.int .i64 (upN t k)) ∧ Stp w w' := by
  obtain ⟨A, c, rfl, hc, hm⟩ := hr.form
  obtain ⟨b, o, rfl, hS, hb, hN⟩ := tree_base hr (by omega)
  obtain ⟨Ak, ck, Aa, ca, N⟩ := hN k hk
  have hu : upN t k = if t[k].kind = 3 then t[k].host else t[k].parent := by rw [upN, nd_nat hk]
  rw [hu]
  generalize t[k] = x at N
  have x0 := N.c0
  have x2 := N.c2
  have x4 := N.c4
  have hkz : (k : Int) < (t.length : Int) := by omega
  clear hN N hu
  go_enter Tryz.func75, Tryz.ntmps75
  go_wp2
  all_goals
    go_ret
    exact ⟨ret_int (by grind), by (exact Lime.stp_)⟩

theorem attrsFrom_step {x : Nd} {k : Nat} (h : k < x.attrs.length) (last : Int) : attrsFrom x.kind last (x.attrs.drop k) = (attrOk x.kind x.attrs[k] && (decide (last < x.attrs[k].name) && attrsFrom x.kind x.attrs[k].name (x.attrs.drop (k + 1)))) := by
  rw [List.drop_eq_getElem_cons h, attrsFrom]
set_option maxHeartbeats 1000000 in
theorem rattrs_c {S : Nat → Prop} {w : World} {x : Nd} {Aa : Option Addr} {ca : Nat} (vk : Value) (hr : Row attrK S w (.slice Aa x.attrs.length ca) x.attrs) (h1 : x.attrs.length ≤ ca) (h2 : x.attrs.length ≤ 9223372036854775807) :
    Calls Tryz.prog 53 #[x.val vk (.slice Aa x.attrs.length ca)] w fun e w' => e = .returned (.bool (attrsOk x)) ∧ Stp w w' := by
  go_enter Tryz.func53, Tryz.ntmps53
  go_wp2
  obtain ⟨w0, hw0, hb0, hz0, gc⟩ := box_named w #[.int .i64 x.kind, .int .i64 x.tag, .int .i64 x.parent, vk, .int .i64 x.host, .int .i64 x.root, .slice Aa x.attrs.length ca] 51
  rw [hw0]
  have g0 := gc 0 _ rfl
  have g6 := gc 6 _ rfl
  clear hw0 gc
  have hr0 := hr.stp hb0
  go_loopg [3] x.attrs.length (fun gg s3 wr => ∃ (k : Nat) (last : Int), k ≤ x.attrs.length ∧ x.attrs.length - k ≤ gg ∧ s3 = .int .i64 k ∧ Stp w0 wr ∧ Aside (attrsFrom x.kind last (x.attrs.drop k) = attrsOk x) ∧ Aside ((k = 0 ∧ last = -1) ∨ (∃ m z, k = m + 1 ∧ x.attrs[m]? = some z ∧ z.name = last)))
  case atStart => exact ⟨0, -1, Nat.zero_le _, by omega, rfl, Stp.refl w0, rfl, .inl ⟨rfl, rfl⟩⟩
  case round =>
    obtain ⟨k, last, hk, hg, rfl, hb, A1, A2⟩ := hrel
    replace g0 := hb.cell g0
    replace g6 := hb.cell g6
    by_cases hlt : k < x.attrs.length
    · have hltz : (k : Int) < (x.attrs.length : Int) := by omega
      obtain ⟨b, o, rfl, hS, hbw, x0, x1⟩ := attr_at (hr0.stp hb) k hlt
      have B := Lib.hid (attrsFrom_step hlt last)
      generalize hy : x.attrs[k] = y at x0 x1 B
      have HY := Lib.hid hy
      clear hy
      cases ha : attrOk x.kind y with
      | false =>
        have ca := fun W => rattr_c W x.kind y
        rw [ha] at ca
        go_wp2_with fail
        refine wp_region_plan (Plan.calm 0 (Plan.calm 1 (Plan.calm 2 (Plan.calm 3 (Plan.calm 4 (Plan.calm 5 (Plan.calm 6 (Plan.alt 7 (Plan.calm 8 (Plan.calm 9 (Plan.calm 10 (Plan.calm 11 (Plan.calm 12 (Plan.calm 13 (Plan.calm 14 (Plan.calm 15 (Plan.calm 16 (Plan.calm 17 (Plan.calm 18 (Plan.calm 19 (Plan.calm 20 (Plan.calm 21 (Plan.calm 22 (Plan.calm 23 (Plan.calm 24 (Plan.calm 25 (Plan.calm 26 (Plan.calm 27 (Plan.calm 28 Plan.done))))))))))))))))))))) Plan.stop)))))))) (by kernel_rfl) (by kernel_rfl) (by kernel_rfl) ?_
        have hS : Stp wr wr.drew := (Stp.refl _).drew
        (first | (refine plan_calm (v := ?_) Lime.getop_ (by rfl) (fun W hW => ?_) ?_; rotate_left; (focus (exact Lime.calm_))) | (refine plan_calm_skip Lime.getop_ (by rfl) ?_)); (try simp only [Act.put, List.setIfInBounds_toArray, List.set_cons_zero, List.set_cons_succ])
        (first | (refine plan_calm (v := ?_) Lime.getop_ (by rfl) (fun W hW => ?_) ?_; rotate_left; (focus (have q0_ := (hS.trans hW).cell g0; have q1_ := (hS.trans hW).cell g6; have q2_ := (hS.trans hW).cell x0; have q3_ := (hS.trans hW).cell x1; clear hW; (exact Lime.calm_)))) | (refine plan_calm_skip Lime.getop_ (by rfl) ?_)); (try simp only [Act.put, List.setIfInBounds_toArray, List.set_cons_zero, List.set_cons_succ])
        (first | (refine plan_calm (v := ?_) Lime.getop_ (by rfl) (fun W hW => ?_) ?_; rotate_left; (focus (exact Lime.calm_))) | (refine plan_calm_skip Lime.getop_ (by rfl) ?_)); (try simp only [Act.put, List.setIfInBounds_toArray, List.set_cons_zero, List.set_cons_succ])
        (first | (refine plan_calm (v := ?_) Lime.getop_ (by rfl) (fun W hW => ?_) ?_; rotate_left; (focus (have q0_ := (hS.trans hW).cell g0; have q1_ := (hS.trans hW).cell g6; have q2_ := (hS.trans hW).cell x0; have q3_ := (hS.trans hW).cell x1; clear hW; (exact Lime.calm_)))) | (refine plan_calm_skip Lime.getop_ (by rfl) ?_)); (try simp only [Act.put, List.setIfInBounds_toArray, List.set_cons_zero, List.set_cons_succ])
        iterate 2 ((first | (refine plan_calm (v := ?_) Lime.getop_ (by rfl) (fun W hW => ?_) ?_; rotate_left; (focus (exact Lime.calm_))) | (refine plan_calm_skip Lime.getop_ (by rfl) ?_)); (try simp only [Act.put, List.setIfInBounds_toArray, List.set_cons_zero, List.set_cons_succ]))
        (first | (refine plan_calm (v := ?_) Lime.getop_ (by rfl) (fun W hW => ?_) ?_; rotate_left; (focus (have q0_ := (hS.trans hW).cell g0; have q1_ := (hS.trans hW).cell g6; have q2_ := (hS.trans hW).cell x0; have q3_ := (hS.trans hW).cell x1; clear hW; (exact Lime.calm_)))) | (refine plan_calm_skip Lime.getop_ (by rfl) ?_)); (try simp only [Act.put, List.setIfInBounds_toArray, List.set_cons_zero, List.set_cons_succ])
        (first | (refine plan_event Lime.getop_ (by rfl) (fun K hK => ?_) plan_stop; go_simp; refine (ca _).mono ?_; rintro e w2 ⟨rfl, hb2⟩; refine hK _ _ ?_ (fun hst => ?_); (focus (exact Lime.stp_)); replace hS := hS.trans hst; clear hst hK K) | refine plan_event_skip Lime.getop_ (by rfl) ?_ plan_stop); (try simp only [Act.put, List.setIfInBounds_toArray, List.set_cons_zero, List.set_cons_succ])
        iterate 6 ((first | (refine plan_calm (v := ?_) Lime.getop_ (by rfl) (fun W hW => ?_) ?_; rotate_left; (focus (exact Lime.calm_))) | (refine plan_calm_skip Lime.getop_ (by rfl) ?_)); (try simp only [Act.put, List.setIfInBounds_toArray, List.set_cons_zero, List.set_cons_succ]))
        (first | (refine plan_calm (v := ?_) Lime.getop_ (by rfl) (fun W hW => ?_) ?_; rotate_left; (focus (have q0_ := (hS.trans hW).cell g0; have q1_ := (hS.trans hW).cell g6; have q2_ := (hS.trans hW).cell x0; have q3_ := (hS.trans hW).cell x1; clear hW; (exact Lime.calm_)))) | (refine plan_calm_skip Lime.getop_ (by rfl) ?_)); (try simp only [Act.put, List.setIfInBounds_toArray, List.set_cons_zero, List.set_cons_succ])
        iterate 3 ((first | (refine plan_calm (v := ?_) Lime.getop_ (by rfl) (fun W hW => ?_) ?_; rotate_left; (focus (exact Lime.calm_))) | (refine plan_calm_skip Lime.getop_ (by rfl) ?_)); (try simp only [Act.put, List.setIfInBounds_toArray, List.set_cons_zero, List.set_cons_succ]))
        (first | (refine plan_calm (v := ?_) Lime.getop_ (by rfl) (fun W hW => ?_) ?_; rotate_left; (focus (have q0_ := (hS.trans hW).cell g0; have q1_ := (hS.trans hW).cell g6; have q2_ := (hS.trans hW).cell x0; have q3_ := (hS.trans hW).cell x1; clear hW; (exact Lime.calm_)))) | (refine plan_calm_skip Lime.getop_ (by rfl) ?_)); (try simp only [Act.put, List.setIfInBounds_toArray, List.set_cons_zero, List.set_cons_succ])
        (first | (refine plan_calm (v := ?_) Lime.getop_ (by rfl) (fun W hW => ?_) ?_; rotate_left; (focus (exact Lime.calm_))) | (refine plan_calm_skip Lime.getop_ (by rfl) ?_)); (try simp only [Act.put, List.setIfInBounds_toArray, List.set_cons_zero, List.set_cons_succ])
        (first | (refine plan_calm (v := ?_) Lime.getop_ (by rfl) (fun W hW => ?_) ?_; rotate_left; (focus (have q0_ := (hS.trans hW).cell g0; have q1_ := (hS.trans hW).cell g6; have q2_ := (hS.trans hW).cell x0; have q3_ := (hS.trans hW).cell x1; clear hW; (exact Lime.calm_)))) | (refine plan_calm_skip Lime.getop_ (by rfl) ?_)); (try simp only [Act.put, List.setIfInBounds_toArray, List.set_cons_zero, List.set_cons_succ])
        iterate 4 ((first | (refine plan_calm (v := ?_) Lime.getop_ (by rfl) (fun W hW => ?_) ?_; rotate_left; (focus (exact Lime.calm_))) | (refine plan_calm_skip Lime.getop_ (by rfl) ?_)); (try simp only [Act.put, List.setIfInBounds_toArray, List.set_cons_zero, List.set_cons_succ]))
        (first | (refine plan_calm (v := ?_) Lime.getop_ (by rfl) (fun W hW => ?_) ?_; rotate_left; (focus (have q0_ := (hS.trans hW).cell g0; have q1_ := (hS.trans hW).cell g6; have q2_ := (hS.trans hW).cell x0; have q3_ := (hS.trans hW).cell x1; clear hW; (exact Lime.calm_)))) | (refine plan_calm_skip Lime.getop_ (by rfl) ?_)); (try simp only [Act.put, List.setIfInBounds_toArray, List.set_cons_zero, List.set_cons_succ])
        iterate 3 ((first | (refine plan_calm (v := ?_) Lime.getop_ (by rfl) (fun W hW => ?_) ?_; rotate_left; (focus (exact Lime.calm_))) | (refine plan_calm_skip Lime.getop_ (by rfl) ?_)); (try simp only [Act.put, List.setIfInBounds_toArray, List.set_cons_zero, List.set_cons_succ]))
        refine plan_done ?_
        go_wp2
        go_ret
        exact ⟨ret_bool (by rw [← A1.out, B.out, ha]; rfl), by (exact Lime.stp_)⟩
      | true =>
        have ca := fun W => rattr_c W x.kind y
        rw [ha] at ca
        rcases A2.out with ⟨hk0, hl0⟩ | ⟨m, z, hk1, hk2, rfl⟩
        · have hn : Aside ((-1 : Int) < y.name) := by show (-1 : Int) < y.name; grind [attrOk]
          have hkz : ((0 : Int) < (k : Int)) = False := by simp [hk0]
          have hkn : (0 < k) = False := by simp [hk0]
          clear A2 hk0
          go_wp2_with fail
          refine wp_region_plan (Plan.calm 0 (Plan.calm 1 (Plan.calm 2 (Plan.calm 3 (Plan.calm 4 (Plan.calm 5 (Plan.calm 6 (Plan.alt 7 (Plan.calm 8 (Plan.calm 9 (Plan.calm 10 (Plan.calm 11 (Plan.calm 12 (Plan.calm 13 (Plan.calm 14 (Plan.calm 15 (Plan.calm 16 (Plan.calm 17 (Plan.calm 18 (Plan.calm 19 (Plan.calm 20 (Plan.calm 21 (Plan.calm 22 (Plan.calm 23 (Plan.calm 24 (Plan.calm 25 (Plan.calm 26 (Plan.calm 27 (Plan.calm 28 Plan.done))))))))))))))))))))) Plan.stop)))))))) (by kernel_rfl) (by kernel_rfl) (by kernel_rfl) ?_
          have hS : Stp wr wr.drew := (Stp.refl _).drew
          (first | (refine plan_calm (v := ?_) Lime.getop_ (by rfl) (fun W hW => ?_) ?_; rotate_left; (focus (exact Lime.calm_))) | (refine plan_calm_skip Lime.getop_ (by rfl) ?_)); (try simp only [Act.put, List.setIfInBounds_toArray, List.set_cons_zero, List.set_cons_succ])
          (first | (refine plan_calm (v := ?_) Lime.getop_ (by rfl) (fun W hW => ?_) ?_; rotate_left; (focus (have q0_ := (hS.trans hW).cell g0; have q1_ := (hS.trans hW).cell g6; have q2_ := (hS.trans hW).cell x0; have q3_ := (hS.trans hW).cell x1; clear hW; (exact Lime.calm_)))) | (refine plan_calm_skip Lime.getop_ (by rfl) ?_)); (try simp only [Act.put, List.setIfInBounds_toArray, List.set_cons_zero, List.set_cons_succ])
          (first | (refine plan_calm (v := ?_) Lime.getop_ (by rfl) (fun W hW => ?_) ?_; rotate_left; (focus (exact Lime.calm_))) | (refine plan_calm_skip Lime.getop_ (by rfl) ?_)); (try simp only [Act.put, List.setIfInBounds_toArray, List.set_cons_zero, List.set_cons_succ])
          (first | (refine plan_calm (v := ?_) Lime.getop_ (by rfl) (fun W hW => ?_) ?_; rotate_left; (focus (have q0_ := (hS.trans hW).cell g0; have q1_ := (hS.trans hW).cell g6; have q2_ := (hS.trans hW).cell x0; have q3_ := (hS.trans hW).cell x1; clear hW; (exact Lime.calm_)))) | (refine plan_calm_skip Lime.getop_ (by rfl) ?_)); (try simp only [Act.put, List.setIfInBounds_toArray, List.set_cons_zero, List.set_cons_succ])
          iterate 2 ((first | (refine plan_calm (v := ?_) Lime.getop_ (by rfl) (fun W hW => ?_) ?_; rotate_left; (focus (exact Lime.calm_))) | (refine plan_calm_skip Lime.getop_ (by rfl) ?_)); (try simp only [Act.put, List.setIfInBounds_toArray, List.set_cons_zero, List.set_cons_succ]))
          (first | (refine plan_calm (v := ?_) Lime.getop_ (by rfl) (fun W hW => ?_) ?_; rotate_left; (focus (have q0_ := (hS.trans hW).cell g0; have q1_ := (hS.trans hW).cell g6; have q2_ := (hS.trans hW).cell x0; have q3_ := (hS.trans hW).cell x1; clear hW; (exact Lime.calm_)))) | (refine plan_calm_skip Lime.getop_ (by rfl) ?_)); (try simp only [Act.put, List.setIfInBounds_toArray, List.set_cons_zero, List.set_cons_succ])
          (first | (refine plan_event Lime.getop_ (by rfl) (fun K hK => ?_) plan_stop; go_simp; refine (ca _).mono ?_; rintro e w2 ⟨rfl, hb2⟩; refine hK _ _ ?_ (fun hst => ?_); (focus (exact Lime.stp_)); replace hS := hS.trans hst; clear hst hK K) | refine plan_event_skip Lime.getop_ (by rfl) ?_ plan_stop); (try simp only [Act.put, List.setIfInBounds_toArray, List.set_cons_zero, List.set_cons_succ])
          iterate 6 ((first | (refine plan_calm (v := ?_) Lime.getop_ (by rfl) (fun W hW => ?_) ?_; rotate_left; (focus (exact Lime.calm_))) | (refine plan_calm_skip Lime.getop_ (by rfl) ?_)); (try simp only [Act.put, List.setIfInBounds_toArray, List.set_cons_zero, List.set_cons_succ]))
          (first | (refine plan_calm (v := ?_) Lime.getop_ (by rfl) (fun W hW => ?_) ?_; rotate_left; (focus (have q0_ := (hS.trans hW).cell g0; have q1_ := (hS.trans hW).cell g6; have q2_ := (hS.trans hW).cell x0; have q3_ := (hS.trans hW).cell x1; clear hW; (exact Lime.calm_)))) | (refine plan_calm_skip Lime.getop_ (by rfl) ?_)); (try simp only [Act.put, List.setIfInBounds_toArray, List.set_cons_zero, List.set_cons_succ])
          iterate 3 ((first | (refine plan_calm (v := ?_) Lime.getop_ (by rfl) (fun W hW => ?_) ?_; rotate_left; (focus (exact Lime.calm_))) | (refine plan_calm_skip Lime.getop_ (by rfl) ?_)); (try simp only [Act.put, List.setIfInBounds_toArray, List.set_cons_zero, List.set_cons_succ]))
          (first | (refine plan_calm (v := ?_) Lime.getop_ (by rfl) (fun W hW => ?_) ?_; rotate_left; (focus (have q0_ := (hS.trans hW).cell g0; have q1_ := (hS.trans hW).cell g6; have q2_ := (hS.trans hW).cell x0; have q3_ := (hS.trans hW).cell x1; clear hW; (exact Lime.calm_)))) | (refine plan_calm_skip Lime.getop_ (by rfl) ?_)); (try simp only [Act.put, List.setIfInBounds_toArray, List.set_cons_zero, List.set_cons_succ])
          (first | (refine plan_calm (v := ?_) Lime.getop_ (by rfl) (fun W hW => ?_) ?_; rotate_left; (focus (exact Lime.calm_))) | (refine plan_calm_skip Lime.getop_ (by rfl) ?_)); (try simp only [Act.put, List.setIfInBounds_toArray, List.set_cons_zero, List.set_cons_succ])
          (first | (refine plan_calm (v := ?_) Lime.getop_ (by rfl) (fun W hW => ?_) ?_; rotate_left; (focus (have q0_ := (hS.trans hW).cell g0; have q1_ := (hS.trans hW).cell g6; have q2_ := (hS.trans hW).cell x0; have q3_ := (hS.trans hW).cell x1; clear hW; (exact Lime.calm_)))) | (refine plan_calm_skip Lime.getop_ (by rfl) ?_)); (try simp only [Act.put, List.setIfInBounds_toArray, List.set_cons_zero, List.set_cons_succ])
          iterate 4 ((first | (refine plan_calm (v := ?_) Lime.getop_ (by rfl) (fun W hW => ?_) ?_; rotate_left; (focus (exact Lime.calm_))) | (refine plan_calm_skip Lime.getop_ (by rfl) ?_)); (try simp only [Act.put, List.setIfInBounds_toArray, List.set_cons_zero, List.set_cons_succ]))
          (first | (refine plan_calm (v := ?_) Lime.getop_ (by rfl) (fun W hW => ?_) ?_; rotate_left; (focus (have q0_ := (hS.trans hW).cell g0; have q1_ := (hS.trans hW).cell g6; have q2_ := (hS.trans hW).cell x0; have q3_ := (hS.trans hW).cell x1; clear hW; (exact Lime.calm_)))) | (refine plan_calm_skip Lime.getop_ (by rfl) ?_)); (try simp only [Act.put, List.setIfInBounds_toArray, List.set_cons_zero, List.set_cons_succ])
          iterate 3 ((first | (refine plan_calm (v := ?_) Lime.getop_ (by rfl) (fun W hW => ?_) ?_; rotate_left; (focus (exact Lime.calm_))) | (refine plan_calm_skip Lime.getop_ (by rfl) ?_)); (try simp only [Act.put, List.setIfInBounds_toArray, List.set_cons_zero, List.set_cons_succ]))
          refine plan_done ?_
          go_wp2
          go_roundg (x.attrs.length - (k + 1))
          case measure => omega
          case rel => exact ⟨k + 1, y.name, by omega, by omega, by go_num, by (exact Lime.stp_), by rw [← A1.out, B.out, ha, hl0]; simp [hn.out, Aside], .inr ⟨k, y, rfl, by rw [← HY.out]; exact List.getElem?_eq_getElem hlt, rfl⟩⟩
        · clear A2
          obtain ⟨hml', hz⟩ := List.getElem?_eq_some_iff.1 hk2
          have hkm : (k : Int) - 1 = (m : Int) := by omega
          have hml : (m : Int) < (x.attrs.length : Int) := by omega
          have hkz : ((0 : Int) < (k : Int)) = True := eq_true (by omega)
          have hkn : (0 < k) = True := eq_true (by omega)
          obtain ⟨b', o', e', _, _, y0, _⟩ := attr_at (hr0.stp hb) m (by omega)
          injection e' with e'
          injection e' with e1 e2
          subst e1 e2
          rw [hz] at y0
          clear hz hk2 hk1
          by_cases hle : y.name ≤ z.name
          · go_wp2_with fail
            refine wp_region_plan (Plan.calm 0 (Plan.calm 1 (Plan.calm 2 (Plan.calm 3 (Plan.calm 4 (Plan.calm 5 (Plan.calm 6 (Plan.alt 7 (Plan.calm 8 (Plan.calm 9 (Plan.calm 10 (Plan.calm 11 (Plan.calm 12 (Plan.calm 13 (Plan.calm 14 (Plan.calm 15 (Plan.calm 16 (Plan.calm 17 (Plan.calm 18 (Plan.calm 19 (Plan.calm 20 (Plan.calm 21 (Plan.calm 22 (Plan.calm 23 (Plan.calm 24 (Plan.calm 25 (Plan.calm 26 (Plan.calm 27 (Plan.calm 28 Plan.done))))))))))))))))))))) Plan.stop)))))))) (by kernel_rfl) (by kernel_rfl) (by kernel_rfl) ?_
            have hS : Stp wr wr.drew := (Stp.refl _).drew
            (first | (refine plan_calm (v := ?_) Lime.getop_ (by rfl) (fun W hW => ?_) ?_; rotate_left; (focus (exact Lime.calm_))) | (refine plan_calm_skip Lime.getop_ (by rfl) ?_)); (try simp only [Act.put, List.setIfInBounds_toArray, List.set_cons_zero, List.set_cons_succ])
            (first | (refine plan_calm (v := ?_) Lime.getop_ (by rfl) (fun W hW => ?_) ?_; rotate_left; (focus (have q0_ := (hS.trans hW).cell g0; have q1_ := (hS.trans hW).cell g6; have q2_ := (hS.trans hW).cell x0; have q3_ := (hS.trans hW).cell x1; have q4_ := (hS.trans hW).cell y0; clear hW; (exact Lime.calm_)))) | (refine plan_calm_skip Lime.getop_ (by rfl) ?_)); (try simp only [Act.put, List.setIfInBounds_toArray, List.set_cons_zero, List.set_cons_succ])
            (first | (refine plan_calm (v := ?_) Lime.getop_ (by rfl) (fun W hW => ?_) ?_; rotate_left; (focus (exact Lime.calm_))) | (refine plan_calm_skip Lime.getop_ (by rfl) ?_)); (try simp only [Act.put, List.setIfInBounds_toArray, List.set_cons_zero, List.set_cons_succ])
            (first | (refine plan_calm (v := ?_) Lime.getop_ (by rfl) (fun W hW => ?_) ?_; rotate_left; (focus (have q0_ := (hS.trans hW).cell g0; have q1_ := (hS.trans hW).cell g6; have q2_ := (hS.trans hW).cell x0; have q3_ := (hS.trans hW).cell x1; have q4_ := (hS.trans hW).cell y0; clear hW; (exact Lime.calm_)))) | (refine plan_calm_skip Lime.getop_ (by rfl) ?_)); (try simp only [Act.put, List.setIfInBounds_toArray, List.set_cons_zero, List.set_cons_succ])
            iterate 2 ((first | (refine plan_calm (v := ?_) Lime.getop_ (by rfl) (fun W hW => ?_) ?_; rotate_left; (focus (exact Lime.calm_))) | (refine plan_calm_skip Lime.getop_ (by rfl) ?_)); (try simp only [Act.put, List.setIfInBounds_toArray, List.set_cons_zero, List.set_cons_succ]))
            (first | (refine plan_calm (v := ?_) Lime.getop_ (by rfl) (fun W hW => ?_) ?_; rotate_left; (focus (have q0_ := (hS.trans hW).cell g0; have q1_ := (hS.trans hW).cell g6; have q2_ := (hS.trans hW).cell x0; have q3_ := (hS.trans hW).cell x1; have q4_ := (hS.trans hW).cell y0; clear hW; (exact Lime.calm_)))) | (refine plan_calm_skip Lime.getop_ (by rfl) ?_)); (try simp only [Act.put, List.setIfInBounds_toArray, List.set_cons_zero, List.set_cons_succ])
            (first | (refine plan_event Lime.getop_ (by rfl) (fun K hK => ?_) plan_stop; go_simp; refine (ca _).mono ?_; rintro e w2 ⟨rfl, hb2⟩; refine hK _ _ ?_ (fun hst => ?_); (focus (exact Lime.stp_)); replace hS := hS.trans hst; clear hst hK K) | refine plan_event_skip Lime.getop_ (by rfl) ?_ plan_stop); (try simp only [Act.put, List.setIfInBounds_toArray, List.set_cons_zero, List.set_cons_succ])
            iterate 6 ((first | (refine plan_calm (v := ?_) Lime.getop_ (by rfl) (fun W hW => ?_) ?_; rotate_left; (focus (exact Lime.calm_))) | (refine plan_calm_skip Lime.getop_ (by rfl) ?_)); (try simp only [Act.put, List.setIfInBounds_toArray, List.set_cons_zero, List.set_cons_succ]))
            (first | (refine plan_calm (v := ?_) Lime.getop_ (by rfl) (fun W hW => ?_) ?_; rotate_left; (focus (have q0_ := (hS.trans hW).cell g0; have q1_ := (hS.trans hW).cell g6; have q2_ := (hS.trans hW).cell x0; have q3_ := (hS.trans hW).cell x1; have q4_ := (hS.trans hW).cell y0; clear hW; (exact Lime.calm_)))) | (refine plan_calm_skip Lime.getop_ (by rfl) ?_)); (try simp only [Act.put, List.setIfInBounds_toArray, List.set_cons_zero, List.set_cons_succ])
            iterate 3 ((first | (refine plan_calm (v := ?_) Lime.getop_ (by rfl) (fun W hW => ?_) ?_; rotate_left; (focus (exact Lime.calm_))) | (refine plan_calm_skip Lime.getop_ (by rfl) ?_)); (try simp only [Act.put, List.setIfInBounds_toArray, List.set_cons_zero, List.set_cons_succ]))
            (first | (refine plan_calm (v := ?_) Lime.getop_ (by rfl) (fun W hW => ?_) ?_; rotate_left; (focus (have q0_ := (hS.trans hW).cell g0; have q1_ := (hS.trans hW).cell g6; have q2_ := (hS.trans hW).cell x0; have q3_ := (hS.trans hW).cell x1; have q4_ := (hS.trans hW).cell y0; clear hW; (exact Lime.calm_)))) | (refine plan_calm_skip Lime.getop_ (by rfl) ?_)); (try simp only [Act.put, List.setIfInBounds_toArray, List.set_cons_zero, List.set_cons_succ])
            (first | (refine plan_calm (v := ?_) Lime.getop_ (by rfl) (fun W hW => ?_) ?_; rotate_left; (focus (exact Lime.calm_))) | (refine plan_calm_skip Lime.getop_ (by rfl) ?_)); (try simp only [Act.put, List.setIfInBounds_toArray, List.set_cons_zero, List.set_cons_succ])
            (first | (refine plan_calm (v := ?_) Lime.getop_ (by rfl) (fun W hW => ?_) ?_; rotate_left; (focus (have q0_ := (hS.trans hW).cell g0; have q1_ := (hS.trans hW).cell g6; have q2_ := (hS.trans hW).cell x0; have q3_ := (hS.trans hW).cell x1; have q4_ := (hS.trans hW).cell y0; clear hW; (exact Lime.calm_)))) | (refine plan_calm_skip Lime.getop_ (by rfl) ?_)); (try simp only [Act.put, List.setIfInBounds_toArray, List.set_cons_zero, List.set_cons_succ])
            iterate 4 ((first | (refine plan_calm (v := ?_) Lime.getop_ (by rfl) (fun W hW => ?_) ?_; rotate_left; (focus (exact Lime.calm_))) | (refine plan_calm_skip Lime.getop_ (by rfl) ?_)); (try simp only [Act.put, List.setIfInBounds_toArray, List.set_cons_zero, List.set_cons_succ]))
            (first | (refine plan_calm (v := ?_) Lime.getop_ (by rfl) (fun W hW => ?_) ?_; rotate_left; (focus (have q0_ := (hS.trans hW).cell g0; have q1_ := (hS.trans hW).cell g6; have q2_ := (hS.trans hW).cell x0; have q3_ := (hS.trans hW).cell x1; have q4_ := (hS.trans hW).cell y0; clear hW; (exact Lime.calm_)))) | (refine plan_calm_skip Lime.getop_ (by rfl) ?_)); (try simp only [Act.put, List.setIfInBounds_toArray, List.set_cons_zero, List.set_cons_succ])
            iterate 3 ((first | (refine plan_calm (v := ?_) Lime.getop_ (by rfl) (fun W hW => ?_) ?_; rotate_left; (focus (exact Lime.calm_))) | (refine plan_calm_skip Lime.getop_ (by rfl) ?_)); (try simp only [Act.put, List.setIfInBounds_toArray, List.set_cons_zero, List.set_cons_succ]))
            refine plan_done ?_
            go_wp2
            go_ret
            exact ⟨ret_bool (by rw [← A1.out, B.out, decide_eq_false (show ¬ z.name < y.name by omega)]; simp), by (exact Lime.stp_)⟩
          · have hlt2 : Aside (z.name < y.name) := by show z.name < y.name; omega
            go_wp2_with fail
            refine wp_region_plan (Plan.calm 0 (Plan.calm 1 (Plan.calm 2 (Plan.calm 3 (Plan.calm 4 (Plan.calm 5 (Plan.calm 6 (Plan.alt 7 (Plan.calm 8 (Plan.calm 9 (Plan.calm 10 (Plan.calm 11 (Plan.calm 12 (Plan.calm 13 (Plan.calm 14 (Plan.calm 15 (Plan.calm 16 (Plan.calm 17 (Plan.calm 18 (Plan.calm 19 (Plan.calm 20 (Plan.calm 21 (Plan.calm 22 (Plan.calm 23 (Plan.calm 24 (Plan.calm 25 (Plan.calm 26 (Plan.calm 27 (Plan.calm 28 Plan.done))))))))))))))))))))) Plan.stop)))))))) (by kernel_rfl) (by kernel_rfl) (by kernel_rfl) ?_
            have hS : Stp wr wr.drew := (Stp.refl _).drew
            (first | (refine plan_calm (v := ?_) Lime.getop_ (by rfl) (fun W hW => ?_) ?_; rotate_left; (focus (exact Lime.calm_))) | (refine plan_calm_skip Lime.getop_ (by rfl) ?_)); (try simp only [Act.put, List.setIfInBounds_toArray, List.set_cons_zero, List.set_cons_succ])
            (first | (refine plan_calm (v := ?_) Lime.getop_ (by rfl) (fun W hW => ?_) ?_; rotate_left; (focus (have q0_ := (hS.trans hW).cell g0; have q1_ := (hS.trans hW).cell g6; have q2_ := (hS.trans hW).cell x0; have q3_ := (hS.trans hW).cell x1; have q4_ := (hS.trans hW).cell y0; clear hW; (exact Lime.calm_)))) | (refine plan_calm_skip Lime.getop_ (by rfl) ?_)); (try simp only [Act.put, List.setIfInBounds_toArray, List.set_cons_zero, List.set_cons_succ])
            (first | (refine plan_calm (v := ?_) Lime.getop_ (by rfl) (fun W hW => ?_) ?_; rotate_left; (focus (exact Lime.calm_))) | (refine plan_calm_skip Lime.getop_ (by rfl) ?_)); (try simp only [Act.put, List.setIfInBounds_toArray, List.set_cons_zero, List.set_cons_succ])
            (first | (refine plan_calm (v := ?_) Lime.getop_ (by rfl) (fun W hW => ?_) ?_; rotate_left; (focus (have q0_ := (hS.trans hW).cell g0; have q1_ := (hS.trans hW).cell g6; have q2_ := (hS.trans hW).cell x0; have q3_ := (hS.trans hW).cell x1; have q4_ := (hS.trans hW).cell y0; clear hW; (exact Lime.calm_)))) | (refine plan_calm_skip Lime.getop_ (by rfl) ?_)); (try simp only [Act.put, List.setIfInBounds_toArray, List.set_cons_zero, List.set_cons_succ])
            iterate 2 ((first | (refine plan_calm (v := ?_) Lime.getop_ (by rfl) (fun W hW => ?_) ?_; rotate_left; (focus (exact Lime.calm_))) | (refine plan_calm_skip Lime.getop_ (by rfl) ?_)); (try simp only [Act.put, List.setIfInBounds_toArray, List.set_cons_zero, List.set_cons_succ]))
            (first | (refine plan_calm (v := ?_) Lime.getop_ (by rfl) (fun W hW => ?_) ?_; rotate_left; (focus (have q0_ := (hS.trans hW).cell g0; have q1_ := (hS.trans hW).cell g6; have q2_ := (hS.trans hW).cell x0; have q3_ := (hS.trans hW).cell x1; have q4_ := (hS.trans hW).cell y0; clear hW; (exact Lime.calm_)))) | (refine plan_calm_skip Lime.getop_ (by rfl) ?_)); (try simp only [Act.put, List.setIfInBounds_toArray, List.set_cons_zero, List.set_cons_succ])
            (first | (refine plan_event Lime.getop_ (by rfl) (fun K hK => ?_) plan_stop; go_simp; refine (ca _).mono ?_; rintro e w2 ⟨rfl, hb2⟩; refine hK _ _ ?_ (fun hst => ?_); (focus (exact Lime.stp_)); replace hS := hS.trans hst; clear hst hK K) | refine plan_event_skip Lime.getop_ (by rfl) ?_ plan_stop); (try simp only [Act.put, List.setIfInBounds_toArray, List.set_cons_zero, List.set_cons_succ])
            iterate 6 ((first | (refine plan_calm (v := ?_) Lime.getop_ (by rfl) (fun W hW => ?_) ?_; rotate_left; (focus (exact Lime.calm_))) | (refine plan_calm_skip Lime.getop_ (by rfl) ?_)); (try simp only [Act.put, List.setIfInBounds_toArray, List.set_cons_zero, List.set_cons_succ]))
            (first | (refine plan_calm (v := ?_) Lime.getop_ (by rfl) (fun W hW => ?_) ?_; rotate_left; (focus (have q0_ := (hS.trans hW).cell g0; have q1_ := (hS.trans hW).cell g6; have q2_ := (hS.trans hW).cell x0; have q3_ := (hS.trans hW).cell x1; have q4_ := (hS.trans hW).cell y0; clear hW; (exact Lime.calm_)))) | (refine plan_calm_skip Lime.getop_ (by rfl) ?_)); (try simp only [Act.put, List.setIfInBounds_toArray, List.set_cons_zero, List.set_cons_succ])
            iterate 3 ((first | (refine plan_calm (v := ?_) Lime.getop_ (by rfl) (fun W hW => ?_) ?_; rotate_left; (focus (exact Lime.calm_))) | (refine plan_calm_skip Lime.getop_ (by rfl) ?_)); (try simp only [Act.put, List.setIfInBounds_toArray, List.set_cons_zero, List.set_cons_succ]))
            (first | (refine plan_calm (v := ?_) Lime.getop_ (by rfl) (fun W hW => ?_) ?_; rotate_left; (focus (have q0_ := (hS.trans hW).cell g0; have q1_ := (hS.trans hW).cell g6; have q2_ := (hS.trans hW).cell x0; have q3_ := (hS.trans hW).cell x1; have q4_ := (hS.trans hW).cell y0; clear hW; (exact Lime.calm_)))) | (refine plan_calm_skip Lime.getop_ (by rfl) ?_)); (try simp only [Act.put, List.setIfInBounds_toArray, List.set_cons_zero, List.set_cons_succ])
            (first | (refine plan_calm (v := ?_) Lime.getop_ (by rfl) (fun W hW => ?_) ?_; rotate_left; (focus (exact Lime.calm_))) | (refine plan_calm_skip Lime.getop_ (by rfl) ?_)); (try simp only [Act.put, List.setIfInBounds_toArray, List.set_cons_zero, List.set_cons_succ])
            (first | (refine plan_calm (v := ?_) Lime.getop_ (by rfl) (fun W hW => ?_) ?_; rotate_left; (focus (have q0_ := (hS.trans hW).cell g0; have q1_ := (hS.trans hW).cell g6; have q2_ := (hS.trans hW).cell x0; have q3_ := (hS.trans hW).cell x1; have q4_ := (hS.trans hW).cell y0; clear hW; (exact Lime.calm_)))) | (refine plan_calm_skip Lime.getop_ (by rfl) ?_)); (try simp only [Act.put, List.setIfInBounds_toArray, List.set_cons_zero, List.set_cons_succ])
            iterate 4 ((first | (refine plan_calm (v := ?_) Lime.getop_ (by rfl) (fun W hW => ?_) ?_; rotate_left; (focus (exact Lime.calm_))) | (refine plan_calm_skip Lime.getop_ (by rfl) ?_)); (try simp only [Act.put, List.setIfInBounds_toArray, List.set_cons_zero, List.set_cons_succ]))
            (first | (refine plan_calm (v := ?_) Lime.getop_ (by rfl) (fun W hW => ?_) ?_; rotate_left; (focus (have q0_ := (hS.trans hW).cell g0; have q1_ := (hS.trans hW).cell g6; have q2_ := (hS.trans hW).cell x0; have q3_ := (hS.trans hW).cell x1; have q4_ := (hS.trans hW).cell y0; clear hW; (exact Lime.calm_)))) | (refine plan_calm_skip Lime.getop_ (by rfl) ?_)); (try simp only [Act.put, List.setIfInBounds_toArray, List.set_cons_zero, List.set_cons_succ])
            iterate 3 ((first | (refine plan_calm (v := ?_) Lime.getop_ (by rfl) (fun W hW => ?_) ?_; rotate_left; (focus (exact Lime.calm_))) | (refine plan_calm_skip Lime.getop_ (by rfl) ?_)); (try simp only [Act.put, List.setIfInBounds_toArray, List.set_cons_zero, List.set_cons_succ]))
            refine plan_done ?_
            go_wp2
            go_roundg (x.attrs.length - (k + 1))
            case measure => omega
            case rel => exact ⟨k + 1, y.name, by omega, by omega, by go_num, by (exact Lime.stp_), by rw [← A1.out, B.out, ha]; simp [hlt2.out, Aside], .inr ⟨k, y, rfl, by rw [← HY.out]; exact List.getElem?_eq_getElem hlt, rfl⟩⟩
    · have hltz : ¬ (k : Int) < (x.attrs.length : Int) := by omega
      go_wp2
      go_ret
      exact ⟨ret_bool (by rw [← A1.out, List.drop_eq_nil_of_le (by omega)]; rfl), by (exact Lime.stp_)⟩
end Go.Proofs.Lime
namespace Go.Proofs.Lime
open Go.RowKit
set_option linter.unusedVariables false
set_option linter.unusedSimpArgs false

theorem kid_no {t : List Nd} {n k : Int} {l : List Int} (h : isN t k = false) : kidOk t n l k = false := by simp [kidOk, h]
theorem kid_yes {t : List Nd} {n : Int} {k : Nat} {l : List Int} (h : k < t.length) : kidOk t n l k = (decide (l.count (k : Int) = 1) && (decide (t[k].parent = n) && (decide (t[k].kind = 1) || decide (t[k].kind = 2)))) := by
  rw [kidOk, isN_of h, nd_nat h, Bool.true_and]
theorem all_step {α : Type} {p : α → Bool} {l : List α} {k : Nat} (h : k < l.length) : (l.drop k).all p = (p l[k] && (l.drop (k + 1)).all p) := by
  rw [List.drop_eq_getElem_cons h, List.all_cons]
set_option maxHeartbeats 2000000 in
theorem rkids_c {S : Nat → Prop} {w : World} {v : Value} {t : List Nd} (hr : Row nodeK S w v t) {n : Nat} (hn : n < t.length) :
    Calls Tryz.prog 54 #[v, .int .i64 n] w fun e w' => e = .returned (.bool (kidsOk t n)) ∧ Stp w w' := by
  obtain ⟨A, c, rfl, hc, hm⟩ := hr.form
  obtain ⟨b, o, rfl, hS, hb, hN⟩ := tree_base hr (by omega)
  obtain ⟨Ak, ck, Aa, ca, N⟩ := hN n hn
  have HE : Aside (kidsOk t n = (t[n].kids.all (kidOk t n t[n].kids) && (!(decide (t[n].kind = 2) && decide (0 < t[n].kids.length)) && (decide (t[n].parent = -1) || (isN t t[n].parent && decide ((nd t t[n].parent).kids.count (n : Int) = 1)))))) := by
    show kidsOk t n = _
    rw [kidsOk, nd_nat hn]
  generalize t[n] = x at N HE
  have x0 := N.c0
  have x1 := N.c1
  have x2 := N.c2
  have x3 := N.c3
  have x4 := N.c4
  have x5 := N.c5
  have x6 := N.c6
  have hk1 := N.k1
  have hk2 := N.k2
  have hnz : (n : Int) < (t.length : Int) := by omega
  have hrk := N.kids
  clear N
  go_enter Tryz.func54, Tryz.ntmps54
  go_wp2
  obtain ⟨w0, hw0, hb0, hz0, gc⟩ := box_named w #[.int .i64 x.kind, .int .i64 x.tag, .int .i64 x.parent, .slice Ak x.kids.length ck, .int .i64 x.host, .int .i64 x.root, .slice Aa x.attrs.length ca] 51
  rw [hw0]
  have g0 := gc 0 _ rfl
  have g2 := gc 2 _ rfl
  have g3 := gc 3 _ rfl
  clear hw0 gc x0 x1 x2 x3 x4 x5 x6
  go_loopg [6] x.kids.length (fun gg s6 wr => ∃ i : Nat, i ≤ x.kids.length ∧ x.kids.length - i ≤ gg ∧ s6 = .int .i64 i ∧ Stp w0 wr ∧ Aside ((x.kids.drop i).all (kidOk t n x.kids) = x.kids.all (kidOk t n x.kids)))
  case atStart => exact ⟨0, Nat.zero_le _, by omega, rfl, Stp.refl w0, rfl⟩
  case round =>
    obtain ⟨i, hi, hg, rfl, hbi, A1⟩ := hrel
    replace g0 := hbi.cell g0
    replace g2 := hbi.cell g2
    replace g3 := hbi.cell g3
    by_cases hlt : i < x.kids.length
    · have hltz : (i : Int) < (x.kids.length : Int) := by omega
      obtain ⟨b', o', rfl, _, _, y0⟩ := int_at (hrk.stp (hb0.trans hbi)) i hlt
      have HS := Lib.hid (all_step (p := kidOk t n x.kids) hlt)
      generalize x.kids[i] = y at y0 HS
      by_cases hy : isN t y = true
      · obtain ⟨m, rfl, hmt⟩ := isN_nat hy
        obtain ⟨Bk, dk, Ba, da, M⟩ := hN m hmt
        have HK := Lib.hid (kid_yes (n := n) (l := x.kids) hmt)
        generalize t[m] = z at M HK
        have z0 := (hb0.trans hbi).cell M.c0
        have z2 := (hb0.trans hbi).cell M.c2
        have hmz : (m : Int) < (t.length : Int) := by omega
        clear M
        have cc := fun W (hW : Stp w W) => rcount_c (hrk.stp hW) (m : Int)
        generalize x.kids.count (m : Int) = cn at cc HK
        have ci := fun W => isR_c W (some ⟨b, o, none⟩) t c (m : Int)
        rw [hy] at ci
        go_wp2_with fail
        refine (show Calls Tryz.prog 42 _ _ _ from ci _).mono ?_
        rintro e w1 ⟨rfl, hb1⟩
        replace z0 := hb1.cell z0
        replace z2 := hb1.cell z2
        replace g3 := hb1.cell g3
        go_wp2_with fail
        refine (show Calls Tryz.prog 74 _ _ _ from cc _ Lime.stp_).mono ?_
        rintro e w2 ⟨rfl, hb2⟩
        replace z0 := hb2.cell z0
        replace z2 := hb2.cell z2
        go_wp2_with fail
        all_goals first
          | (go_ret; exact ⟨ret_bool (by have := HK.out; rw [HE.out, ← A1.out, HS.out]; grind), by (exact Lime.stp_)⟩)
          | skip
        all_goals
          have h1 : Aside (kidOk t n x.kids m = true) := by show kidOk t n x.kids m = true; have := HK.out; grind
          go_roundg (x.kids.length - (i + 1))
          case measure => omega
          case rel => exact ⟨i + 1, by omega, by omega, by go_num, by (exact Lime.stp_), by rw [← A1.out, HS.out, h1.out]; simp [Aside]⟩
      · have hy0 : isN t y = false := by simpa using hy
        have ci := fun W => isR_c W (some ⟨b, o, none⟩) t c y
        rw [hy0] at ci
        go_wp2_with fail
        refine (show Calls Tryz.prog 42 _ _ _ from ci _).mono ?_
        rintro e w1 ⟨rfl, hb1⟩
        go_wp2
        go_ret
        exact ⟨ret_bool (by rw [HE.out, ← A1.out, HS.out, kid_no hy0]; simp), by (exact Lime.stp_)⟩
    · have hltz : ¬ (i : Int) < (x.kids.length : Int) := by omega
      have HA : Aside (x.kids.all (kidOk t n x.kids) = true) := by
        show x.kids.all (kidOk t n x.kids) = true
        rw [← A1.out, List.drop_eq_nil_of_le (by omega)]; rfl
      clear A1
      by_cases hy : isN t x.parent = true
      · obtain ⟨m, hpm, hmt⟩ := isN_nat hy
        obtain ⟨Bk, dk, Ba, da, M⟩ := hN m hmt
        have HK : Aside ((nd t x.parent).kids.count (n : Int) = t[m].kids.count (n : Int)) := by show (nd t x.parent).kids.count (n : Int) = t[m].kids.count (n : Int); rw [hpm, nd_nat hmt]
        have HE2 := Lib.hid HE.out
        clear HE
        rw [hpm] at g2
        have ci := fun W => isR_c W (some ⟨b, o, none⟩) t c x.parent
        rw [hy] at ci
        have z3 := (hb0.trans hbi).cell M.c3
        have hrm := M.kids
        have hmz : (m : Int) < (t.length : Int) := by omega
        clear M
        generalize t[m] = z at z3 hrm HK
        have cc := fun W (hW : Stp w W) => rcount_c (hrm.stp hW) (n : Int)
        generalize z.kids.count (n : Int) = cn at cc HK
        have hpm2 := Lib.hid hpm
        rw [hpm] at ci
        clear hpm hy
        go_wp2_with (first | (go_at_call 42; refine (ci _).mono ?_; rintro e w1 ⟨rfl, hb1⟩; replace z3 := hb1.cell z3; replace g2 := hb1.cell g2) | (go_at_call 74; refine (cc _ Lime.stp_).mono ?_; rintro e w2 ⟨rfl, hb2⟩))
        all_goals
          go_ret
          exact ⟨ret_bool (by have h1 := HK.out; have h2 := hpm2.out; have h3 := HA.out; rw [HE2.out, h3, h1, h2, isN_of hmt]; grind), by (exact Lime.stp_)⟩
      · have hy0 : isN t x.parent = false := by simpa using hy
        have ci := fun W => isR_c W (some ⟨b, o, none⟩) t c x.parent
        rw [hy0] at ci
        have HE2 := Lib.hid HE.out
        clear HE
        go_wp2_with (go_at_call 42; refine (ci _).mono ?_; rintro e w1 ⟨rfl, hb1⟩)
        all_goals
          go_ret
          exact ⟨ret_bool (by rw [HE2.out, HA.out, hy0]; grind), by (exact Lime.stp_)⟩
end Go.Proofs.Lime
namespace Go.Proofs.Lime
open Go.RowKit
set_option linter.unusedVariables false
set_option linter.unusedSimpArgs false

set_option maxHeartbeats 2000000 in
theorem rshadow_c {S : Nat → Prop} {w : World} {v : Value} {t : List Nd} (hr : Row nodeK S w v t) {n : Nat} (hn : n < t.length) :
    Calls Tryz.prog 55 #[v, .int .i64 n] w fun e w' => e = .returned (.bool (shadowOk t n)) ∧ Stp w w' := by
  obtain ⟨A, c, rfl, hc, hm⟩ := hr.form
  obtain ⟨b, o, rfl, hS, hb, hN⟩ := tree_base hr (by omega)
  obtain ⟨Ak, ck, Aa, ca, N⟩ := hN n hn
  have HE : Aside (shadowOk t n = if t[n].kind = 3 then decide (t[n].root = -1) && (decide (t[n].parent = -1) && (isN t t[n].host && (decide ((nd t t[n].host).kind = 1) && decide ((nd t t[n].host).root = n)))) else decide (t[n].host = -1) && (decide (t[n].root = -1) || (decide (t[n].kind = 1) && (isN t t[n].root && (decide ((nd t t[n].root).kind = 3) && decide ((nd t t[n].root).host = n)))))) := by
    show shadowOk t n = _
    rw [shadowOk, nd_nat hn]
  generalize t[n] = x at N HE
  have x0 := N.c0
  have x1 := N.c1
  have x2 := N.c2
  have x3 := N.c3
  have x4 := N.c4
  have x5 := N.c5
  have x6 := N.c6
  have hnz : (n : Int) < (t.length : Int) := by omega
  clear N
  have HE2 := Lib.hid HE.out
  clear HE
  by_cases hk3 : x.kind = 3
  · by_cases hy : isN t x.host = true
    · skip
      obtain ⟨m, hpm, hmt⟩ := isN_nat hy
      obtain ⟨Bk, dk, Ba, da, M⟩ := hN m hmt
      have HK := Lib.hid (show nd t x.host = t[m] by rw [hpm, nd_nat hmt])
      generalize t[m] = z at M HK
      have z0 := M.c0
      have z4 := M.c4
      have z5 := M.c5
      clear M
      have hmz : (m : Int) < (t.length : Int) := by omega
      have ci := fun W => isR_c W (some ⟨b, o, none⟩) t c x.host
      rw [hy] at ci
      have hy2 := Lib.hid hy
      have hpm2 := Lib.hid hpm
      rw [hpm] at ci
      rw [hpm] at x4
      clear hpm hy
      go_enter Tryz.func55, Tryz.ntmps55
      go_wp2_with (go_at_call 42; refine (ci _).mono ?_; rintro e w1 ⟨rfl, hb1⟩; replace z0 := Stp.cell (w' := w1) Lime.stp_ z0; replace z4 := Stp.cell (w' := w1) Lime.stp_ z4; replace z5 := Stp.cell (w' := w1) Lime.stp_ z5; have q0 := hb1.cell (box_at w _ _ 0 _ rfl); have q2 := hb1.cell (box_at w _ _ 2 _ rfl); have q4 := hb1.cell (box_at w _ _ 4 _ rfl); have q5 := hb1.cell (box_at w _ _ 5 _ rfl))
      all_goals
        go_ret
        exact ⟨ret_bool (by have h9 := hpm2.out; rw [HE2.out, HK.out, hy2.out]; clear hN hr HE2 HK hy2 hpm2 ci; grind), by (exact Lime.stp_)⟩
    · skip
      have hy0 : isN t x.host = false := by simpa using hy
      have ci := fun W => isR_c W (some ⟨b, o, none⟩) t c x.host
      rw [hy0] at ci
      have hy2 := Lib.hid hy0
      clear hy hy0
      go_enter Tryz.func55, Tryz.ntmps55
      go_wp2_with (go_at_call 42; refine (ci _).mono ?_; rintro e w1 ⟨rfl, hb1⟩; have q0 := hb1.cell (box_at w _ _ 0 _ rfl); have q2 := hb1.cell (box_at w _ _ 2 _ rfl); have q4 := hb1.cell (box_at w _ _ 4 _ rfl); have q5 := hb1.cell (box_at w _ _ 5 _ rfl))
      all_goals
        go_ret
        exact ⟨ret_bool (by rw [HE2.out, hy2.out]; grind), by (exact Lime.stp_)⟩
  · by_cases hy : isN t x.root = true
    · skip
      obtain ⟨m, hpm, hmt⟩ := isN_nat hy
      obtain ⟨Bk, dk, Ba, da, M⟩ := hN m hmt
      have HK := Lib.hid (show nd t x.root = t[m] by rw [hpm, nd_nat hmt])
      generalize t[m] = z at M HK
      have z0 := M.c0
      have z4 := M.c4
      have z5 := M.c5
      clear M
      have hmz : (m : Int) < (t.length : Int) := by omega
      have ci := fun W => isR_c W (some ⟨b, o, none⟩) t c x.root
      rw [hy] at ci
      have hy2 := Lib.hid hy
      have hpm2 := Lib.hid hpm
      rw [hpm] at ci
      rw [hpm] at x5
      clear hpm hy
      go_enter Tryz.func55, Tryz.ntmps55
      go_wp2_with (go_at_call 42; refine (ci _).mono ?_; rintro e w1 ⟨rfl, hb1⟩; replace z0 := Stp.cell (w' := w1) Lime.stp_ z0; replace z4 := Stp.cell (w' := w1) Lime.stp_ z4; replace z5 := Stp.cell (w' := w1) Lime.stp_ z5; have q0 := hb1.cell (box_at w _ _ 0 _ rfl); have q2 := hb1.cell (box_at w _ _ 2 _ rfl); have q4 := hb1.cell (box_at w _ _ 4 _ rfl); have q5 := hb1.cell (box_at w _ _ 5 _ rfl))
      all_goals
        go_ret
        exact ⟨ret_bool (by have h9 := hpm2.out; rw [HE2.out, HK.out, hy2.out]; clear hN hr HE2 HK hy2 hpm2 ci; grind), by (exact Lime.stp_)⟩
    · skip
      have hy0 : isN t x.root = false := by simpa using hy
      have ci := fun W => isR_c W (some ⟨b, o, none⟩) t c x.root
      rw [hy0] at ci
      have hy2 := Lib.hid hy0
      clear hy hy0
      go_enter Tryz.func55, Tryz.ntmps55
      go_wp2_with (go_at_call 42; refine (ci _).mono ?_; rintro e w1 ⟨rfl, hb1⟩; have q0 := hb1.cell (box_at w _ _ 0 _ rfl); have q2 := hb1.cell (box_at w _ _ 2 _ rfl); have q4 := hb1.cell (box_at w _ _ 4 _ rfl); have q5 := hb1.cell (box_at w _ _ 5 _ rfl))
      all_goals
        go_ret
        exact ⟨ret_bool (by rw [HE2.out, hy2.out]; grind), by (exact Lime.stp_)⟩

theorem upIn {t : List Nd} {n : Int} (h : isN t n = true) (hs : shadowOk t n = true) (hk : kidsOk t n = true) : upN t n = -1 ∨ isN t (upN t n) = true := by
  unfold upN
  split
  · rename_i h3
    rw [shadowOk, if_pos h3] at hs
    grind
  · rw [kidsOk] at hk
    grind
theorem rends_c {S : Nat → Prop} {w : World} {v : Value} {t : List Nd} (hr : Row nodeK S w v t) (hl : t.length ≤ 64) (hok : ∀ k : Nat, k < t.length → upN t k = -1 ∨ isN t (upN t k) = true) {n : Nat} (hn : n < t.length) :
    Calls Tryz.prog 56 #[v, .int .i64 n] w fun e w' => e = .returned (.bool (ends t n)) ∧ Stp w w' := by
  obtain ⟨A, c, rfl, hc, hm⟩ := hr.form
  have hok2 := Lib.hid hok
  clear hok
  go_enter Tryz.func56, Tryz.ntmps56
  go_wp2
  go_loopg [1, 5] (t.length + 1) (fun gg s1 s5 wr => ∃ (i : Nat) (m : Int), i ≤ t.length + 1 ∧ t.length + 1 - i ≤ gg ∧ s5 = .int .i64 i ∧ s1 = .int .i64 m ∧ Stp w wr ∧ (m = -1 ∨ Aside (isN t m = true)) ∧ Aside (endsIn t (t.length + 1 - i) m = ends t n))
  case atStart => exact ⟨0, n, Nat.zero_le _, by omega, rfl, rfl, Stp.refl w, .inr (isN_of hn), rfl⟩
  case round =>
    obtain ⟨i, m, hi, hg, rfl, rfl, hb, hm1, A1⟩ := hrel
    by_cases hlt : i ≤ t.length
    · have hltz : (i : Int) ≤ (t.length : Int) := by omega
      have HS : Aside (endsIn t (t.length + 1 - i) m = if m = -1 then true else endsIn t (t.length + 1 - (i + 1)) (upN t m)) := by
        show endsIn t (t.length + 1 - i) m = _
        rw [show t.length + 1 - i = (t.length + 1 - (i + 1)) + 1 by omega, endsIn]
      by_cases hm2 : m = -1
      · subst hm2
        go_wp2
        go_ret
        exact ⟨ret_bool (by rw [← A1.out, HS.out]; simp), by (exact Lime.stp_)⟩
      · obtain ⟨k, rfl, hkt⟩ := isN_nat (hm1.resolve_left hm2)
        have hu := Lib.hid (hok2.out k hkt)
        have hne : ((k : Int) == -1) = false := by simp
        clear hm1 hm2
        go_wp2_with (go_at_call 75; refine (rup_c (hr.stp Lime.stp_) hkt).mono ?_; rintro e w2 ⟨rfl, hb2⟩)
        go_roundg (t.length + 1 - (i + 1))
        case measure => omega
        case rel => exact ⟨i + 1, upN t k, by omega, by omega, by go_num, rfl, by (exact Lime.stp_), hu.out, by rw [← A1.out, HS.out, if_neg (by omega)]; rfl⟩
    · have hltz : ¬ (i : Int) ≤ (t.length : Int) := by omega
      go_wp2
      go_ret
      exact ⟨ret_bool (by rw [← A1.out, show t.length + 1 - i = 0 by omega]; rfl), hb⟩
end Go.Proofs.Lime
