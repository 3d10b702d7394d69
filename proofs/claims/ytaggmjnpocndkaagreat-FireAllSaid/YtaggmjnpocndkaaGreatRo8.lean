/- Walks: has a tree little; the document's new run; does one of some listeners be one with another. No conditions. -/
import Derived.Test.YtaggmjnpocndkaaGreatRo7
import Derived.Test.YtaggmjnpocndkaaGreatRv
import Derived.Test.YtaggmjnpocndkaaGreatFnw
namespace Go.Proofs.Lime
open Go.RowKit
set_option linter.unusedVariables false
set_option linter.unusedSimpArgs false
attribute [local go_sem] Oper.semAt_some
def nodeB (x : Nd) : Bool := decide (x.kids.length ≤ 80) && decide (x.attrs.length ≤ 20)
set_option maxRecDepth 100000 in
set_option maxHeartbeats 4000000 in
theorem rsmall_h {S : Nat → Prop} {w : World} {v : Value} {t : List Nd} (hr : Row nodeK S w v t) :
    Calls Tryz.prog 9 #[v] w fun e w' => e = .returned (.bool (smallT t)) ∧ Stp w w' := by
  have hsm : smallT t = (decide (t.length ≤ 70) && t.all nodeB) := rfl
  obtain ⟨A, c, rfl, hc, hm⟩ := hr.form
  by_cases h70 : (t.length : Int) ≤ 70
  · have h70' : t.length ≤ 70 := by omega
    have hs2 : smallT t = t.all nodeB := by rw [hsm, decide_eq_true h70', Bool.true_and]
    clear hsm
    go_enter Tryz.func9, Tryz.ntmps9
    go_wp2
    go_loopg [3] t.length (fun gg s3 W => ∃ i : Nat, i ≤ t.length ∧ t.length - i ≤ gg ∧ s3 = .int .i64 i ∧ Stp w W ∧ Aside (smallT t = (t.drop i).all nodeB))
    case atStart => exact ⟨0, Nat.zero_le _, by omega, rfl, Stp.refl w, hs2⟩
    case round =>
      obtain ⟨i, hi, hg, rfl, hst, HA⟩ := hrel
      have HE := Lib.hid HA.out
      clear HA hs2
      by_cases hlt : i < t.length
      · have hltz : (i : Int) < (t.length : Int) := by omega
        have HD := Lib.hid (show (t.drop i).all nodeB = (nodeB t[i] && (t.drop (i + 1)).all nodeB) by rw [List.drop_eq_getElem_cons hlt, List.all_cons])
        obtain ⟨b, o, Ak, ck, Aa, ca, rfl, _, _, k0, k1, k2, k3, k4, k5, k6, _, _, _, _, _, _⟩ := node_at (hr.stp hst) i hlt
        clear k0 k1 k2 k4 k5
        generalize t[i] = x at k3 k6 HD
        by_cases h1 : (80 : Int) < (x.kids.length : Int)
        · have HF := Lib.hid (show smallT t = false by rw [HE.out, HD.out, nodeB, decide_eq_false (by omega)]; rfl)
          go_wp2
          go_ret
          exact ⟨ret_bool HF.out.symm, hst⟩
        · by_cases h2 : (20 : Int) < (x.attrs.length : Int)
          · have HF := Lib.hid (show smallT t = false by rw [HE.out, HD.out, nodeB, decide_eq_false (show ¬ x.attrs.length ≤ 20 by omega), Bool.and_false, Bool.false_and])
            go_wp2
            go_ret
            exact ⟨ret_bool HF.out.symm, hst⟩
          · have HF := Lib.hid (show smallT t = (t.drop (i + 1)).all nodeB by rw [HE.out, HD.out, nodeB, decide_eq_true (show x.attrs.length ≤ 20 by omega), decide_eq_true (show x.kids.length ≤ 80 by omega)]; rfl)
            go_wp2
            go_roundg (t.length - (i + 1))
            case measure => omega
            case rel => exact ⟨i + 1, by omega, by omega, by go_num, hst, HF.out⟩
      · have hltz : ¬ (i : Int) < (t.length : Int) := by omega
        have HF := Lib.hid (show smallT t = true by rw [HE.out, List.drop_eq_nil_of_le (by omega)]; rfl)
        go_wp2
        go_ret
        exact ⟨ret_bool HF.out.symm, hst⟩
  · have HF := Lib.hid (show smallT t = false by rw [hsm, decide_eq_false (by omega)]; rfl)
    clear hsm
    by_cases h0 : (0 : Int) < (t.length : Int)
    · go_enter Tryz.func9, Tryz.ntmps9
      go_wp2
      go_loopg [3] 0 (fun gg s3 W => s3 = .int .i64 0 ∧ Stp w W)
      case atStart => exact ⟨rfl, Stp.refl w⟩
      case round =>
        obtain ⟨rfl, hst⟩ := hrel
        go_wp2
        go_ret
        exact ⟨ret_bool (by rw [HF.out]; exact decide_eq_false (by omega)), hst⟩
    · omega
theorem few_h {S : Nat → Prop} {w : World} {A : Option Addr} {c : Nat} {t : List Nd} (hr : Row nodeK S w (.slice A t.length c) t) :
    Calls Tryz.prog 4 #[.slice A t.length c] w fun e w' => e = .returned (.bool (smallT t && decide ((t.length : Int) ≤ 30))) ∧ Stp w w' := by
  obtain ⟨A', c', e, hc, hm⟩ := hr.form
  injection e with e1 e2 e3
  subst e1 e3
  have cs := fun W (h : Stp w W) => rsmall_h (hr.stp h)
  cases hs : smallT t with
  | true =>
    rw [hs] at cs
    clear hs
    go_enter Tryz.func4, Tryz.ntmps4
    go_wp2_with (go_at_call 9; refine (cs _ Lime.stp_).mono ?_; rintro e w1 ⟨rfl, hb1⟩)
    go_ret
    exact ⟨ret_bool (by simp), hb1⟩
  | false =>
    rw [hs] at cs
    clear hs
    go_enter Tryz.func4, Tryz.ntmps4
    go_wp2_with (go_at_call 9; refine (cs _ Lime.stp_).mono ?_; rintro e w1 ⟨rfl, hb1⟩)
    go_ret
    exact ⟨ret_bool (by simp), hb1⟩
theorem both_h {S : Nat → Prop} {w : World} {v : Value} {t : List Nd} (hr : Row nodeK S w v t) (n : Int) :
    Calls Tryz.prog 26 #[v, .int .i64 n, .int .i64 n] w fun e w' => e = .returned (.bool (mayT t && isN t n)) ∧ Stp w w' := by
  have cm := fun W (h : Stp w W) => rmay_tree_c (hr.stp h)
  obtain ⟨A, c, rfl, hc, hm⟩ := hr.form
  have ci := fun W => risn_c W A t c n
  cases h1 : mayT t with
  | true =>
    rw [h1] at cm
    cases h2 : isN t n with
    | true =>
      rw [h2] at ci
      clear h1 h2
      go_enter Tryz.func26, Tryz.ntmps26
      go_wp2_with (first | (go_at_call 41; refine (cm _ Lime.stp_).mono ?_; rintro e w1 ⟨rfl, hb1⟩) | (go_at_call 42; refine (ci _).mono ?_; rintro e w2 ⟨rfl, hb2⟩))
      go_ret
      exact ⟨rfl, by (exact Lime.stp_)⟩
    | false =>
      rw [h2] at ci
      clear h1 h2
      go_enter Tryz.func26, Tryz.ntmps26
      go_wp2_with (first | (go_at_call 41; refine (cm _ Lime.stp_).mono ?_; rintro e w1 ⟨rfl, hb1⟩) | (go_at_call 42; refine (ci _).mono ?_; rintro e w2 ⟨rfl, hb2⟩))
      go_ret
      exact ⟨rfl, by (exact Lime.stp_)⟩
  | false =>
    rw [h1] at cm
    clear h1
    go_enter Tryz.func26, Tryz.ntmps26
    go_wp2_with (go_at_call 41; refine (cm _ Lime.stp_).mono ?_; rintro e w1 ⟨rfl, hb1⟩)
    go_ret
    exact ⟨rfl, by (exact Lime.stp_)⟩
/-- The document's run under way, in block B; what its slices lead to lies in S. -/
structure RRun (S : Nat → Prop) (B : Nat) (W : World) (et tg re : Int) (bub can comp : Bool) (vs : List Vis) (v : Vis) (tk : List Hear) (sp cd : Bool) : Prop where mk ::
  cells : ∃ sv st, W.heap[B]? = some (.cells (runA et tg re bub can comp sv v st sp cd) 81 (0, 0)) ∧ Row visK S W sv vs ∧ Row hearK S W st tk
section
variable {S : Nat → Prop} {B : Nat} {W W2 : World} {et tg re : Int} {bub can comp : Bool} {vs : List Vis} {v : Vis} {tk : List Hear} {sp cd : Bool}
theorem RRun.kpt {O : Nat → Prop} (h : RRun S B W et tg re bub can comp vs v tk sp cd) (hk : Kpt O W W2) (hB : ¬ O B) (hO : ∀ k, S k → k < W.heap.size → ¬ O k) : RRun S B W2 et tg re bub can comp vs v tk sp cd := by
  obtain ⟨sv, st, h1, h2, h3⟩ := h.cells
  exact ⟨sv, st, (hk.block B (Array.getElem?_eq_some_iff.1 h1).1 hB).trans h1, h2.kpt hk hO, h3.kpt hk hO⟩
theorem RRun.stp (h : RRun S B W et tg re bub can comp vs v tk sp cd) (hk : Stp W W2) : RRun S B W2 et tg re bub can comp vs v tk sp cd := h.kpt (O := fun _ => False) (Kpt.of_stp hk) id (fun _ _ _ => id)
theorem RRun.bound (h : RRun S B W et tg re bub can comp vs v tk sp cd) : RRun (fun k => S k ∧ k < W.heap.size) B W et tg re bub can comp vs v tk sp cd := by
  obtain ⟨sv, st, h1, h2, h3⟩ := h.cells
  exact ⟨sv, st, h1, h2.bound, h3.bound⟩
theorem RRun.mono {S' : Nat → Prop} (h : RRun S B W et tg re bub can comp vs v tk sp cd) (hS : ∀ k, S k → S' k) : RRun S' B W et tg re bub can comp vs v tk sp cd := by
  obtain ⟨sv, st, h1, h2, h3⟩ := h.cells
  exact ⟨sv, st, h1, h2.mono hS, h3.mono hS⟩
end
set_option maxRecDepth 100000 in
set_option maxHeartbeats 4000000 in
theorem rnew_yes {S : Nat → Prop} {w : World} {v : Value} {t : List Nd} (hr : Row nodeK S w v t) (et : Int) {tg : Int} (re : Int) (bub can comp : Bool) (ho : mayT t = true ∧ isN t tg = true) :
    Calls Tryz.prog 15 #[v, .agg #[.int .i64 et, .int .i64 tg, .int .i64 re, .bool bub, .bool can, .bool comp]] w fun e w' => ∃ B, e = .returned (.pointer (some ⟨B, 0, none⟩)) ∧ w.heap.size ≤ B ∧ RRun (fun k => w.heap.size ≤ k ∧ k ≠ B) B w' et tg re bub can comp (visL (pathT t comp tg re tg) bub) vis0 [] false false ∧ Stp w w' := by
  have M := May.of ho.1
  have ck := fun W (h : Stp w W) => both_h (hr.stp h) tg
  rw [ho.1, ho.2] at ck
  have cv := fun W (h : Stp w W) => rvisits_w (bub := bub) (et := et) (can := can) (fun W2 h2 => (rpath_c (hr.stp (h.trans h2)) M ho.2 et re bub can comp).mono fun e w' ⟨u, h1, h2, h3⟩ => ⟨u, h1, h2.reads, h3⟩) (show (pathT t comp tg re tg).length ≤ 1000 by have := M.path_len comp tg re tg (.inr ho.2); have := M.len2; omega)
  obtain ⟨A, c, rfl, hc, hm⟩ := hr.form
  generalize visL (pathT t comp tg re tg) bub = vs at cv ⊢
  clear M ho
  have e0 := box_at w #[.int .i64 et, .int .i64 tg, .int .i64 re, .bool bub, .bool can, .bool comp] 25 0 _ rfl
  have e1 := box_at w #[.int .i64 et, .int .i64 tg, .int .i64 re, .bool bub, .bool can, .bool comp] 25 1 _ rfl
  have e2 := box_at w #[.int .i64 et, .int .i64 tg, .int .i64 re, .bool bub, .bool can, .bool comp] 25 2 _ rfl
  have e3 := box_at w #[.int .i64 et, .int .i64 tg, .int .i64 re, .bool bub, .bool can, .bool comp] 25 3 _ rfl
  have e4 := box_at w #[.int .i64 et, .int .i64 tg, .int .i64 re, .bool bub, .bool can, .bool comp] 25 4 _ rfl
  have e5 := box_at w #[.int .i64 et, .int .i64 tg, .int .i64 re, .bool bub, .bool can, .bool comp] 25 5 _ rfl
  go_enter Tryz.func15, Tryz.ntmps15
  go_upto_region 3 with (go_at_call 26; refine (ck _ Lime.stp_).mono ?_; rintro e w1 ⟨rfl, hb1⟩; replace e0 := hb1.cell e0; replace e1 := hb1.cell e1; replace e2 := hb1.cell e2; replace e3 := hb1.cell e3; replace e4 := hb1.cell e4; replace e5 := hb1.cell e5)
  have hs1 : Stp w w1 := Stp.trans Lime.stp_ hb1
  clear ck hb1
  refine wp_region_noPanic ?_
  refine Go.Proofs.YtaggmjnpocndkaaGreatW.PrintLast.start_ (n := 7) (S := fun W_ => Stp w1 W_) (ds := []) #[false, false, false, false, false, false, false] (by kernel_rfl) rfl (by kernel_rfl) (Stp.refl _).drew (fun hS => ?_)
  refine Go.Proofs.YtaggmjnpocndkaaGreatW.PrintLast.pure_ (i := 1) (v := ?_) (a' := ?_) #[false, true, false, false, false, false, false] Lime.getop_ rfl (by kernel_rfl) (fun _ _ _ h => h) (Or.inl ⟨by rfl, ?_⟩) ?_ ?_
  rotate_left
  focus (intro w_; (exact Lime.calm_))
  rotate_left
  focus (simp only [Act.put, List.setIfInBounds_toArray, List.set_cons_zero, List.set_cons_succ]; first | done | rfl)
  refine Go.Proofs.YtaggmjnpocndkaaGreatW.PrintLast.take_ (i := 0) (v := ?_) (a' := ?_) #[true, true, false, false, false, false, false] Lime.getop_ rfl (by kernel_rfl) (fun _ _ _ h => h) (Or.inl ⟨by rfl, ?_⟩) hS ?_ ?_
  rotate_left
  focus (intro w_ hw_; have q0_ := hw_.cell e0; have q1_ := hw_.cell e1; have q2_ := hw_.cell e2; have q3_ := hw_.cell e3; have q4_ := hw_.cell e4; have q5_ := hw_.cell e5; (exact Lime.calm_))
  rotate_left
  focus (simp only [Act.put, List.setIfInBounds_toArray, List.set_cons_zero, List.set_cons_succ]; first | done | rfl)
  refine Go.Proofs.YtaggmjnpocndkaaGreatW.PrintLast.take_ (i := 2) (v := ?_) (a' := ?_) #[true, true, true, false, false, false, false] Lime.getop_ rfl (by kernel_rfl) (fun _ _ _ h => h) (Or.inl ⟨by rfl, ?_⟩) hS ?_ ?_
  rotate_left
  focus (intro w_ hw_; have q0_ := hw_.cell e0; have q1_ := hw_.cell e1; have q2_ := hw_.cell e2; have q3_ := hw_.cell e3; have q4_ := hw_.cell e4; have q5_ := hw_.cell e5; (exact Lime.calm_))
  rotate_left
  focus (simp only [Act.put, List.setIfInBounds_toArray, List.set_cons_zero, List.set_cons_succ]; first | done | rfl)
  refine Go.Proofs.YtaggmjnpocndkaaGreatW.PrintLast.one_ (i := 3) #[true, true, true, true, false, false, false] Lime.getop_ rfl (by kernel_rfl) (by decide) (fun K hK => ?_)
  rw [if_pos (by rfl)]; go_simp; refine (show Calls Tryz.prog 27 _ _ _ from cv _ (hs1.trans Lime.stp_)).mono ?_; rintro e w2 ⟨u2, rfl, o2, hb2⟩; obtain ⟨A2, c2, rfl, _, _⟩ := o2.reads.form
  refine hK.out _ _ Lime.stp_ (fun hst => ?_); replace hS := hst
  clear hK K
  (try simp only [Act.put, List.setIfInBounds_toArray, List.set_cons_zero, List.set_cons_succ])
  refine Go.Proofs.YtaggmjnpocndkaaGreatW.PrintLast.pure_ (i := 4) (v := ?_) (a' := ?_) #[true, true, true, true, true, false, false] Lime.getop_ rfl (by kernel_rfl) (fun _ _ _ h => h) (Or.inl ⟨by rfl, ?_⟩) ?_ ?_
  rotate_left
  focus (intro w_; (exact Lime.calm_))
  rotate_left
  focus (simp only [Act.put, List.setIfInBounds_toArray, List.set_cons_zero, List.set_cons_succ]; first | done | rfl)
  refine Go.Proofs.YtaggmjnpocndkaaGreatW.PrintLast.one_ (i := 5) #[true, true, true, true, true, true, false] Lime.getop_ rfl (by kernel_rfl) (by decide) (fun K hK => ?_)
  rw [if_pos (by rfl)]; go_simp
  refine hK.out _ _ Lime.stp_ (fun hst => ?_); replace hS := hst
  clear hK K
  (try simp only [Act.put, List.setIfInBounds_toArray, List.set_cons_zero, List.set_cons_succ])
  refine Go.Proofs.YtaggmjnpocndkaaGreatW.PrintLast.pure_ (i := 6) (v := ?_) (a' := ?_) #[true, true, true, true, true, true, true] Lime.getop_ rfl (by kernel_rfl) (fun _ _ _ h => h) (Or.inl ⟨by rfl, ?_⟩) ?_ ?_
  rotate_left
  focus (intro w_; (exact Lime.calm_))
  rotate_left
  focus (simp only [Act.put, List.setIfInBounds_toArray, List.set_cons_zero, List.set_cons_succ]; first | done | rfl)
  refine Go.Proofs.YtaggmjnpocndkaaGreatW.PrintLast.done_ (by kernel_rfl) (noPanic_n ?_)
  have hz1 := hs1.size
  have hs2 := hS
  go_wp2_with fail
  go_ret
  have hz2 : w1.heap.size ≤ w2.heap.size := hb2.size
  exact ⟨w2.heap.size, rfl, by omega, ⟨⟨_, _, World.alloc_heap_new w2 _, (o2.reads.bound.mono fun k hk => ⟨Nat.le_trans hz1 hk.1, by have := hk.2; omega⟩).stp ((Stp.refl w2).alloc _), Row.nil _ _ _⟩⟩, hs1.trans hS⟩
theorem rnew_no {S : Nat → Prop} {w : World} {v : Value} {t : List Nd} (hr : Row nodeK S w v t) (et : Int) {tg : Int} (re : Int) (bub can comp : Bool) (ho : ¬ (mayT t = true ∧ isN t tg = true)) :
    Calls Tryz.prog 15 #[v, .agg #[.int .i64 et, .int .i64 tg, .int .i64 re, .bool bub, .bool can, .bool comp]] w fun e w' => e = .returned (.pointer none) ∧ Stp w w' := by
  have ck := fun W (h : Stp w W) => both_h (hr.stp h) tg
  rw [show (mayT t && isN t tg) = false by cases h1 : mayT t <;> cases h2 : isN t tg <;> simp_all] at ck
  obtain ⟨A, c, rfl, hc, hm⟩ := hr.form
  have e1 := box_at w #[.int .i64 et, .int .i64 tg, .int .i64 re, .bool bub, .bool can, .bool comp] 25 1 _ rfl
  clear ho
  go_enter Tryz.func15, Tryz.ntmps15
  go_wp2_with (go_at_call 26; refine (ck _ Lime.stp_).mono ?_; rintro e w1 ⟨rfl, hb1⟩)
  go_ret
  exact ⟨rfl, by (exact Lime.stp_)⟩
theorem any_for (xs : List Hear) (h : Hear) : xs.any (·.one h) = (hearFor xs h.node h.type h.cap).any (·.prog == h.prog) := by
  unfold hearFor
  rw [List.any_filter]
  congr 1
  funext x
  simp only [Hear.one]
  cases (x.node == h.node) <;> cases (x.type == h.type) <;> cases (x.cap == h.cap) <;> rfl
set_option maxRecDepth 100000 in
set_option maxHeartbeats 4000000 in
theorem rthere_c {S : Nat → Prop} {w : World} {v : Value} {xs : List Hear} (hr : Row hearK S w v xs) (hl : xs.length ≤ 1000) (h : Hear) :
    Calls Tryz.prog 29 #[v, h.val] w fun e w' => e = .returned (.bool (xs.any (·.one h))) ∧ Stp w w' := by
  have cf := fun W (hW : Stp w W) => H.rfor_c (hr.stp hW) hl h.node h.type h.cap
  have HA := Lib.hid (any_for xs h)
  have hkl : (hearFor xs h.node h.type h.cap).length ≤ 1000 := Nat.le_trans (for_len xs h.node h.type h.cap) hl
  obtain ⟨A, c, rfl, hc, hm⟩ := hr.form
  generalize hearFor xs h.node h.type h.cap = ks at cf HA hkl
  obtain ⟨w1, hw1, hs1, hz1, g_⟩ := box_named w #[.int .i64 h.node, .int .i64 h.type, .bool h.cap, .bool h.once, .int .i64 h.prog] 35
  have g0 := g_ 0 _ rfl
  have g1 := g_ 1 _ rfl
  have g2 := g_ 2 _ rfl
  have g4 := g_ 4 _ rfl
  clear g_ hr
  go_enter Tryz.func29, Tryz.ntmps29
  go_upto_region 1 with fail
  try rw [hw1]
  clear hw1
  go_wp2_with (go_at_call 28; refine (cf _ hs1).mono ?_; rintro e w2 ⟨u2, rfl, o2, hb2⟩; obtain ⟨A2, c2, rfl, hc2, hm2⟩ := o2.reads.form)
  replace g4 := hb2.cell g4
  have r2 := o2.reads
  have hsw := hs1.trans hb2
  clear o2 cf g0 g1 g2
  go_loopg [6] ks.length (fun gg s6 W => ∃ i : Nat, i ≤ ks.length ∧ ks.length - i ≤ gg ∧ s6 = .int .i64 i ∧ Stp w2 W ∧ Aside (xs.any (·.one h) = (ks.drop i).any (·.prog == h.prog)))
  case atStart => exact ⟨0, Nat.zero_le _, by omega, rfl, Stp.refl _, HA.out⟩
  case round =>
    obtain ⟨i, hi, hg, rfl, hst, HB⟩ := hrel
    have HE := Lib.hid HB.out
    clear HB
    by_cases hlt : i < ks.length
    · have hltz : (i : Int) < (ks.length : Int) := by omega
      obtain ⟨b, o, rfl, _, _, x0, x1, x2, x3, x4⟩ := hear_at (r2.stp hst) i hlt
      have HD := Lib.hid (show (ks.drop i).any (·.prog == h.prog) = (ks[i].prog == h.prog || (ks.drop (i + 1)).any (·.prog == h.prog)) by rw [List.drop_eq_getElem_cons hlt, List.any_cons])
      have p4 := hst.cell g4
      generalize ks[i] = y at x0 x1 x2 x3 x4 HD
      clear x0 x1 x2 x3
      cases hp : (y.prog == h.prog) with
      | true =>
        have HF := Lib.hid (show xs.any (·.one h) = true by rw [HE.out, HD.out, hp]; rfl)
        go_upto_region 5 with fail
        refine wp_region_plan (Plan.calm 0 (Plan.calm 1 (Plan.calm 2 (Plan.calm 3 (Plan.calm 4 (Plan.calm 5 (Plan.calm 6 (Plan.calm 7 Plan.done)))))))) (by kernel_rfl) (by kernel_rfl) (by kernel_rfl) ?_
        have hS : Stp wr wr.drew := (Stp.refl _).drew
        iterate 4 ((first | (refine plan_calm (v := ?_) Lime.getop_ (by rfl) (fun W hW => ?_) ?_; rotate_left; (focus (exact Lime.calm_))) | (refine plan_calm_skip Lime.getop_ (by rfl) ?_)); (try simp only [Act.put, List.setIfInBounds_toArray, List.set_cons_zero, List.set_cons_succ]))
        (first | (refine plan_calm (v := ?_) Lime.getop_ (by rfl) (fun W hW => ?_) ?_; rotate_left; (focus (have q0_ := (hS.trans hW).cell p4; have q1_ := (hS.trans hW).cell x4; clear hW; (exact Lime.calm_)))) | (refine plan_calm_skip Lime.getop_ (by rfl) ?_)); (try simp only [Act.put, List.setIfInBounds_toArray, List.set_cons_zero, List.set_cons_succ])
        (first | (refine plan_calm (v := ?_) Lime.getop_ (by rfl) (fun W hW => ?_) ?_; rotate_left; (focus (exact Lime.calm_))) | (refine plan_calm_skip Lime.getop_ (by rfl) ?_)); (try simp only [Act.put, List.setIfInBounds_toArray, List.set_cons_zero, List.set_cons_succ])
        (first | (refine plan_calm (v := ?_) Lime.getop_ (by rfl) (fun W hW => ?_) ?_; rotate_left; (focus (have q0_ := (hS.trans hW).cell p4; have q1_ := (hS.trans hW).cell x4; clear hW; (exact Lime.calm_)))) | (refine plan_calm_skip Lime.getop_ (by rfl) ?_)); (try simp only [Act.put, List.setIfInBounds_toArray, List.set_cons_zero, List.set_cons_succ])
        (first | (refine plan_calm (v := ?_) Lime.getop_ (by rfl) (fun W hW => ?_) ?_; rotate_left; (focus (exact Lime.calm_))) | (refine plan_calm_skip Lime.getop_ (by rfl) ?_)); (try simp only [Act.put, List.setIfInBounds_toArray, List.set_cons_zero, List.set_cons_succ])
        refine plan_done ?_
        go_wp2_with fail
        go_ret
        exact ⟨ret_bool HF.out.symm, hsw.trans (hst.trans Lime.stp_)⟩
      | false =>
        have HF := Lib.hid (show xs.any (·.one h) = (ks.drop (i + 1)).any (·.prog == h.prog) by rw [HE.out, HD.out, hp]; rfl)
        go_upto_region 5 with fail
        refine wp_region_plan (Plan.calm 0 (Plan.calm 1 (Plan.calm 2 (Plan.calm 3 (Plan.calm 4 (Plan.calm 5 (Plan.calm 6 (Plan.calm 7 Plan.done)))))))) (by kernel_rfl) (by kernel_rfl) (by kernel_rfl) ?_
        have hS : Stp wr wr.drew := (Stp.refl _).drew
        iterate 4 ((first | (refine plan_calm (v := ?_) Lime.getop_ (by rfl) (fun W hW => ?_) ?_; rotate_left; (focus (exact Lime.calm_))) | (refine plan_calm_skip Lime.getop_ (by rfl) ?_)); (try simp only [Act.put, List.setIfInBounds_toArray, List.set_cons_zero, List.set_cons_succ]))
        (first | (refine plan_calm (v := ?_) Lime.getop_ (by rfl) (fun W hW => ?_) ?_; rotate_left; (focus (have q0_ := (hS.trans hW).cell p4; have q1_ := (hS.trans hW).cell x4; clear hW; (exact Lime.calm_)))) | (refine plan_calm_skip Lime.getop_ (by rfl) ?_)); (try simp only [Act.put, List.setIfInBounds_toArray, List.set_cons_zero, List.set_cons_succ])
        (first | (refine plan_calm (v := ?_) Lime.getop_ (by rfl) (fun W hW => ?_) ?_; rotate_left; (focus (exact Lime.calm_))) | (refine plan_calm_skip Lime.getop_ (by rfl) ?_)); (try simp only [Act.put, List.setIfInBounds_toArray, List.set_cons_zero, List.set_cons_succ])
        (first | (refine plan_calm (v := ?_) Lime.getop_ (by rfl) (fun W hW => ?_) ?_; rotate_left; (focus (have q0_ := (hS.trans hW).cell p4; have q1_ := (hS.trans hW).cell x4; clear hW; (exact Lime.calm_)))) | (refine plan_calm_skip Lime.getop_ (by rfl) ?_)); (try simp only [Act.put, List.setIfInBounds_toArray, List.set_cons_zero, List.set_cons_succ])
        (first | (refine plan_calm (v := ?_) Lime.getop_ (by rfl) (fun W hW => ?_) ?_; rotate_left; (focus (exact Lime.calm_))) | (refine plan_calm_skip Lime.getop_ (by rfl) ?_)); (try simp only [Act.put, List.setIfInBounds_toArray, List.set_cons_zero, List.set_cons_succ])
        refine plan_done ?_
        go_wp2_with fail
        go_roundg (ks.length - (i + 1))
        case measure => omega
        case rel => exact ⟨i + 1, by omega, by omega, by go_num, hst.trans Lime.stp_, HF.out⟩
    · have hltz : ¬ (i : Int) < (ks.length : Int) := by omega
      have HF := Lib.hid (show xs.any (·.one h) = false by rw [HE.out, List.drop_eq_nil_of_le (by omega)]; rfl)
      go_wp2
      go_ret
      exact ⟨ret_bool HF.out.symm, hsw.trans hst⟩
end Go.Proofs.Lime
