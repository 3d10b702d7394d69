/- Walks: the program's words for nodes: shadows, kids. Walk: the program's word for a node. Walks: the program's way up; whether one comes back; whether a tree may be. -/
import Derived.Test.YtaggmjnpocndkaaGreatML
import Derived.Test.YtaggmjnpocndkaaGreatMB
import Derived.Test.YtaggmjnpocndkaaGreatMN
import Derived.Test.YtaggmjnpocndkaaGreatMA
namespace Go.Proofs.Lime
open Go.RowKit
set_option linter.unusedVariables false
set_option linter.unusedSimpArgs false

set_option maxHeartbeats 2000000 in
theorem tshadow_c {S : Nat → Prop} {w : World} {v : Value} {t : List Nd} (hr : Row nodeK S w v t) {n : Nat} (hn : n < t.length) :
    Calls Tryz.prog 62 #[v, .int .i64 n] w fun e w' => e = .returned (.bool (shadowOk t n)) ∧ Stp w w' := by
  obtain ⟨A, c, rfl, hc, hm⟩ := hr.form
  obtain ⟨b, o, rfl, hS, hb, hN⟩ := tree_base hr (by omega)
  obtain ⟨Ak, ck, Aa, ca, N⟩ := hN n hn
  have HE : Aside (shadowOk t n = if t[n].kind = 3 then decide (t[n].root = -1) && (decide (t[n].parent = -1) && (isN t t[n].host && (decide ((nd t t[n].host).kind = 1) && decide ((nd t t[n].host).root = n)))) else decide (t[n].host = -1) && (decide (t[n].root = -1) || (decide (t[n].kind = 1) && (isN t t[n].root && (decide ((nd t t[n].root).kind = 3) && decide ((nd t t[n].root).host = n)))))) := by
    show shadowOk t n = _
    rw [shadowOk, nd_nat hn]
  generalize t[n] = x at N HE
  have x0 := N.c0
  have x1 := N.c1
  have x2 := N.c2
  have x3 := N.c3
  have x4 := N.c4
  have x5 := N.c5
  have x6 := N.c6
  have hnz : (n : Int) < (t.length : Int) := by omega
  clear N
  have HE2 := Lib.hid HE.out
  clear HE
  by_cases hk3 : x.kind = 3
  · by_cases hy : isN t x.host = true
    · skip
      obtain ⟨m, hpm, hmt⟩ := isN_nat hy
      obtain ⟨Bk, dk, Ba, da, M⟩ := hN m hmt
      have HK := Lib.hid (show nd t x.host = t[m] by rw [hpm, nd_nat hmt])
      generalize t[m] = z at M HK
      have z0 := M.c0
      have z4 := M.c4
      have z5 := M.c5
      clear M
      have hmz : (m : Int) < (t.length : Int) := by omega
      have ci := fun W => isT_c (w := W) (A := some ⟨b, o, none⟩) (t := t) x.host hc hm
      rw [hy] at ci
      have hy2 := Lib.hid hy
      have hpm2 := Lib.hid hpm
      rw [hpm] at ci
      rw [hpm] at x4
      clear hpm hy
      go_enter Tryz.func62, Tryz.ntmps62
      go_wp2_with (go_at_call 59; refine (ci _).mono ?_; rintro e w1 ⟨rfl, hb1⟩; replace z0 := Stp.cell (w' := w1) Lime.stp_ z0; replace z4 := Stp.cell (w' := w1) Lime.stp_ z4; replace z5 := Stp.cell (w' := w1) Lime.stp_ z5; have q0 := hb1.cell (box_at w _ _ 0 _ rfl); have q2 := hb1.cell (box_at w _ _ 2 _ rfl); have q4 := hb1.cell (box_at w _ _ 4 _ rfl); have q5 := hb1.cell (box_at w _ _ 5 _ rfl))
      all_goals
        go_ret
        exact ⟨ret_bool (by have h9 := hpm2.out; rw [HE2.out, HK.out, hy2.out]; clear hN hr HE2 HK hy2 hpm2 ci; grind), by (exact Lime.stp_)⟩
    · skip
      have hy0 : isN t x.host = false := by simpa using hy
      have ci := fun W => isT_c (w := W) (A := some ⟨b, o, none⟩) (t := t) x.host hc hm
      rw [hy0] at ci
      have hy2 := Lib.hid hy0
      clear hy hy0
      go_enter Tryz.func62, Tryz.ntmps62
      go_wp2_with (go_at_call 59; refine (ci _).mono ?_; rintro e w1 ⟨rfl, hb1⟩; have q0 := hb1.cell (box_at w _ _ 0 _ rfl); have q2 := hb1.cell (box_at w _ _ 2 _ rfl); have q4 := hb1.cell (box_at w _ _ 4 _ rfl); have q5 := hb1.cell (box_at w _ _ 5 _ rfl))
      all_goals
        go_ret
        exact ⟨ret_bool (by rw [HE2.out, hy2.out]; clear hN hr HE2 hy2 ci; grind), by (exact Lime.stp_)⟩
  · by_cases hy : isN t x.root = true
    · skip
      obtain ⟨m, hpm, hmt⟩ := isN_nat hy
      obtain ⟨Bk, dk, Ba, da, M⟩ := hN m hmt
      have HK := Lib.hid (show nd t x.root = t[m] by rw [hpm, nd_nat hmt])
      generalize t[m] = z at M HK
      have z0 := M.c0
      have z4 := M.c4
      have z5 := M.c5
      clear M
      have hmz : (m : Int) < (t.length : Int) := by omega
      have ci := fun W => isT_c (w := W) (A := some ⟨b, o, none⟩) (t := t) x.root hc hm
      rw [hy] at ci
      have hy2 := Lib.hid hy
      have hpm2 := Lib.hid hpm
      rw [hpm] at ci
      rw [hpm] at x5
      clear hpm hy
      go_enter Tryz.func62, Tryz.ntmps62
      go_wp2_with (go_at_call 59; refine (ci _).mono ?_; rintro e w1 ⟨rfl, hb1⟩; replace z0 := Stp.cell (w' := w1) Lime.stp_ z0; replace z4 := Stp.cell (w' := w1) Lime.stp_ z4; replace z5 := Stp.cell (w' := w1) Lime.stp_ z5; have q0 := hb1.cell (box_at w _ _ 0 _ rfl); have q2 := hb1.cell (box_at w _ _ 2 _ rfl); have q4 := hb1.cell (box_at w _ _ 4 _ rfl); have q5 := hb1.cell (box_at w _ _ 5 _ rfl))
      all_goals
        go_ret
        exact ⟨ret_bool (by have h9 := hpm2.out; rw [HE2.out, HK.out, hy2.out]; clear hN hr HE2 HK hy2 hpm2 ci; grind), by (exact Lime.stp_)⟩
    · skip
      have hy0 : isN t x.root = false := by simpa using hy
      have ci := fun W => isT_c (w := W) (A := some ⟨b, o, none⟩) (t := t) x.root hc hm
      rw [hy0] at ci
      have hy2 := Lib.hid hy0
      clear hy hy0
      go_enter Tryz.func62, Tryz.ntmps62
      go_wp2_with (go_at_call 59; refine (ci _).mono ?_; rintro e w1 ⟨rfl, hb1⟩; have q0 := hb1.cell (box_at w _ _ 0 _ rfl); have q2 := hb1.cell (box_at w _ _ 2 _ rfl); have q4 := hb1.cell (box_at w _ _ 4 _ rfl); have q5 := hb1.cell (box_at w _ _ 5 _ rfl))
      all_goals
        go_ret
        exact ⟨ret_bool (by rw [HE2.out, hy2.out]; clear hN hr HE2 hy2 ci; grind), by (exact Lime.stp_)⟩

set_option maxHeartbeats 2000000 in
theorem below_c {S : Nat → Prop} {w : World} {v : Value} {t : List Nd} (hr : Row nodeK S w v t) {n : Nat} (hn : n < t.length) (hk : t[n].kids.length ≤ 1000) (y : Int) :
    Calls Tryz.prog 65 #[v, .int .i64 n, .int .i64 y] w fun e w' => e = .returned (.bool (kidOk t n t[n].kids y)) ∧ Stp w w' := by
  obtain ⟨A, c, rfl, hc, hm⟩ := hr.form
  obtain ⟨b, o, rfl, hS, hb, hN⟩ := tree_base hr (by omega)
  obtain ⟨Ak, ck, Aa, ca, N⟩ := hN n hn
  have hnz : (n : Int) < (t.length : Int) := by omega
  by_cases hy : isN t y = true
  · obtain ⟨m, rfl, hmt⟩ := isN_nat hy
    obtain ⟨Bk, dk, Ba, da, M⟩ := hN m hmt
    rw [kid_yes hmt]
    generalize t[n] = x at N hk
    generalize t[m] = z at M
    have x3 := N.c3
    have hrk := N.kids
    have z0 := M.c0
    have z2 := M.c2
    have hmz : (m : Int) < (t.length : Int) := by omega
    have ci := fun W => isT_c (w := W) (A := some ⟨b, o, none⟩) (t := t) (m : Int) hc hm
    rw [hy] at ci
    have cc := fun W (hW : Stp w W) => once_c (hrk.stp hW) (m : Int) hk
    generalize x.kids.count (m : Int) = cn at cc
    clear N M hN hy
    go_enter Tryz.func65, Tryz.ntmps65
    go_wp2_with fail
    refine (show Calls Tryz.prog 59 _ _ _ from ci _).mono ?_
    rintro e w1 ⟨rfl, hb1⟩
    replace x3 := hb1.cell x3
    replace z0 := hb1.cell z0
    replace z2 := hb1.cell z2
    go_wp2_with fail
    refine (show Calls Tryz.prog 60 _ _ _ from cc _ Lime.stp_).mono ?_
    rintro e w2 ⟨rfl, hb2⟩
    replace z0 := hb2.cell z0
    replace z2 := hb2.cell z2
    go_wp2_with fail
    all_goals
      go_ret
      exact ⟨ret_bool (by clear hr hrk ci cc; grind), by (exact Lime.stp_)⟩
  · have hy0 : isN t y = false := by simpa using hy
    have ci := fun W => isT_c (w := W) (A := some ⟨b, o, none⟩) (t := t) y hc hm
    rw [hy0] at ci
    rw [kid_no hy0]
    go_enter Tryz.func65, Tryz.ntmps65
    go_wp2_with fail
    refine (show Calls Tryz.prog 59 _ _ _ from ci _).mono ?_
    rintro e w1 ⟨rfl, hb1⟩
    go_wp2
    go_ret
    exact ⟨rfl, by (exact Lime.stp_)⟩
end Go.Proofs.Lime
namespace Go.Proofs.Lime
open Go.RowKit
set_option linter.unusedVariables false
set_option linter.unusedSimpArgs false

theorem node1_c {S : Nat → Prop} {w : World} {v : Value} {t : List Nd} (hr : Row nodeK S w v t) {n : Nat} (hn : n < t.length) (hk : t[n].kids.length ≤ 1000) (y : Int) (B1 B2 : Nat)
    (h1 : w.cell? ⟨B1, 0, none⟩ = some v) (h2 : w.cell? ⟨B2, 0, none⟩ = some (.int .i64 n)) :
    Calls Tryz.prog 64 #[.int .i64 y, .pointer (some ⟨B1, 0, none⟩), .pointer (some ⟨B2, 0, none⟩)] w fun e w' => e = .returned (.bool (!kidOk t n t[n].kids y)) ∧ Stp w w' := by
  obtain ⟨A, c, rfl, hc, hm⟩ := hr.form
  have cb := fun W (hW : Stp w W) => below_c (hr.stp hW) hn hk y
  generalize kidOk t n t[n].kids y = kb at cb
  go_enter Tryz.func64, Tryz.ntmps64
  go_wp2_with fail
  refine (show Calls Tryz.prog 65 _ _ _ from cb _ Lime.stp_).mono ?_
  rintro e w1 ⟨rfl, hb1⟩
  go_wp2
  go_ret
  exact ⟨rfl, by (exact Lime.stp_)⟩

set_option maxRecDepth 100000 in
set_option maxHeartbeats 4000000 in
theorem node_c {S : Nat → Prop} {w : World} {v : Value} {t : List Nd} (hr : Row nodeK S w v t) (hks : ∀ k (hk : k < t.length), t[k].kids.length ≤ 1000) {n : Nat} (hn : n < t.length) :
    Calls Tryz.prog 46 #[v, .int .i64 n] w fun e w' => e = .returned (.bool (nodeOk t n)) ∧ Stp w w' := by
  obtain ⟨A, c, rfl, hc, hm⟩ := hr.form
  obtain ⟨b, o, rfl, hS, hb, hN⟩ := tree_base hr (by omega)
  obtain ⟨Ak, ck, Aa, ca, N⟩ := hN n hn
  have HO := Lib.hid (show nodeOk t n = (kindOk t[n] n && (attrsOk t[n] && (kidsOk t n && shadowOk t n))) by rw [nodeOk, nd_nat hn])
  have HKS := Lib.hid (show kidsOk t n = (t[n].kids.all (kidOk t n t[n].kids) && (!(decide (t[n].kind = 2) && decide (0 < t[n].kids.length)) && (decide (t[n].parent = -1) || (isN t t[n].parent && decide ((nd t t[n].parent).kids.count (n : Int) = 1))))) by rw [kidsOk, nd_nat hn])
  have hkn := hks n hn
  have cn1 := fun W y B1 B2 (hW : Stp w W) => node1_c (hr.stp hW) hn hkn y B1 B2
  have csh := fun W (hW : Stp w W) => tshadow_c (hr.stp hW) hn
  generalize shadowOk t n = sb at csh HO
  generalize hx : t[n] = x at N HO HKS hkn cn1
  clear hx
  have cat := fun W (hW : Stp w W) hki => tattrs_c (.slice Ak x.kids.length ck) (N.attrs.stp hW) N.a1 N.a2 hki
  generalize attrsOk x = ab at cat HO
  have x0 := N.c0
  have x1 := N.c1
  have x2 := N.c2
  have x3 := N.c3
  have x4 := N.c4
  have x5 := N.c5
  have x6 := N.c6
  have hrk := N.kids
  have hnz : (n : Int) < (t.length : Int) := by omega
  clear N
  have e59 := (enters_of Tryz.func64 (by kernel_rfl) rfl)
  go_enter Tryz.func46, Tryz.ntmps46
  go_wp2_with fail
  obtain ⟨wa, hwa, hba, hza, gca⟩ := box_named w #[.slice (some ⟨b, o, none⟩) t.length c] 23
  rw [hwa]
  have cT := gca 0 _ rfl
  obtain ⟨wb, hwb, hbb, hzb, gcb⟩ := box_named wa #[.int .i64 n] 3
  rw [hwb]
  have cN := gcb 0 _ rfl
  obtain ⟨w0, hw0, hb0, hz0, gc⟩ := box_named wb #[.int .i64 x.kind, .int .i64 x.tag, .int .i64 x.parent, .slice Ak x.kids.length ck, .int .i64 x.host, .int .i64 x.root, .slice Aa x.attrs.length ca] 51
  rw [hw0]
  have g0 := gc 0 _ rfl
  have g1 := gc 1 _ rfl
  have g2 := gc 2 _ rfl
  have g3 := gc 3 _ rfl
  have g4 := gc 4 _ rfl
  have g5 := gc 5 _ rfl
  have g6 := gc 6 _ rfl
  replace cT := hb0.cell (hbb.cell cT)
  replace cN := hb0.cell cN
  rw [hza] at cN hzb
  rw [hzb] at g0 g1 g2 g3 g4 g5 g6
  have hs0 : Stp w w0 := (hba.trans hbb).trans hb0
  clear hwa hwb hw0 gca gcb gc x0 x1 x2 x3 x4 x5 x6
  refine (in_c _ _ _ _).mono ?_
  rintro e w1 ⟨rfl, hb1⟩
  replace cT := Stp.cell (w' := w1) Lime.stp_ cT
  replace cN := Stp.cell (w' := w1) Lime.stp_ cN
  replace g0 := Stp.cell (w' := w1) Lime.stp_ g0
  replace g1 := Stp.cell (w' := w1) Lime.stp_ g1
  replace g2 := Stp.cell (w' := w1) Lime.stp_ g2
  replace g3 := Stp.cell (w' := w1) Lime.stp_ g3
  replace g4 := Stp.cell (w' := w1) Lime.stp_ g4
  replace g5 := Stp.cell (w' := w1) Lime.stp_ g5
  replace g6 := Stp.cell (w' := w1) Lime.stp_ g6
  by_cases hkind : kindOk x n = true
  · have hki : 0 ≤ x.kind ∧ x.kind ≤ 3 := by clear hr hrk cn1 csh cat; grind [kindOk]
    have hkd := Lib.hid hkind
    refine (Decidable.em (x.kind = 1)).elim (fun hk1 => ?_) (fun hk1 => (Decidable.em (x.kind = 2)).elim (fun hk2 => ?_) (fun hk2 => ?_))
    all_goals
      go_wp2_with (go_at_call 45; refine (in_c _ _ _ _).mono ?_; rintro e w2 ⟨rfl, hb2⟩; replace cT := Stp.cell (w' := w2) Lime.stp_ cT; replace cN := Stp.cell (w' := w2) Lime.stp_ cN; replace g0 := Stp.cell (w' := w2) Lime.stp_ g0; replace g1 := Stp.cell (w' := w2) Lime.stp_ g1; replace g2 := Stp.cell (w' := w2) Lime.stp_ g2; replace g3 := Stp.cell (w' := w2) Lime.stp_ g3; replace g4 := Stp.cell (w' := w2) Lime.stp_ g4; replace g5 := Stp.cell (w' := w2) Lime.stp_ g5; replace g6 := Stp.cell (w' := w2) Lime.stp_ g6)
      all_goals first
        | (exfalso; clear hr hrk cn1 csh cat HO HKS; have h9 := hkd.out; grind [kindOk])
        | (go_ret; exact ⟨ret_bool (by rw [HO.out, HKS.out]; clear hr hrk cn1 csh cat HO HKS; grind), by (exact Lime.stp_)⟩)
        | skip
    all_goals
      have HT := Lib.hid (show (!(decide (x.kind = 2) && decide (0 < x.kids.length))) = true by clear hr hrk cn1 csh cat HO HKS; grind)
      try clear hk2
      clear hk1
      first | guard_hyp w2 : World | (obtain ⟨w2, hw2⟩ : ∃ w2, w2 = w1 := ⟨_, rfl⟩; subst hw2)
      by_cases hp : x.parent = -1
      · have hpz : (x.parent != -1) = false := by simp [hp]
        have HPA := Lib.hid (show (decide (x.parent = -1) || (isN t x.parent && decide ((nd t x.parent).kids.count (n : Int) = 1))) = true by simp [hp])
        clear hp
        refine wp_region_plan (Plan.calm 0 (Plan.calm 1 (Plan.calm 2 (Plan.calm 3 (Plan.calm 4 (Plan.calm 5 (Plan.calm 6 (Plan.alt 7 (Plan.calm 8 (Plan.calm 9 (Plan.calm 10 (Plan.calm 11 (Plan.calm 12 (Plan.calm 13 (Plan.calm 14 (Plan.calm 15 (Plan.calm 16 (Plan.alt 17 (Plan.calm 18 (Plan.calm 19 (Plan.calm 20 (Plan.calm 21 Plan.done)))) Plan.stop)))))))))) Plan.stop)))))))) (by kernel_rfl) (by kernel_rfl) (by kernel_rfl) ?_
        have hS : Stp w2 w2.drew := (Stp.refl _).drew
        (first | (refine plan_calm (v := ?_) Lime.getop_ (by rfl) (fun W hW => ?_) ?_; rotate_left; (focus (exact Lime.calm_))) | (refine plan_calm_skip Lime.getop_ (by rfl) ?_)); (try simp only [Act.put, List.setIfInBounds_toArray, List.set_cons_zero, List.set_cons_succ])
        (first | (refine plan_calm (v := ?_) Lime.getop_ (by rfl) (fun W hW => ?_) ?_; rotate_left; (focus (have q0_ := (hS.trans hW).cell cT; have q1_ := (hS.trans hW).cell cN; have q2_ := (hS.trans hW).cell g2; clear hW; (exact Lime.calm_)))) | (refine plan_calm_skip Lime.getop_ (by rfl) ?_)); (try simp only [Act.put, List.setIfInBounds_toArray, List.set_cons_zero, List.set_cons_succ])
        iterate 2 ((first | (refine plan_calm (v := ?_) Lime.getop_ (by rfl) (fun W hW => ?_) ?_; rotate_left; (focus (exact Lime.calm_))) | (refine plan_calm_skip Lime.getop_ (by rfl) ?_)); (try simp only [Act.put, List.setIfInBounds_toArray, List.set_cons_zero, List.set_cons_succ]))
        (first | (refine plan_calm (v := ?_) Lime.getop_ (by rfl) (fun W hW => ?_) ?_; rotate_left; (focus (have q0_ := (hS.trans hW).cell cT; have q1_ := (hS.trans hW).cell cN; have q2_ := (hS.trans hW).cell g2; clear hW; (exact Lime.calm_)))) | (refine plan_calm_skip Lime.getop_ (by rfl) ?_)); (try simp only [Act.put, List.setIfInBounds_toArray, List.set_cons_zero, List.set_cons_succ])
        (first | (refine plan_calm (v := ?_) Lime.getop_ (by rfl) (fun W hW => ?_) ?_; rotate_left; (focus (exact Lime.calm_))) | (refine plan_calm_skip Lime.getop_ (by rfl) ?_)); (try simp only [Act.put, List.setIfInBounds_toArray, List.set_cons_zero, List.set_cons_succ])
        (first | (refine plan_calm (v := ?_) Lime.getop_ (by rfl) (fun W hW => ?_) ?_; rotate_left; (focus (have q0_ := (hS.trans hW).cell cT; have q1_ := (hS.trans hW).cell cN; have q2_ := (hS.trans hW).cell g2; clear hW; (exact Lime.calm_)))) | (refine plan_calm_skip Lime.getop_ (by rfl) ?_)); (try simp only [Act.put, List.setIfInBounds_toArray, List.set_cons_zero, List.set_cons_succ])
        (first | (refine plan_event Lime.getop_ (by rfl) (fun K hK => ?_) plan_stop; go_simp; refine hK _ _ ?_ (fun hst => ?_); (focus (exact Lime.stp_)); replace hS := hS.trans hst; clear hst hK K) | refine plan_event_skip Lime.getop_ (by rfl) ?_ plan_stop); (try simp only [Act.put, List.setIfInBounds_toArray, List.set_cons_zero, List.set_cons_succ])
        iterate 2 ((first | (refine plan_calm (v := ?_) Lime.getop_ (by rfl) (fun W hW => ?_) ?_; rotate_left; (focus (exact Lime.calm_))) | (refine plan_calm_skip Lime.getop_ (by rfl) ?_)); (try simp only [Act.put, List.setIfInBounds_toArray, List.set_cons_zero, List.set_cons_succ]))
        (first | (refine plan_calm (v := ?_) Lime.getop_ (by rfl) (fun W hW => ?_) ?_; rotate_left; (focus (have q0_ := (hS.trans hW).cell cT; have q1_ := (hS.trans hW).cell cN; have q2_ := (hS.trans hW).cell g2; clear hW; (exact Lime.calm_)))) | (refine plan_calm_skip Lime.getop_ (by rfl) ?_)); (try simp only [Act.put, List.setIfInBounds_toArray, List.set_cons_zero, List.set_cons_succ])
        (first | (refine plan_calm (v := ?_) Lime.getop_ (by rfl) (fun W hW => ?_) ?_; rotate_left; (focus (exact Lime.calm_))) | (refine plan_calm_skip Lime.getop_ (by rfl) ?_)); (try simp only [Act.put, List.setIfInBounds_toArray, List.set_cons_zero, List.set_cons_succ])
        (first | (refine plan_calm (v := ?_) Lime.getop_ (by rfl) (fun W hW => ?_) ?_; rotate_left; (focus (have q0_ := (hS.trans hW).cell cT; have q1_ := (hS.trans hW).cell cN; have q2_ := (hS.trans hW).cell g2; clear hW; (exact Lime.calm_)))) | (refine plan_calm_skip Lime.getop_ (by rfl) ?_)); (try simp only [Act.put, List.setIfInBounds_toArray, List.set_cons_zero, List.set_cons_succ])
        iterate 2 ((first | (refine plan_calm (v := ?_) Lime.getop_ (by rfl) (fun W hW => ?_) ?_; rotate_left; (focus (exact Lime.calm_))) | (refine plan_calm_skip Lime.getop_ (by rfl) ?_)); (try simp only [Act.put, List.setIfInBounds_toArray, List.set_cons_zero, List.set_cons_succ]))
        (first | (refine plan_calm (v := ?_) Lime.getop_ (by rfl) (fun W hW => ?_) ?_; rotate_left; (focus (have q0_ := (hS.trans hW).cell cT; have q1_ := (hS.trans hW).cell cN; have q2_ := (hS.trans hW).cell g2; clear hW; (exact Lime.calm_)))) | (refine plan_calm_skip Lime.getop_ (by rfl) ?_)); (try simp only [Act.put, List.setIfInBounds_toArray, List.set_cons_zero, List.set_cons_succ])
        (first | (refine plan_calm (v := ?_) Lime.getop_ (by rfl) (fun W hW => ?_) ?_; rotate_left; (focus (have q0_ := (hS.trans hW).cell cT; have q1_ := (hS.trans hW).cell cN; have q2_ := (hS.trans hW).cell g2; clear hW; (exact Lime.calm_)))) | (refine plan_calm_skip Lime.getop_ (by rfl) ?_)); (try simp only [Act.put, List.setIfInBounds_toArray, List.set_cons_zero, List.set_cons_succ])
        (first | (refine plan_event Lime.getop_ (by rfl) (fun K hK => ?_) plan_stop; go_simp; refine hK _ _ ?_ (fun hst => ?_); (focus (exact Lime.stp_)); replace hS := hS.trans hst; clear hst hK K) | refine plan_event_skip Lime.getop_ (by rfl) ?_ plan_stop); (try simp only [Act.put, List.setIfInBounds_toArray, List.set_cons_zero, List.set_cons_succ])
        iterate 4 ((first | (refine plan_calm (v := ?_) Lime.getop_ (by rfl) (fun W hW => ?_) ?_; rotate_left; (focus (exact Lime.calm_))) | (refine plan_calm_skip Lime.getop_ (by rfl) ?_)); (try simp only [Act.put, List.setIfInBounds_toArray, List.set_cons_zero, List.set_cons_succ]))
        refine plan_done ?_
        replace cT := Stp.cell (w' := w2) Lime.stp_ cT
        replace cN := Stp.cell (w' := w2) Lime.stp_ cN
        replace g0 := Stp.cell (w' := w2) Lime.stp_ g0
        replace g1 := Stp.cell (w' := w2) Lime.stp_ g1
        replace g2 := Stp.cell (w' := w2) Lime.stp_ g2
        replace g3 := Stp.cell (w' := w2) Lime.stp_ g3
        replace g4 := Stp.cell (w' := w2) Lime.stp_ g4
        replace g5 := Stp.cell (w' := w2) Lime.stp_ g5
        replace g6 := Stp.cell (w' := w2) Lime.stp_ g6
        go_wp2_with fail
        refine (show Calls Tryz.prog 61 _ _ _ from cat _ Lime.stp_ hki).mono ?_
        rintro e w7 ⟨rfl, hb7⟩
        replace cT := Stp.cell (w' := w7) Lime.stp_ cT
        replace cN := Stp.cell (w' := w7) Lime.stp_ cN
        replace g0 := Stp.cell (w' := w7) Lime.stp_ g0
        replace g1 := Stp.cell (w' := w7) Lime.stp_ g1
        replace g2 := Stp.cell (w' := w7) Lime.stp_ g2
        replace g3 := Stp.cell (w' := w7) Lime.stp_ g3
        replace g4 := Stp.cell (w' := w7) Lime.stp_ g4
        replace g5 := Stp.cell (w' := w7) Lime.stp_ g5
        replace g6 := Stp.cell (w' := w7) Lime.stp_ g6
        go_wp2_with (first | (go_at_call 62; refine (csh _ Lime.stp_).mono ?_; rintro e w8 ⟨rfl, hb8⟩; replace cT := Stp.cell (w' := w8) Lime.stp_ cT; replace cN := Stp.cell (w' := w8) Lime.stp_ cN; replace g3 := Stp.cell (w' := w8) Lime.stp_ g3) | (go_at_call 63; refine (containsFuncI_c (hrk.stp Lime.stp_) (fun y => !kidOk t n x.kids y) _ _ e59 ?hp).mono ?_; (case hp => exact fun W y hW => cn1 W y _ _ Lime.stp_ (hW.cell cT) (hW.cell cN)); rintro e w9 ⟨rfl, hb9⟩))
        all_goals
          go_ret
          exact ⟨ret_bool (by
            have h1 := HT.out
            have h2 := HPA.out
            have h3 := hkd.out
            rw [HO.out, HKS.out, h1, h2, h3]
            have h4 : (x.kids.any fun y => !kidOk t n x.kids y) = !x.kids.all (kidOk t n x.kids) := by simp [List.all_eq_not_any_not]
            first
              | (rw [h4]; clear hr hrk cn1 csh cat HO HKS; grind)
              | (clear hr hrk cn1 csh cat HO HKS; grind)), by (exact Lime.stp_)⟩
      · have hpz : (x.parent != -1) = true := by simp [hp]
        have hpq := Lib.hid hp
        clear hp
        by_cases hy : isN t x.parent = true
        · obtain ⟨m, hpm, hmt⟩ := isN_nat hy
          obtain ⟨Bk, dk, Ba, da, M⟩ := hN m hmt
          have HK := Lib.hid (show (nd t x.parent).kids = t[m].kids by rw [hpm, nd_nat hmt])
          have HY := Lib.hid hy
          have ci := fun W => isT_c (w := W) (A := some ⟨b, o, none⟩) (t := t) x.parent hc hm
          rw [hy] at ci
          have hmk := hks m hmt
          generalize t[m] = z at M HK hmk
          have z3 := Stp.cell (w' := w2) Lime.stp_ M.c3
          have hrm := M.kids
          have hmz : (m : Int) < (t.length : Int) := by omega
          have hpm2 := Lib.hid hpm
          rw [hpm] at ci g2 hpz
          clear M hpm hy
          by_cases hcn : z.kids.count (n : Int) = 1
          · have cc := fun W (hW : Stp w W) => once_c (hrm.stp hW) (n : Int) hmk
            rw [decide_eq_true hcn] at cc
            have HPA := Lib.hid (show (decide (x.parent = -1) || (isN t x.parent && decide ((nd t x.parent).kids.count (n : Int) = 1))) = true by rw [HY.out, HK.out, hcn]; simp)
            clear hcn
            go_wp2_with fail
            refine wp_region_plan (Plan.calm 0 (Plan.calm 1 (Plan.calm 2 (Plan.calm 3 (Plan.calm 4 (Plan.calm 5 (Plan.calm 6 (Plan.alt 7 (Plan.calm 8 (Plan.calm 9 (Plan.calm 10 (Plan.calm 11 (Plan.calm 12 (Plan.calm 13 (Plan.calm 14 (Plan.calm 15 (Plan.calm 16 (Plan.alt 17 (Plan.calm 18 (Plan.calm 19 (Plan.calm 20 (Plan.calm 21 Plan.done)))) Plan.stop)))))))))) Plan.stop)))))))) (by kernel_rfl) (by kernel_rfl) (by kernel_rfl) ?_
            have hS : Stp w2 w2.drew := (Stp.refl _).drew
            (first | (refine plan_calm (v := ?_) Lime.getop_ (by rfl) (fun W hW => ?_) ?_; rotate_left; (focus (exact Lime.calm_))) | (refine plan_calm_skip Lime.getop_ (by rfl) ?_)); (try simp only [Act.put, List.setIfInBounds_toArray, List.set_cons_zero, List.set_cons_succ])
            (first | (refine plan_calm (v := ?_) Lime.getop_ (by rfl) (fun W hW => ?_) ?_; rotate_left; (focus (have q0_ := (hS.trans hW).cell cT; have q1_ := (hS.trans hW).cell cN; have q2_ := (hS.trans hW).cell g2; have q3_ := (hS.trans hW).cell z3; clear hW; (exact Lime.calm_)))) | (refine plan_calm_skip Lime.getop_ (by rfl) ?_)); (try simp only [Act.put, List.setIfInBounds_toArray, List.set_cons_zero, List.set_cons_succ])
            iterate 2 ((first | (refine plan_calm (v := ?_) Lime.getop_ (by rfl) (fun W hW => ?_) ?_; rotate_left; (focus (exact Lime.calm_))) | (refine plan_calm_skip Lime.getop_ (by rfl) ?_)); (try simp only [Act.put, List.setIfInBounds_toArray, List.set_cons_zero, List.set_cons_succ]))
            (first | (refine plan_calm (v := ?_) Lime.getop_ (by rfl) (fun W hW => ?_) ?_; rotate_left; (focus (have q0_ := (hS.trans hW).cell cT; have q1_ := (hS.trans hW).cell cN; have q2_ := (hS.trans hW).cell g2; have q3_ := (hS.trans hW).cell z3; clear hW; (exact Lime.calm_)))) | (refine plan_calm_skip Lime.getop_ (by rfl) ?_)); (try simp only [Act.put, List.setIfInBounds_toArray, List.set_cons_zero, List.set_cons_succ])
            (first | (refine plan_calm (v := ?_) Lime.getop_ (by rfl) (fun W hW => ?_) ?_; rotate_left; (focus (exact Lime.calm_))) | (refine plan_calm_skip Lime.getop_ (by rfl) ?_)); (try simp only [Act.put, List.setIfInBounds_toArray, List.set_cons_zero, List.set_cons_succ])
            (first | (refine plan_calm (v := ?_) Lime.getop_ (by rfl) (fun W hW => ?_) ?_; rotate_left; (focus (have q0_ := (hS.trans hW).cell cT; have q1_ := (hS.trans hW).cell cN; have q2_ := (hS.trans hW).cell g2; have q3_ := (hS.trans hW).cell z3; clear hW; (exact Lime.calm_)))) | (refine plan_calm_skip Lime.getop_ (by rfl) ?_)); (try simp only [Act.put, List.setIfInBounds_toArray, List.set_cons_zero, List.set_cons_succ])
            (first | (refine plan_event Lime.getop_ (by rfl) (fun K hK => ?_) plan_stop; go_simp; refine (show Calls Tryz.prog 59 _ _ _ from ci _).mono ?_; rintro e w3 ⟨rfl, hb3⟩; refine hK _ _ ?_ (fun hst => ?_); (focus (exact Lime.stp_)); replace hS := hS.trans hst; clear hst hK K) | refine plan_event_skip Lime.getop_ (by rfl) ?_ plan_stop); (try simp only [Act.put, List.setIfInBounds_toArray, List.set_cons_zero, List.set_cons_succ])
            iterate 2 ((first | (refine plan_calm (v := ?_) Lime.getop_ (by rfl) (fun W hW => ?_) ?_; rotate_left; (focus (exact Lime.calm_))) | (refine plan_calm_skip Lime.getop_ (by rfl) ?_)); (try simp only [Act.put, List.setIfInBounds_toArray, List.set_cons_zero, List.set_cons_succ]))
            (first | (refine plan_calm (v := ?_) Lime.getop_ (by rfl) (fun W hW => ?_) ?_; rotate_left; (focus (have q0_ := (hS.trans hW).cell cT; have q1_ := (hS.trans hW).cell cN; have q2_ := (hS.trans hW).cell g2; have q3_ := (hS.trans hW).cell z3; clear hW; (exact Lime.calm_)))) | (refine plan_calm_skip Lime.getop_ (by rfl) ?_)); (try simp only [Act.put, List.setIfInBounds_toArray, List.set_cons_zero, List.set_cons_succ])
            (first | (refine plan_calm (v := ?_) Lime.getop_ (by rfl) (fun W hW => ?_) ?_; rotate_left; (focus (exact Lime.calm_))) | (refine plan_calm_skip Lime.getop_ (by rfl) ?_)); (try simp only [Act.put, List.setIfInBounds_toArray, List.set_cons_zero, List.set_cons_succ])
            (first | (refine plan_calm (v := ?_) Lime.getop_ (by rfl) (fun W hW => ?_) ?_; rotate_left; (focus (have q0_ := (hS.trans hW).cell cT; have q1_ := (hS.trans hW).cell cN; have q2_ := (hS.trans hW).cell g2; have q3_ := (hS.trans hW).cell z3; clear hW; (exact Lime.calm_)))) | (refine plan_calm_skip Lime.getop_ (by rfl) ?_)); (try simp only [Act.put, List.setIfInBounds_toArray, List.set_cons_zero, List.set_cons_succ])
            iterate 2 ((first | (refine plan_calm (v := ?_) Lime.getop_ (by rfl) (fun W hW => ?_) ?_; rotate_left; (focus (exact Lime.calm_))) | (refine plan_calm_skip Lime.getop_ (by rfl) ?_)); (try simp only [Act.put, List.setIfInBounds_toArray, List.set_cons_zero, List.set_cons_succ]))
            (first | (refine plan_calm (v := ?_) Lime.getop_ (by rfl) (fun W hW => ?_) ?_; rotate_left; (focus (have q0_ := (hS.trans hW).cell cT; have q1_ := (hS.trans hW).cell cN; have q2_ := (hS.trans hW).cell g2; have q3_ := (hS.trans hW).cell z3; clear hW; (exact Lime.calm_)))) | (refine plan_calm_skip Lime.getop_ (by rfl) ?_)); (try simp only [Act.put, List.setIfInBounds_toArray, List.set_cons_zero, List.set_cons_succ])
            (first | (refine plan_calm (v := ?_) Lime.getop_ (by rfl) (fun W hW => ?_) ?_; rotate_left; (focus (have q0_ := (hS.trans hW).cell cT; have q1_ := (hS.trans hW).cell cN; have q2_ := (hS.trans hW).cell g2; have q3_ := (hS.trans hW).cell z3; clear hW; (exact Lime.calm_)))) | (refine plan_calm_skip Lime.getop_ (by rfl) ?_)); (try simp only [Act.put, List.setIfInBounds_toArray, List.set_cons_zero, List.set_cons_succ])
            (first | (refine plan_event Lime.getop_ (by rfl) (fun K hK => ?_) plan_stop; go_simp; refine (show Calls Tryz.prog 60 _ _ _ from cc _ Lime.stp_).mono ?_; rintro e w4 ⟨rfl, hb4⟩; refine hK _ _ ?_ (fun hst => ?_); (focus (exact Lime.stp_)); replace hS := hS.trans hst; clear hst hK K) | refine plan_event_skip Lime.getop_ (by rfl) ?_ plan_stop); (try simp only [Act.put, List.setIfInBounds_toArray, List.set_cons_zero, List.set_cons_succ])
            iterate 4 ((first | (refine plan_calm (v := ?_) Lime.getop_ (by rfl) (fun W hW => ?_) ?_; rotate_left; (focus (exact Lime.calm_))) | (refine plan_calm_skip Lime.getop_ (by rfl) ?_)); (try simp only [Act.put, List.setIfInBounds_toArray, List.set_cons_zero, List.set_cons_succ]))
            refine plan_done ?_
            rw [← hpm2.out] at g2
            replace cT := Stp.cell (w' := w4) Lime.stp_ cT
            replace cN := Stp.cell (w' := w4) Lime.stp_ cN
            replace g0 := Stp.cell (w' := w4) Lime.stp_ g0
            replace g1 := Stp.cell (w' := w4) Lime.stp_ g1
            replace g2 := Stp.cell (w' := w4) Lime.stp_ g2
            replace g3 := Stp.cell (w' := w4) Lime.stp_ g3
            replace g4 := Stp.cell (w' := w4) Lime.stp_ g4
            replace g5 := Stp.cell (w' := w4) Lime.stp_ g5
            replace g6 := Stp.cell (w' := w4) Lime.stp_ g6
            go_wp2_with fail
            refine (show Calls Tryz.prog 61 _ _ _ from cat _ Lime.stp_ hki).mono ?_
            rintro e w7 ⟨rfl, hb7⟩
            replace cT := Stp.cell (w' := w7) Lime.stp_ cT
            replace cN := Stp.cell (w' := w7) Lime.stp_ cN
            replace g0 := Stp.cell (w' := w7) Lime.stp_ g0
            replace g1 := Stp.cell (w' := w7) Lime.stp_ g1
            replace g2 := Stp.cell (w' := w7) Lime.stp_ g2
            replace g3 := Stp.cell (w' := w7) Lime.stp_ g3
            replace g4 := Stp.cell (w' := w7) Lime.stp_ g4
            replace g5 := Stp.cell (w' := w7) Lime.stp_ g5
            replace g6 := Stp.cell (w' := w7) Lime.stp_ g6
            go_wp2_with (first | (go_at_call 62; refine (csh _ Lime.stp_).mono ?_; rintro e w8 ⟨rfl, hb8⟩; replace cT := Stp.cell (w' := w8) Lime.stp_ cT; replace cN := Stp.cell (w' := w8) Lime.stp_ cN; replace g3 := Stp.cell (w' := w8) Lime.stp_ g3) | (go_at_call 63; refine (containsFuncI_c (hrk.stp Lime.stp_) (fun y => !kidOk t n x.kids y) _ _ e59 ?hp).mono ?_; (case hp => exact fun W y hW => cn1 W y _ _ Lime.stp_ (hW.cell cT) (hW.cell cN)); rintro e w9 ⟨rfl, hb9⟩))
            all_goals
              go_ret
              exact ⟨ret_bool (by
                have h1 := HT.out
                have h2 := HPA.out
                have h3 := hkd.out
                rw [HO.out, HKS.out, h1, h2, h3]
                have h4 : (x.kids.any fun y => !kidOk t n x.kids y) = !x.kids.all (kidOk t n x.kids) := by simp [List.all_eq_not_any_not]
                first
                  | (rw [h4]; clear hr hrk cn1 csh cat HO HKS; grind)
                  | (clear hr hrk cn1 csh cat HO HKS; grind)), by (exact Lime.stp_)⟩
          · have cc := fun W (hW : Stp w W) => once_c (hrm.stp hW) (n : Int) hmk
            rw [decide_eq_false hcn] at cc
            have HPA := Lib.hid (show kidsOk t n = false by rw [HKS.out, HY.out, HK.out, decide_eq_false hcn, decide_eq_false hpq.out]; simp)
            clear hcn
            go_wp2_with fail
            refine wp_region_plan (Plan.calm 0 (Plan.calm 1 (Plan.calm 2 (Plan.calm 3 (Plan.calm 4 (Plan.calm 5 (Plan.calm 6 (Plan.alt 7 (Plan.calm 8 (Plan.calm 9 (Plan.calm 10 (Plan.calm 11 (Plan.calm 12 (Plan.calm 13 (Plan.calm 14 (Plan.calm 15 (Plan.calm 16 (Plan.alt 17 (Plan.calm 18 (Plan.calm 19 (Plan.calm 20 (Plan.calm 21 Plan.done)))) Plan.stop)))))))))) Plan.stop)))))))) (by kernel_rfl) (by kernel_rfl) (by kernel_rfl) ?_
            have hS : Stp w2 w2.drew := (Stp.refl _).drew
            (first | (refine plan_calm (v := ?_) Lime.getop_ (by rfl) (fun W hW => ?_) ?_; rotate_left; (focus (exact Lime.calm_))) | (refine plan_calm_skip Lime.getop_ (by rfl) ?_)); (try simp only [Act.put, List.setIfInBounds_toArray, List.set_cons_zero, List.set_cons_succ])
            (first | (refine plan_calm (v := ?_) Lime.getop_ (by rfl) (fun W hW => ?_) ?_; rotate_left; (focus (have q0_ := (hS.trans hW).cell cT; have q1_ := (hS.trans hW).cell cN; have q2_ := (hS.trans hW).cell g2; have q3_ := (hS.trans hW).cell z3; clear hW; (exact Lime.calm_)))) | (refine plan_calm_skip Lime.getop_ (by rfl) ?_)); (try simp only [Act.put, List.setIfInBounds_toArray, List.set_cons_zero, List.set_cons_succ])
            iterate 2 ((first | (refine plan_calm (v := ?_) Lime.getop_ (by rfl) (fun W hW => ?_) ?_; rotate_left; (focus (exact Lime.calm_))) | (refine plan_calm_skip Lime.getop_ (by rfl) ?_)); (try simp only [Act.put, List.setIfInBounds_toArray, List.set_cons_zero, List.set_cons_succ]))
            (first | (refine plan_calm (v := ?_) Lime.getop_ (by rfl) (fun W hW => ?_) ?_; rotate_left; (focus (have q0_ := (hS.trans hW).cell cT; have q1_ := (hS.trans hW).cell cN; have q2_ := (hS.trans hW).cell g2; have q3_ := (hS.trans hW).cell z3; clear hW; (exact Lime.calm_)))) | (refine plan_calm_skip Lime.getop_ (by rfl) ?_)); (try simp only [Act.put, List.setIfInBounds_toArray, List.set_cons_zero, List.set_cons_succ])
            (first | (refine plan_calm (v := ?_) Lime.getop_ (by rfl) (fun W hW => ?_) ?_; rotate_left; (focus (exact Lime.calm_))) | (refine plan_calm_skip Lime.getop_ (by rfl) ?_)); (try simp only [Act.put, List.setIfInBounds_toArray, List.set_cons_zero, List.set_cons_succ])
            (first | (refine plan_calm (v := ?_) Lime.getop_ (by rfl) (fun W hW => ?_) ?_; rotate_left; (focus (have q0_ := (hS.trans hW).cell cT; have q1_ := (hS.trans hW).cell cN; have q2_ := (hS.trans hW).cell g2; have q3_ := (hS.trans hW).cell z3; clear hW; (exact Lime.calm_)))) | (refine plan_calm_skip Lime.getop_ (by rfl) ?_)); (try simp only [Act.put, List.setIfInBounds_toArray, List.set_cons_zero, List.set_cons_succ])
            (first | (refine plan_event Lime.getop_ (by rfl) (fun K hK => ?_) plan_stop; go_simp; refine (show Calls Tryz.prog 59 _ _ _ from ci _).mono ?_; rintro e w3 ⟨rfl, hb3⟩; refine hK _ _ ?_ (fun hst => ?_); (focus (exact Lime.stp_)); replace hS := hS.trans hst; clear hst hK K) | refine plan_event_skip Lime.getop_ (by rfl) ?_ plan_stop); (try simp only [Act.put, List.setIfInBounds_toArray, List.set_cons_zero, List.set_cons_succ])
            iterate 2 ((first | (refine plan_calm (v := ?_) Lime.getop_ (by rfl) (fun W hW => ?_) ?_; rotate_left; (focus (exact Lime.calm_))) | (refine plan_calm_skip Lime.getop_ (by rfl) ?_)); (try simp only [Act.put, List.setIfInBounds_toArray, List.set_cons_zero, List.set_cons_succ]))
            (first | (refine plan_calm (v := ?_) Lime.getop_ (by rfl) (fun W hW => ?_) ?_; rotate_left; (focus (have q0_ := (hS.trans hW).cell cT; have q1_ := (hS.trans hW).cell cN; have q2_ := (hS.trans hW).cell g2; have q3_ := (hS.trans hW).cell z3; clear hW; (exact Lime.calm_)))) | (refine plan_calm_skip Lime.getop_ (by rfl) ?_)); (try simp only [Act.put, List.setIfInBounds_toArray, List.set_cons_zero, List.set_cons_succ])
            (first | (refine plan_calm (v := ?_) Lime.getop_ (by rfl) (fun W hW => ?_) ?_; rotate_left; (focus (exact Lime.calm_))) | (refine plan_calm_skip Lime.getop_ (by rfl) ?_)); (try simp only [Act.put, List.setIfInBounds_toArray, List.set_cons_zero, List.set_cons_succ])
            (first | (refine plan_calm (v := ?_) Lime.getop_ (by rfl) (fun W hW => ?_) ?_; rotate_left; (focus (have q0_ := (hS.trans hW).cell cT; have q1_ := (hS.trans hW).cell cN; have q2_ := (hS.trans hW).cell g2; have q3_ := (hS.trans hW).cell z3; clear hW; (exact Lime.calm_)))) | (refine plan_calm_skip Lime.getop_ (by rfl) ?_)); (try simp only [Act.put, List.setIfInBounds_toArray, List.set_cons_zero, List.set_cons_succ])
            iterate 2 ((first | (refine plan_calm (v := ?_) Lime.getop_ (by rfl) (fun W hW => ?_) ?_; rotate_left; (focus (exact Lime.calm_))) | (refine plan_calm_skip Lime.getop_ (by rfl) ?_)); (try simp only [Act.put, List.setIfInBounds_toArray, List.set_cons_zero, List.set_cons_succ]))
            (first | (refine plan_calm (v := ?_) Lime.getop_ (by rfl) (fun W hW => ?_) ?_; rotate_left; (focus (have q0_ := (hS.trans hW).cell cT; have q1_ := (hS.trans hW).cell cN; have q2_ := (hS.trans hW).cell g2; have q3_ := (hS.trans hW).cell z3; clear hW; (exact Lime.calm_)))) | (refine plan_calm_skip Lime.getop_ (by rfl) ?_)); (try simp only [Act.put, List.setIfInBounds_toArray, List.set_cons_zero, List.set_cons_succ])
            (first | (refine plan_calm (v := ?_) Lime.getop_ (by rfl) (fun W hW => ?_) ?_; rotate_left; (focus (have q0_ := (hS.trans hW).cell cT; have q1_ := (hS.trans hW).cell cN; have q2_ := (hS.trans hW).cell g2; have q3_ := (hS.trans hW).cell z3; clear hW; (exact Lime.calm_)))) | (refine plan_calm_skip Lime.getop_ (by rfl) ?_)); (try simp only [Act.put, List.setIfInBounds_toArray, List.set_cons_zero, List.set_cons_succ])
            (first | (refine plan_event Lime.getop_ (by rfl) (fun K hK => ?_) plan_stop; go_simp; refine (show Calls Tryz.prog 60 _ _ _ from cc _ Lime.stp_).mono ?_; rintro e w4 ⟨rfl, hb4⟩; refine hK _ _ ?_ (fun hst => ?_); (focus (exact Lime.stp_)); replace hS := hS.trans hst; clear hst hK K) | refine plan_event_skip Lime.getop_ (by rfl) ?_ plan_stop); (try simp only [Act.put, List.setIfInBounds_toArray, List.set_cons_zero, List.set_cons_succ])
            iterate 4 ((first | (refine plan_calm (v := ?_) Lime.getop_ (by rfl) (fun W hW => ?_) ?_; rotate_left; (focus (exact Lime.calm_))) | (refine plan_calm_skip Lime.getop_ (by rfl) ?_)); (try simp only [Act.put, List.setIfInBounds_toArray, List.set_cons_zero, List.set_cons_succ]))
            refine plan_done ?_
            go_wp2
            go_ret
            exact ⟨ret_bool (by rw [HO.out, HPA.out]; simp), by (exact Lime.stp_)⟩
        · have hy0 : isN t x.parent = false := by simpa using hy
          have ci := fun W => isT_c (w := W) (A := some ⟨b, o, none⟩) (t := t) x.parent hc hm
          rw [hy0] at ci
          have HPA := Lib.hid (show kidsOk t n = false by rw [HKS.out, hy0, decide_eq_false hpq.out]; simp)
          clear hy hy0
          go_wp2_with fail
          refine wp_region_plan (Plan.calm 0 (Plan.calm 1 (Plan.calm 2 (Plan.calm 3 (Plan.calm 4 (Plan.calm 5 (Plan.calm 6 (Plan.alt 7 (Plan.calm 8 (Plan.calm 9 (Plan.calm 10 (Plan.calm 11 (Plan.calm 12 (Plan.calm 13 (Plan.calm 14 (Plan.calm 15 (Plan.calm 16 (Plan.alt 17 (Plan.calm 18 (Plan.calm 19 (Plan.calm 20 (Plan.calm 21 Plan.done)))) Plan.stop)))))))))) Plan.stop)))))))) (by kernel_rfl) (by kernel_rfl) (by kernel_rfl) ?_
          have hS : Stp w2 w2.drew := (Stp.refl _).drew
          (first | (refine plan_calm (v := ?_) Lime.getop_ (by rfl) (fun W hW => ?_) ?_; rotate_left; (focus (exact Lime.calm_))) | (refine plan_calm_skip Lime.getop_ (by rfl) ?_)); (try simp only [Act.put, List.setIfInBounds_toArray, List.set_cons_zero, List.set_cons_succ])
          (first | (refine plan_calm (v := ?_) Lime.getop_ (by rfl) (fun W hW => ?_) ?_; rotate_left; (focus (have q0_ := (hS.trans hW).cell cT; have q1_ := (hS.trans hW).cell cN; have q2_ := (hS.trans hW).cell g2; clear hW; (exact Lime.calm_)))) | (refine plan_calm_skip Lime.getop_ (by rfl) ?_)); (try simp only [Act.put, List.setIfInBounds_toArray, List.set_cons_zero, List.set_cons_succ])
          iterate 2 ((first | (refine plan_calm (v := ?_) Lime.getop_ (by rfl) (fun W hW => ?_) ?_; rotate_left; (focus (exact Lime.calm_))) | (refine plan_calm_skip Lime.getop_ (by rfl) ?_)); (try simp only [Act.put, List.setIfInBounds_toArray, List.set_cons_zero, List.set_cons_succ]))
          (first | (refine plan_calm (v := ?_) Lime.getop_ (by rfl) (fun W hW => ?_) ?_; rotate_left; (focus (have q0_ := (hS.trans hW).cell cT; have q1_ := (hS.trans hW).cell cN; have q2_ := (hS.trans hW).cell g2; clear hW; (exact Lime.calm_)))) | (refine plan_calm_skip Lime.getop_ (by rfl) ?_)); (try simp only [Act.put, List.setIfInBounds_toArray, List.set_cons_zero, List.set_cons_succ])
          (first | (refine plan_calm (v := ?_) Lime.getop_ (by rfl) (fun W hW => ?_) ?_; rotate_left; (focus (exact Lime.calm_))) | (refine plan_calm_skip Lime.getop_ (by rfl) ?_)); (try simp only [Act.put, List.setIfInBounds_toArray, List.set_cons_zero, List.set_cons_succ])
          (first | (refine plan_calm (v := ?_) Lime.getop_ (by rfl) (fun W hW => ?_) ?_; rotate_left; (focus (have q0_ := (hS.trans hW).cell cT; have q1_ := (hS.trans hW).cell cN; have q2_ := (hS.trans hW).cell g2; clear hW; (exact Lime.calm_)))) | (refine plan_calm_skip Lime.getop_ (by rfl) ?_)); (try simp only [Act.put, List.setIfInBounds_toArray, List.set_cons_zero, List.set_cons_succ])
          (first | (refine plan_event Lime.getop_ (by rfl) (fun K hK => ?_) plan_stop; go_simp; refine (show Calls Tryz.prog 59 _ _ _ from ci _).mono ?_; rintro e w3 ⟨rfl, hb3⟩; refine hK _ _ ?_ (fun hst => ?_); (focus (exact Lime.stp_)); replace hS := hS.trans hst; clear hst hK K) | refine plan_event_skip Lime.getop_ (by rfl) ?_ plan_stop); (try simp only [Act.put, List.setIfInBounds_toArray, List.set_cons_zero, List.set_cons_succ])
          iterate 2 ((first | (refine plan_calm (v := ?_) Lime.getop_ (by rfl) (fun W hW => ?_) ?_; rotate_left; (focus (exact Lime.calm_))) | (refine plan_calm_skip Lime.getop_ (by rfl) ?_)); (try simp only [Act.put, List.setIfInBounds_toArray, List.set_cons_zero, List.set_cons_succ]))
          (first | (refine plan_calm (v := ?_) Lime.getop_ (by rfl) (fun W hW => ?_) ?_; rotate_left; (focus (have q0_ := (hS.trans hW).cell cT; have q1_ := (hS.trans hW).cell cN; have q2_ := (hS.trans hW).cell g2; clear hW; (exact Lime.calm_)))) | (refine plan_calm_skip Lime.getop_ (by rfl) ?_)); (try simp only [Act.put, List.setIfInBounds_toArray, List.set_cons_zero, List.set_cons_succ])
          (first | (refine plan_calm (v := ?_) Lime.getop_ (by rfl) (fun W hW => ?_) ?_; rotate_left; (focus (exact Lime.calm_))) | (refine plan_calm_skip Lime.getop_ (by rfl) ?_)); (try simp only [Act.put, List.setIfInBounds_toArray, List.set_cons_zero, List.set_cons_succ])
          (first | (refine plan_calm (v := ?_) Lime.getop_ (by rfl) (fun W hW => ?_) ?_; rotate_left; (focus (have q0_ := (hS.trans hW).cell cT; have q1_ := (hS.trans hW).cell cN; have q2_ := (hS.trans hW).cell g2; clear hW; (exact Lime.calm_)))) | (refine plan_calm_skip Lime.getop_ (by rfl) ?_)); (try simp only [Act.put, List.setIfInBounds_toArray, List.set_cons_zero, List.set_cons_succ])
          iterate 2 ((first | (refine plan_calm (v := ?_) Lime.getop_ (by rfl) (fun W hW => ?_) ?_; rotate_left; (focus (exact Lime.calm_))) | (refine plan_calm_skip Lime.getop_ (by rfl) ?_)); (try simp only [Act.put, List.setIfInBounds_toArray, List.set_cons_zero, List.set_cons_succ]))
          (first | (refine plan_calm (v := ?_) Lime.getop_ (by rfl) (fun W hW => ?_) ?_; rotate_left; (focus (have q0_ := (hS.trans hW).cell cT; have q1_ := (hS.trans hW).cell cN; have q2_ := (hS.trans hW).cell g2; clear hW; (exact Lime.calm_)))) | (refine plan_calm_skip Lime.getop_ (by rfl) ?_)); (try simp only [Act.put, List.setIfInBounds_toArray, List.set_cons_zero, List.set_cons_succ])
          (first | (refine plan_calm (v := ?_) Lime.getop_ (by rfl) (fun W hW => ?_) ?_; rotate_left; (focus (have q0_ := (hS.trans hW).cell cT; have q1_ := (hS.trans hW).cell cN; have q2_ := (hS.trans hW).cell g2; clear hW; (exact Lime.calm_)))) | (refine plan_calm_skip Lime.getop_ (by rfl) ?_)); (try simp only [Act.put, List.setIfInBounds_toArray, List.set_cons_zero, List.set_cons_succ])
          (first | (refine plan_event Lime.getop_ (by rfl) (fun K hK => ?_) plan_stop; go_simp; refine hK _ _ ?_ (fun hst => ?_); (focus (exact Lime.stp_)); replace hS := hS.trans hst; clear hst hK K) | refine plan_event_skip Lime.getop_ (by rfl) ?_ plan_stop); (try simp only [Act.put, List.setIfInBounds_toArray, List.set_cons_zero, List.set_cons_succ])
          iterate 4 ((first | (refine plan_calm (v := ?_) Lime.getop_ (by rfl) (fun W hW => ?_) ?_; rotate_left; (focus (exact Lime.calm_))) | (refine plan_calm_skip Lime.getop_ (by rfl) ?_)); (try simp only [Act.put, List.setIfInBounds_toArray, List.set_cons_zero, List.set_cons_succ]))
          refine plan_done ?_
          go_wp2
          go_ret
          exact ⟨ret_bool (by rw [HO.out, HPA.out]; simp), by (exact Lime.stp_)⟩
  · have HKF := Lib.hid (show kindOk x n = false by simpa using hkind)
    clear hkind
    go_wp2_with (go_at_call 45; refine (in_c _ _ _ _).mono ?_; rintro e w2 ⟨rfl, hb2⟩; replace cT := Stp.cell (w' := w2) Lime.stp_ cT; replace cN := Stp.cell (w' := w2) Lime.stp_ cN; replace g0 := Stp.cell (w' := w2) Lime.stp_ g0; replace g1 := Stp.cell (w' := w2) Lime.stp_ g1; replace g2 := Stp.cell (w' := w2) Lime.stp_ g2; replace g3 := Stp.cell (w' := w2) Lime.stp_ g3; replace g4 := Stp.cell (w' := w2) Lime.stp_ g4; replace g5 := Stp.cell (w' := w2) Lime.stp_ g5; replace g6 := Stp.cell (w' := w2) Lime.stp_ g6)
    all_goals first
      | (go_ret; exact ⟨ret_bool (by rw [HO.out, HKF.out]; simp), by (exact Lime.stp_)⟩)
      | (exfalso; clear hr hrk cn1 csh cat HO HKS; have h9 := HKF.out; grind [kindOk])
end Go.Proofs.Lime
namespace Go.Proofs.Lime
open Go.RowKit
set_option linter.unusedVariables false
set_option linter.unusedSimpArgs false
attribute [local go_sem] Oper.semAt_some

theorem tup_c (w : World) (A : Option Addr) (m c : Nat) (n : Int) : Calls Tryz.prog 66 #[.slice A m c, .int .i64 n] w fun e w' => e = .returned (.func (.func 82) #[] #[.pointer (some ⟨w.heap.size, 0, none⟩), .pointer (some ⟨w.heap.size + 1, 0, none⟩)]) ∧ w' = (w.alloc (.cells #[.slice A m c] 23)).alloc (.cells #[.int .i64 n] 3) := by
  go_enter Tryz.func66, Tryz.ntmps66
  go_wp2
  go_ret
  exact ⟨rfl, rfl⟩

theorem up_max {t : List Nd} {k : Nat} (hk : k < t.length) (h : nodeOk t k = true) : (if t[k].parent < t[k].host then t[k].host else t[k].parent) = upN t k := by
  rw [nodeOk, kidsOk, shadowOk, nd_nat hk] at h
  rw [upN, nd_nat hk]
  simp only [Bool.and_eq_true] at h
  obtain ⟨_, _, ⟨_, _, h1⟩, h2⟩ := h
  split at h2
  · rename_i h3
    simp only [Bool.and_eq_true, decide_eq_true_eq] at h2
    obtain ⟨_, h4, h5, _⟩ := h2
    rw [isN_iff] at h5
    rw [if_pos (by omega), if_pos h3]
  · rename_i h3
    simp only [Bool.and_eq_true, decide_eq_true_eq] at h2
    have h4 : -1 ≤ t[k].parent := by
      simp only [Bool.or_eq_true, Bool.and_eq_true, decide_eq_true_eq, isN_iff] at h1
      omega
    rw [if_neg (by omega), if_neg h3]
theorem up_ok {t : List Nd} {k : Nat} (hk : k < t.length) (h : allTo (nodeOk t) t.length = true) : upN t k = -1 ∨ isN t (upN t k) = true := upIn_all h k hk

set_option maxRecDepth 100000 in
set_option maxHeartbeats 2000000 in
theorem tup1_it {S : Nat → Prop} {w : World} {v : Value} {t : List Nd} (hr : Row nodeK S w v t) (hl : t.length ≤ 64) (hok : allTo (nodeOk t) t.length = true) {n : Nat} (hn : n < t.length) {BT BN : Nat}
    (h1 : w.cell? ⟨BT, 0, none⟩ = some v) (h2 : Boxed w BN 3 (.int .i64 n)) (hne : BT ≠ BN) (hS : ∀ b, S b → b ≠ BN) :
    Iter Tryz.prog 82 #[.pointer (some ⟨BT, 0, none⟩), .pointer (some ⟨BN, 0, none⟩)] (fun x : Int => #[.int .i64 x]) (· = BN) (fun b => S b ∨ b = BT) (chainIn (upN t) (t.length + 1) n) w := by
  intro l J Jx O W hk hO hJ hJx hY h0
  have hOT : ¬ O BT := fun h => (hO BT h).2 (World.block_lt_of_cell? w _ h1) (.inr rfl)
  have hON : ¬ O BN := fun h => (hO BN h).1 rfl
  have hrW := hr.bound.kpt hk (fun x hx hl h => (hO x h).2 hx.2 (.inl hx.1))
  have hOS : ∀ x, S x ∧ x < w.heap.size → x < W.heap.size → ¬ (O x ∨ x = BN) := fun x hx hlt h => h.elim (fun h => (hO x h).2 hx.2 (.inl hx.1)) (hS x hx.1)
  have cT := hk.cell (p := ⟨BT, 0, none⟩) hOT h1
  have bN : Boxed W BN 3 (.int .i64 n) := (hk.block BN h2.lt hON).trans h2
  have hBW := bN.lt
  clear hr h1 h2
  obtain ⟨A, c, rfl, hc, hm⟩ := hrW.form
  obtain ⟨b, o, rfl, hSb, hb, hN⟩ := tree_base hrW (by omega)
  refine callsIn_of_wp Tryz.func82 rfl trivial ?_ rfl
  simp only [Tryz.ntmps82, List.size_toArray, List.length_cons, List.length_nil, Nat.reduceAdd, Nat.reduceSub, Array.replicate_succ, Array.replicate_zero, List.push_toArray, List.append_toArray, List.nil_append, List.cons_append]
  have U0 := Lib.hid (show UpSt (fun m => isN t m = true) (upN t) (chainIn (upN t) (t.length + 1) n) (t.length + 1) BN O J W 0 n O W from ⟨Nat.zero_le _, .inr (isN_of hn), rfl, Kpt.refl _ _, fun b hb => .inl hb, h0, bN⟩)
  generalize hxs : chainIn (upN t) (t.length + 1) n = xs at hY U0
  have HX := Lib.hid hxs
  clear hxs h0 bN
  gi_wp2
  gi_loopw [7] (fun s7 wr => ∃ (k : Nat) (m : Int) (O' : Nat → Prop), s7 = .int .i64 k ∧ k ≤ t.length + 1 ∧ Aside (UpSt (fun m => isN t m = true) (upN t) xs (t.length + 1) BN O J W k m O' wr)) (fun s7 _ => t.length + 1 - (intOf s7).toNat)
  case atStart => exact ⟨0, n, O, rfl, by omega, U0⟩
  case round =>
    obtain ⟨k, m, O', rfl, hkl, U⟩ := hrel
    have cT' := U.out.kp.cell (p := ⟨BT, 0, none⟩) (fun h => h.elim hOT hne) cT
    have cN' := U.out.box.cell
    by_cases hlt : k ≤ t.length
    · have hltz : (k : Int) < (t.length : Int) + 1 := by omega
      by_cases hm1 : m = -1
      · subst hm1
        gi_wp2
        refine ⟨fun _ h => (by cases h), ?_⟩
        gi_wp2
        refine bodyPost_ret (results_none rfl _ _ _) rfl ?_
        exact ⟨⟨_, rfl⟩, O', .inl U.out.over⟩
      · obtain ⟨j, rfl, hj⟩ := isN_nat (U.out.cur.resolve_left hm1)
        obtain ⟨hkx, hxk, _⟩ := U.out.next hm1 (by omega)
        have hY1 := hY k hkx O' wr U.out.inv
        rw [hxk] at hY1
        obtain ⟨fn, tmps, assign, body, hy, hR⟩ := hY1
        have hne1 : ((j : Int) == -1) = false := by simp
        obtain ⟨Ak, ck, Aa, ca, N⟩ := (hN j hj)
        have hmx := Lib.hid (up_max hj (allTo_iff.1 hok j hj))
        gi_wp2
        refine ⟨rfl, hR.mono ?_⟩
        rintro e W3 ⟨O3, h3, hk3, (⟨rfl, hj3⟩ | ⟨rfl, hj3⟩)⟩
        · have hk3' : Kpt (fun b => O b ∨ b = BN) W W3 := U.out.kp.trans hk3 fun x hx => (U.out.sub x hx).imp .inl id
          have cT3 := hk3'.cell (p := ⟨BT, 0, none⟩) (fun h => h.elim hOT hne) cT
          have hnN : ¬ O' BN := fun h => (U.out.sub BN h).elim hON (fun h => by omega)
          have bN3 := Boxed.keep U.out.box hk3 hnN
          have cN3 := Boxed.cell bN3
          have fN3 := Boxed.frozen bN3
          have hnb := hOS b hSb hb
          have x2 := hk3'.cell (p := ⟨b, o + j * 7 + 2, none⟩) hnb N.c2
          have x4 := hk3'.cell (p := ⟨b, o + j * 7 + 4, none⟩) hnb N.c4
          generalize t[j].parent = pj at x2 hmx
          generalize t[j].host = hj' at x4 hmx
          have hjz : (j : Int) < (t.length : Int) := by omega
          clear bN3 N hY hy
          gi_wp2
          refine wpIn_wide.2 ?_
          go_still_tail 11, (by kernel_rfl)
          change wpList _ _ _ _ _ W3.drew
          rw [hmx.out]
          have U3 := Lib.hid (U.out.go hON hBW hm1 (by omega) (up_ok hj hok) h3 hk3 hj3 hJ).1
          clear hmx
          go_wp2
          gi_wp2
          go_roundw
          case rel => exact ⟨k + 1, upN t j, O3, by go_num, by omega, U3⟩
          case measure => simp [intOf]; omega
        · gi_wp2
          refine bodyPost_ret (results_none rfl _ _ _) rfl ?_
          exact ⟨⟨_, rfl⟩, O3, .inr ⟨_, hj3⟩⟩
    · have hltz : ¬ (k : Int) < (t.length : Int) + 1 := by omega
      gi_wp2
      refine bodyPost_end (results_none rfl _ _ _) rfl ?_
      exact ⟨⟨_, rfl⟩, O', .inl (U.out.full (by omega))⟩

/-- What 'turns' holds between two rounds: Bc the counter's cell. -/
structure CntSt (C : Nat → Prop) (Bc : Nat) (w : World) (k : Nat) (O : Nat → Prop) (W : World) : Prop where mk ::
  ob : O Bc
  new : ∀ b, O b → b = Bc ∨ w.heap.size ≤ b
  kp : Kpt (fun b => C b ∨ b = Bc) w W
  box : Boxed W Bc 3 (.int .i64 k)
theorem cnt_abide (C : Nat → Prop) (Bc : Nat) (w : World) : Abide C w.heap.size (CntSt C Bc w) := by
  intro k O A W h hk
  exact ⟨h.ob, h.new, h.kp.trans hk (fun x hx => hx.2.imp .inl id), Boxed.keep h.box hk (fun hb => hb.1 h.ob)⟩
set_option maxHeartbeats 1000000 in
theorem turns_c {S : Nat → Prop} {w : World} {v : Value} {t : List Nd} (hr : Row nodeK S w v t) (hl : t.length ≤ 64) (hok : allTo (nodeOk t) t.length = true) {n : Nat} (hn : n < t.length) :
    Calls Tryz.prog 47 #[v, .int .i64 n] w fun e w' => e = .returned (.bool (!ends t n)) ∧ Stp w w' := by
  have hrb := hr.bound
  obtain ⟨A, c, rfl, hc, hm⟩ := hr.form
  have eg := (enters_of Tryz.func82 (by kernel_rfl) rfl)
  refine (callsIn_wide (n := 0)).1 (callsIn_of_wp_marks Tryz.func47 rfl trivial (wpIn_wide.2 ?_) rfl); simp only [Tryz.ntmps47, List.size_toArray, List.length_cons, List.length_nil, Nat.reduceAdd, Nat.reduceSub, Array.replicate_succ, Array.replicate_zero, List.push_toArray, List.append_toArray, List.nil_append, List.cons_append]
  go_wp2_with (go_at_call 66; refine (tup_c _ _ _ _ _).mono ?_; rintro e w' ⟨rfl, rfl⟩)
  obtain ⟨W0, hW0⟩ : ∃ W0, ((w.alloc (.cells #[.int .i64 0] 3)).alloc (.cells #[.slice A t.length c] 23)).alloc (.cells #[.int .i64 n] 3) = W0 := ⟨_, rfl⟩
  have bC : Boxed W0 w.heap.size 3 (.int .i64 0) := by rw [← hW0]; exact Boxed.alloc (Boxed.alloc (Boxed.new _ _ _) _) _
  have bT : Boxed W0 (w.heap.size + 1) 23 (.slice A t.length c) := by rw [← hW0]; have := Boxed.new (w.alloc (.cells #[.int .i64 0] 3)) 23 (.slice A t.length c); rw [World.size_alloc] at this; exact Boxed.alloc this _
  have bN : Boxed W0 (w.heap.size + 1 + 1) 3 (.int .i64 n) := by rw [← hW0]; have := Boxed.new ((w.alloc (.cells #[.int .i64 0] 3)).alloc (.cells #[.slice A t.length c] 23)) 3 (.int .i64 n); rw [World.size_alloc, World.size_alloc] at this; exact this
  have hs0 : Stp w W0 := by rw [← hW0]; exact (((Stp.refl w).alloc _).alloc _).alloc _
  have hz0 : W0.heap.size = w.heap.size + 1 + 1 + 1 := by rw [← hW0]; simp
  try simp only [World.size_alloc]
  rw [hW0]
  clear hW0
  have HR := Lib.hid (show (!ends t n) = decide (t.length < (chainIn (upN t) (t.length + 1) n).length) by
    rw [ends, ends_chain, ← decide_not]; congr 1; have := chain_le (upN t) (t.length + 1) n; exact propext ⟨fun h => by omega, fun h => by omega⟩)
  have hle := chain_le (upN t) (t.length + 1) n
  have hit := tup1_it (hrb.stp hs0) hl hok hn (BT := w.heap.size + 1) (BN := w.heap.size + 1 + 1) (Boxed.cell bT) bN (by omega) (fun b hb => by have := hb.2; omega)
  generalize hxs : chainIn (upN t) (t.length + 1) n = xs at HR hle hit
  clear hxs
  generalize hB : w.heap.size = B at *
  refine wp_range (gf := 82) rfl eg hit (fun _ => rfl) (fun b hb => by omega) (· = B) (fun b hb => ?_) (CntSt (· = B + 1 + 1) B W0) (fun _ _ _ _ => False) (cnt_abide _ _ _) (fun _ _ _ _ _ h _ => h) ?_ (fun x => { tmps := #[.slice A t.length c, .int .i64 n, undef, undef, .bool false, .pointer (some ⟨B, 0, none⟩), .slice A t.length c, .int .i64 n, .func (.func 82) #[] #[.pointer (some ⟨B + 1, 0, none⟩), .pointer (some ⟨B + 1 + 1, 0, none⟩)], .int .i64 x, undef, undef, undef, undef, undef, undef], defers := [] }) ?_ ?_ ?_ ?_
  · subst hb
    exact ⟨by omega, fun h => by omega, fun h => h.elim (fun h => by have := h.2; omega) (fun h => by omega)⟩
  · exact ⟨rfl, fun b hb => .inl hb, Kpt.refl _ _, bC⟩
  · intro l x W K hK
    gi_wp2
    simpa using hK
  · intro l k hk O W hI
    have hcB := Boxed.cell hI.box
    have hfB := Boxed.frozen hI.box
    have hkz : (k : Int) < 100 := by omega
    have H2 := Lib.hid hI
    clear hI
    gi_wp2
    have hkp : Kpt O W (W.setCell ⟨B, 0, none⟩ (.int .i64 ((k : Int) + 1))) := Kpt.setCell W _ H2.out.ob
    refine ⟨O, fun b hb => .inl hb, hkp, H2.out.ob, H2.out.new, H2.out.kp.trans hkp fun b hb => (H2.out.new b hb).imp .inr id, ?_⟩
    · have := Boxed.set (.int .i64 ((k : Int) + 1)) H2.out.box
      exact this
  · intro D O W hD hn hI hWD
    have hcB := Boxed.cell hI.box
    go_wp2
    refine leaves_mark hWD (results_tmp rfl _ _ _) ⟨by rw [show (!ends t n) = _ from HR.out]; rfl, ?_⟩
    have hk1 : Kpt (fun b => B ≤ b) w W := ((Kpt.of_stp (O := fun b => B ≤ b) hs0).trans hI.kp fun x hx => .inl (by omega))
    exact (hk1.trans (Kpt.put (O := fun b => b = D) W _ rfl) fun x hx => .inl (by omega)).stp fun x hx => by omega
  · intro D c k O W _ _ h
    exact h.elim

theorem allTo_end {p : Int → Bool} {i n : Nat} (h : allTo p i = true) (hn : ¬ i < n) (hi : i ≤ n) : allTo p n = true := by
  obtain rfl : i = n := by omega
  exact h
set_option maxHeartbeats 1000000 in
theorem may_c {S : Nat → Prop} {w : World} {v : Value} {t : List Nd} (hr : Row nodeK S w v t) (hks : ∀ k (hk : k < t.length), t[k].kids.length ≤ 1000) :
    Calls Tryz.prog 32 #[v] w fun e w' => e = .returned (.bool (mayT t)) ∧ Stp w w' := by
  obtain ⟨A, c, rfl, hc, hm⟩ := hr.form
  by_cases hlen : 1 ≤ t.length ∧ t.length ≤ 64
  · obtain ⟨hl1, hl2⟩ := hlen
    have HE := Lib.hid (show mayT t = (allTo (nodeOk t) t.length && allTo (ends t) t.length) by rw [mayT]; simp [hl1, hl2])
    have hz1 : (1 : Int) ≤ (t.length : Int) := by omega
    have hz2 : (t.length : Int) ≤ 64 := by omega
    have ci := fun W => in_c W (t.length : Int) 1 64
    rw [show (decide ((1 : Int) ≤ (t.length : Int)) && decide ((t.length : Int) ≤ 64)) = true by simp [hz2]; omega] at ci
    go_enter Tryz.func32, Tryz.ntmps32
    go_wp2_with (go_at_call 45; refine (ci _).mono ?_; rintro e w1 ⟨rfl, hb1⟩)
    go_loopg [11] t.length (fun gg s11 wr => ∃ i : Nat, i ≤ t.length ∧ t.length - i ≤ gg ∧ s11 = .int .i64 i ∧ Stp w wr ∧ Aside (allTo (nodeOk t) i = true))
    case atStart => exact ⟨0, Nat.zero_le _, by omega, rfl, by (exact Lime.stp_), rfl⟩
    case round =>
      obtain ⟨i, hi, hg, rfl, hbi, A1⟩ := hrel
      by_cases hlt : i < t.length
      · have hltz : (i : Int) < (t.length : Int) := by omega
        have cn := fun W (hW : Stp w W) => node_c (hr.stp hW) hks hlt
        cases ho : nodeOk t i with
        | true =>
          rw [ho] at cn
          go_wp2_with (go_at_call 46; refine (cn _ Lime.stp_).mono ?_; rintro e w2 ⟨rfl, hb2⟩)
          go_roundg (t.length - (i + 1))
          case measure => omega
          case rel => exact ⟨i + 1, by omega, by omega, by go_num, by (exact Lime.stp_), by show allTo (nodeOk t) (i + 1) = true; rw [allTo, A1.out, ho]; rfl⟩
        | false =>
          rw [ho] at cn
          have HB := Lib.hid (allTo_bad hlt ho)
          go_wp2_with (go_at_call 46; refine (cn _ Lime.stp_).mono ?_; rintro e w2 ⟨rfl, hb2⟩)
          go_ret
          exact ⟨ret_bool (by rw [HE.out, HB.out]; rfl), by (exact Lime.stp_)⟩
      · have hltz : ¬ (i : Int) < (t.length : Int) := by omega
        have HN : Aside (allTo (nodeOk t) t.length = true) := allTo_end A1.out hlt hi
        clear A1
        go_wp2
        go_loopg [21] t.length (fun gg s21 wr => ∃ i : Nat, i ≤ t.length ∧ t.length - i ≤ gg ∧ s21 = .int .i64 i ∧ Stp w wr ∧ Aside (allTo (ends t) i = true))
        case atStart => exact ⟨0, Nat.zero_le _, by omega, rfl, by (exact Lime.stp_), rfl⟩
        case round =>
          obtain ⟨j, hj, hg2, rfl, hbj, A2⟩ := hrel
          by_cases hlt2 : j < t.length
          · have hltz2 : (j : Int) < (t.length : Int) := by omega
            have cn := fun W (hW : Stp w W) => turns_c (hr.stp hW) hl2 HN.out hlt2
            cases ho : ends t j with
            | true =>
              rw [ho] at cn
              go_wp2_with (go_at_call 47; refine (cn _ Lime.stp_).mono ?_; rintro e w2 ⟨rfl, hb2⟩)
              go_roundg (t.length - (j + 1))
              case measure => omega
              case rel => exact ⟨j + 1, by omega, by omega, by go_num, by (exact Lime.stp_), by show allTo (ends t) (j + 1) = true; rw [allTo, A2.out, ho]; rfl⟩
            | false =>
              rw [ho] at cn
              have HB := Lib.hid (allTo_bad hlt2 ho)
              go_wp2_with (go_at_call 47; refine (cn _ Lime.stp_).mono ?_; rintro e w2 ⟨rfl, hb2⟩)
              go_ret
              exact ⟨ret_bool (by rw [HE.out, HN.out, HB.out]; rfl), by (exact Lime.stp_)⟩
          · have hltz2 : ¬ (j : Int) < (t.length : Int) := by omega
            have HN2 : Aside (allTo (ends t) t.length = true) := allTo_end A2.out hlt2 hj
            clear A2
            go_wp2
            go_ret
            exact ⟨ret_bool (by rw [HE.out, HN.out, HN2.out]; rfl), by (exact Lime.stp_)⟩
  · have HE := Lib.hid (show mayT t = false by rw [mayT]; simp; intro h1 h2; omega)
    have ci := fun W => in_c W (t.length : Int) 1 64
    rw [show (decide ((1 : Int) ≤ (t.length : Int)) && decide ((t.length : Int) ≤ 64)) = false by simp; omega] at ci
    clear hlen
    go_enter Tryz.func32, Tryz.ntmps32
    go_wp2_with (go_at_call 45; refine (ci _).mono ?_; rintro e w1 ⟨rfl, hb1⟩)
    go_ret
    exact ⟨ret_bool (by rw [HE.out]), by (exact Lime.stp_)⟩
theorem check_c {S : Nat → Prop} {w : World} {v : Value} {t : List Nd} (hr : Row nodeK S w v t) (hks : ∀ k (hk : k < t.length), t[k].kids.length ≤ 1000) :
    Calls Tryz.prog 18 #[v] w fun e w' => e = .returned (.int .i64 (if mayT t = true then 0 else 1)) ∧ Stp w w' := by
  obtain ⟨A, c, rfl, hc, hm⟩ := hr.form
  have cm := may_c hr hks
  cases h : mayT t with
  | true =>
    rw [h] at cm
    go_enter Tryz.func18, Tryz.ntmps18
    go_wp2_with (go_at_call 32; refine cm.mono ?_; rintro e w1 ⟨rfl, hb1⟩)
    go_ret
    exact ⟨rfl, hb1⟩
  | false =>
    rw [h] at cm
    go_enter Tryz.func18, Tryz.ntmps18
    go_wp2_with (go_at_call 32; refine cm.mono ?_; rintro e w1 ⟨rfl, hb1⟩)
    go_ret
    exact ⟨rfl, hb1⟩
end Go.Proofs.Lime
