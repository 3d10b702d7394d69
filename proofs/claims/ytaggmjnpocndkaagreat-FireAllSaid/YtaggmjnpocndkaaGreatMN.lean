/- Walk: the document's word for small trees. Walks: the document's word for trees that may be; small trees; lists held against each other. -/
import Derived.Test.YtaggmjnpocndkaaGreatMB
namespace Go.Proofs.Lime
open Go.RowKit
set_option linter.unusedVariables false
set_option linter.unusedSimpArgs false

def smallN (x : Nd) : Bool := decide (x.kids.length ≤ 80) && decide (x.attrs.length ≤ 20)
theorem smallT_def (t : List Nd) : smallT t = (decide (t.length ≤ 70) && t.all smallN) := rfl
set_option maxHeartbeats 1000000 in
theorem small_c {S : Nat → Prop} {w : World} {v : Value} {t : List Nd} (hr : Row nodeK S w v t) :
    Calls Tryz.prog 9 #[v] w fun e w' => e = .returned (.bool (smallT t)) ∧ Stp w w' := by
  obtain ⟨A, c, rfl, hc, hm⟩ := hr.form
  by_cases hl : t.length ≤ 70
  · have hlz : (t.length : Int) ≤ 70 := by omega
    have HE := Lib.hid (show smallT t = t.all smallN by rw [smallT_def]; simp [hl])
    go_enter Tryz.func9, Tryz.ntmps9
    go_wp2
    go_loopg [3] t.length (fun gg s3 wr => ∃ i : Nat, i ≤ t.length ∧ t.length - i ≤ gg ∧ s3 = .int .i64 i ∧ Stp w wr ∧ Aside ((t.drop i).all smallN = t.all smallN))
    case atStart => exact ⟨0, Nat.zero_le _, by omega, rfl, by (exact Lime.stp_), rfl⟩
    case round =>
      obtain ⟨i, hi, hg, rfl, hbi, A1⟩ := hrel
      by_cases hlt : i < t.length
      · have hltz : (i : Int) < (t.length : Int) := by omega
        obtain ⟨b, o, rfl, hS, hb, hN⟩ := tree_base (hr.stp hbi) (by omega)
        obtain ⟨Ak, ck, Aa, ca, N⟩ := hN i hlt
        have HS : Aside ((t.drop i).all smallN = (smallN t[i] && (t.drop (i + 1)).all smallN)) := by
          show (t.drop i).all smallN = _
          rw [List.drop_eq_getElem_cons hlt, List.all_cons]
        generalize t[i] = x at N HS
        have x3 := N.c3
        have x6 := N.c6
        clear N hN hr
        go_wp2
        all_goals first
          | (go_roundg (t.length - (i + 1))
             case measure => omega
             case rel => exact ⟨i + 1, by omega, by omega, by go_num, by (exact Lime.stp_), by show (t.drop (i + 1)).all smallN = _; rw [← A1.out, HS.out, show smallN x = true by simp [smallN]; omega]; simp⟩)
          | (go_ret
             exact ⟨ret_bool (by rw [HE.out, ← A1.out, HS.out, show smallN x = false by simp [smallN]; omega]; simp), by (exact Lime.stp_)⟩)
      · have hltz : ¬ (i : Int) < (t.length : Int) := by omega
        go_wp2
        go_ret
        exact ⟨ret_bool (by rw [HE.out, ← A1.out, List.drop_eq_nil_of_le (by omega)]; simp), hbi⟩
  · have hlz : ¬ (t.length : Int) ≤ 70 := by omega
    have HE := Lib.hid (show smallT t = false by rw [smallT_def]; simp [hl])
    by_cases h0 : 0 < (t.length : Int)
    · go_enter Tryz.func9, Tryz.ntmps9
      go_wp2
      go_loopg [3] 1 (fun gg s3 wr => s3 = .int .i64 0 ∧ wr = w)
      case atStart => exact ⟨rfl, rfl⟩
      case round =>
        obtain ⟨rfl, rfl⟩ := hrel
        go_wp2
        go_ret
        exact ⟨ret_bool (by rw [HE.out]; exact decide_eq_false (by omega)), by (exact Lime.stp_)⟩
    · omega
end Go.Proofs.Lime
namespace Go.Proofs.Lime
open Go.RowKit
set_option linter.unusedVariables false
set_option linter.unusedSimpArgs false

theorem allTo_full {p : Int → Bool} {i n : Nat} (h : allTo p i = true) (hn : ¬ i < n) (hi : i ≤ n) : allTo p n = true := by
  obtain rfl : i = n := by omega
  exact h
theorem upIn_all {t : List Nd} (h : allTo (nodeOk t) t.length = true) : ∀ k : Nat, k < t.length → upN t k = -1 ∨ isN t (upN t k) = true := by
  intro k hk
  rw [allTo_iff] at h
  have h1 := h k hk
  rw [nodeOk] at h1
  simp only [Bool.and_eq_true] at h1
  exact upIn (isN_of hk) h1.2.2.2 h1.2.2.1
set_option maxHeartbeats 2000000 in
theorem rmay_tree_c {S : Nat → Prop} {w : World} {v : Value} {t : List Nd} (hr : Row nodeK S w v t) :
    Calls Tryz.prog 41 #[v] w fun e w' => e = .returned (.bool (mayT t)) ∧ Stp w w' := by
  obtain ⟨A, c, rfl, hc, hm⟩ := hr.form
  by_cases hlen : 1 ≤ t.length ∧ t.length ≤ 64
  · obtain ⟨hl1, hl2⟩ := hlen
    obtain ⟨b, o, rfl, hS, hb, hN⟩ := tree_base hr (by omega)
    have HE := Lib.hid (show mayT t = (allTo (nodeOk t) t.length && allTo (ends t) t.length) by rw [mayT]; simp [hl1, hl2])
    have hz1 : ¬ (t.length : Int) < 1 := by omega
    have hz2 : ¬ (64 : Int) < (t.length : Int) := by omega
    go_enter Tryz.func41, Tryz.ntmps41
    go_wp2
    go_loopg [3] t.length (fun gg s3 wr => ∃ i : Nat, i ≤ t.length ∧ t.length - i ≤ gg ∧ s3 = .int .i64 i ∧ Stp w wr ∧ Aside (allTo (nodeOk t) i = true))
    case atStart => exact ⟨0, Nat.zero_le _, by omega, rfl, by (exact Lime.stp_), rfl⟩
    case round =>
      obtain ⟨i, hi, hg, rfl, hbi, A1⟩ := hrel
      by_cases hlt : i < t.length
      · have hltz : (i : Int) < (t.length : Int) := by omega
        obtain ⟨Ak, ck, Aa, ca, N⟩ := hN i hlt
        have HO : Aside (nodeOk t i = (kindOk t[i] i && (attrsOk t[i] && (kidsOk t i && shadowOk t i)))) := by show nodeOk t i = _; rw [nodeOk, nd_nat hlt]
        generalize t[i] = x at N HO
        have x0 := hbi.cell N.c0
        have x1 := hbi.cell N.c1
        have x2 := hbi.cell N.c2
        have x3 := hbi.cell N.c3
        have x4 := hbi.cell N.c4
        have x5 := hbi.cell N.c5
        have x6 := hbi.cell N.c6
        have c1 := fun W => rkind_c W x (.slice Ak x.kids.length ck) (.slice Aa x.attrs.length ca) i
        have c2 := fun W (hW : Stp w W) => rattrs_c (.slice Ak x.kids.length ck) (N.attrs.stp hW) N.a1 N.a2
        have c3 := fun W (hW : Stp w W) => rkids_c (hr.stp hW) hlt
        have c4 := fun W (hW : Stp w W) => rshadow_c (hr.stp hW) hlt
        have HO2 := Lib.hid HO.out
        clear HO N
        generalize kindOk x i = b1 at c1 HO2
        generalize attrsOk x = b2 at c2 HO2
        generalize kidsOk t i = b3 at c3 HO2
        generalize shadowOk t i = b4 at c4 HO2
        go_wp2_with fail
        refine (show Calls Tryz.prog 52 _ _ _ from c1 _).mono ?_
        rintro e w1 ⟨rfl, hb1⟩
        replace x0 := hb1.cell x0
        replace x1 := hb1.cell x1
        replace x2 := hb1.cell x2
        replace x3 := hb1.cell x3
        replace x4 := hb1.cell x4
        replace x5 := hb1.cell x5
        replace x6 := hb1.cell x6
        go_wp2_with (first | (go_at_call 53; refine (c2 _ Lime.stp_).mono ?_; rintro e w2 ⟨rfl, hb2⟩) | (go_at_call 54; refine (c3 _ Lime.stp_).mono ?_; rintro e w3 ⟨rfl, hb3⟩) | (go_at_call 55; refine (c4 _ Lime.stp_).mono ?_; rintro e w4 ⟨rfl, hb4⟩))
        all_goals first
          | (go_ret; exact ⟨ret_bool (by have h1 : nodeOk t i = false := by (rw [HO2.out]; clear hr c1 c2 c3 c4; simp_all)
                                         rw [HE.out, allTo_bad hlt h1]; rfl), by (exact Lime.stp_)⟩)
          | skip
        all_goals
          have h1 : Aside (nodeOk t i = true) := by show nodeOk t i = true; rw [HO2.out]; clear hr c1 c2 c3 c4; simp_all
          go_roundg (t.length - (i + 1))
          case measure => omega
          case rel => exact ⟨i + 1, by omega, by omega, by go_num, by (exact Lime.stp_), by rw [allTo, A1.out, h1.out]; rfl⟩
      · have hltz : ¬ (i : Int) < (t.length : Int) := by omega
        have HA := Lib.hid (allTo_full A1.out hlt hi)
        clear A1
        have hb0 := hbi
        go_wp2
        go_loopg [4] t.length (fun gg s4 wr => ∃ i : Nat, i ≤ t.length ∧ t.length - i ≤ gg ∧ s4 = .int .i64 i ∧ Stp w wr ∧ Aside (allTo (ends t) i = true))
        case atStart => exact ⟨0, Nat.zero_le _, by omega, rfl, by (exact Lime.stp_), rfl⟩
        case round =>
          clear hltz hlt hg
          obtain ⟨j, hj, hg, rfl, hbj, A1⟩ := hrel
          by_cases hlt : j < t.length
          · have hltz : (j : Int) < (t.length : Int) := by omega
            have c1 := fun W (hW : Stp w W) => rends_c (hr.stp hW) hl2 (upIn_all HA.out) hlt
            have HO := Lib.hid (Eq.refl (ends t j))
            generalize hb1 : ends t j = b1 at c1
            have HB := Lib.hid hb1
            clear hb1 HO
            go_wp2_with (go_at_call 56; refine (c1 _ Lime.stp_).mono ?_; rintro e w2 ⟨rfl, hb2⟩)
            · go_ret
              exact ⟨ret_bool (by rw [HE.out, allTo_bad (p := ends t) hlt (by rw [HB.out]; simp_all)]; simp), by (exact Lime.stp_)⟩
            · have h1 := Lib.hid (show b1 = true by simp_all)
              go_roundg (t.length - (j + 1))
              case measure => omega
              case rel => exact ⟨j + 1, by omega, by omega, by go_num, by (exact Lime.stp_), by rw [allTo, A1.out, HB.out, h1.out]; rfl⟩
          · have hltz : ¬ (j : Int) < (t.length : Int) := by omega
            go_wp2
            go_ret
            exact ⟨ret_bool (by rw [HE.out, HA.out, allTo_full A1.out hlt hj]; rfl), by (exact Lime.stp_)⟩
  · have HE := Lib.hid (show mayT t = false by rw [mayT]; simp; omega)
    go_enter Tryz.func41, Tryz.ntmps41
    by_cases h1 : (t.length : Int) < 1
    · go_wp2
      go_ret
      exact ⟨ret_bool HE.out.symm, by (exact Lime.stp_)⟩
    · have h2 : (64 : Int) < (t.length : Int) := by omega
      go_wp2
      go_ret
      exact ⟨ret_bool HE.out.symm, by (exact Lime.stp_)⟩
end Go.Proofs.Lime
