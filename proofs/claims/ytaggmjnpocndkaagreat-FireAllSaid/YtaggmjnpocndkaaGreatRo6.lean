/- Walk: which slot a node goes to, as the document tells it. No conditions. -/
import Derived.Test.YtaggmjnpocndkaaGreatRo5
namespace Go.Proofs.Lime
open Go.RowKit
set_option linter.unusedVariables false
set_option linter.unusedSimpArgs false
attribute [local go_sem] Oper.semAt_some
theorem fst_some (at_ mine : Int) (t : List Nd) (xs : List Int) : fstOf (fitB t true (some at_) mine) xs = if at_ ∈ xs then at_ else -1 := by
  induction xs with
  | nil => rfl
  | cons x xs ih =>
    rw [fstOf_cons, ih]
    by_cases h : at_ = x
    · subst h
      simp [fitB]
    · have : fitB t true (some at_) mine x = false := by
        rw [fitB, if_pos rfl]
        exact beq_eq_false_iff_ne.2 fun e => h (Option.some.inj e)
      rw [this]
      simp [h]
theorem fst_none (mine : Int) (t : List Nd) (xs : List Int) : fstOf (fitB t true none mine) xs = -1 := by
  induction xs with
  | nil => rfl
  | cons x xs ih => rw [fstOf_cons, ih]; rfl
set_option maxRecDepth 100000 in
set_option maxHeartbeats 4000000 in
theorem rof_c {S : Nat → Prop} {w : World} {v : Value} {t : List Nd} (hr : Row nodeK S w v t) (M : May t) {n : Int} (hn : isN t n = true) :
    Calls Tryz.prog 76 #[v, .int .i64 n] w fun e w' => e = .returned (.int .i64 (ofT t n)) ∧ Stp w w' := by
  have hrr := hr
  have cg := fun W (h : Stp w W) => rget_c (hr.stp h) hn 9
  have cn := fun W (h : Stp w W) => rname_c (hr.stp h) hn
  obtain ⟨A, c, rfl, hc, hm⟩ := hr.form
  obtain ⟨k, rfl, hk⟩ := isN_nat hn
  obtain ⟨b, o, rfl, _, _, hat⟩ := tree_base hr (by omega)
  obtain ⟨_, _, _, _, N⟩ := hat k hk
  have p2 := N.c2
  have hpe : t[k].parent = parN t k := by rw [parN, nd_nat hk]
  rw [hpe] at p2
  have hkz : (k : Int) < (t.length : Int) := by omega
  clear N hpe
  by_cases hp : parN t k = -1
  · have HR := Lib.hid (show ofT t k = -1 by unfold ofT; rw [if_pos (by rw [overT, if_pos hp])])
    rw [hp] at p2
    clear hat cg cn hp hr hrr
    go_enter Tryz.func76, Tryz.ntmps76
    go_wp2
    go_ret
    exact ⟨ret_int HR.out.symm, by (exact Lime.stp_)⟩
  · have ho : overT t k = (nd t (parN t k)).root := by rw [overT, if_neg hp]
    have hpN := (M.par_mem hn hp).1
    have hover := M.over_root hn
    have hpz : (parN t k == -1) = false := by simpa using hp
    have hof : overT t k ≠ -1 → ofT t k = fstOf (fitB t (attrT t (overT t k) 8).isSome (attrT t k 9) (nameT t k)) (slotsT t (overT t k)) := fun h => by unfold ofT; rw [if_neg h]
    have hof1 : overT t k = -1 → ofT t k = -1 := fun h => by unfold ofT; rw [if_pos h]
    generalize ofT t k = R at hof hof1 ⊢
    generalize parN t k = p at *
    obtain ⟨j, rfl, hj⟩ := isN_nat hpN
    obtain ⟨_, _, _, _, Q⟩ := hat j hj
    have q5 := Q.c5
    rw [nd_nat hj] at ho
    rw [← ho] at q5
    have hjz : (j : Int) < (t.length : Int) := by omega
    clear Q hat ho hpN
    by_cases h : overT t k = -1
    · have HR := Lib.hid (hof1 h)
      rw [h] at q5
      clear hof hof1 hover h cg cn hr hrr
      go_enter Tryz.func76, Tryz.ntmps76
      go_wp2
      go_ret
      exact ⟨ret_int HR.out.symm, by (exact Lime.stp_)⟩
    · obtain ⟨_, _, _, _, g5, g6, _, _⟩ := hover h
      have hoz : (overT t k == -1) = false := by simpa using h
      have hofT := hof h
      clear hof
      have ca := fun W (h : Stp w W) => rall5_c (hrr.stp h) M g5 g6
      have ch := fun W (h : Stp w W) => rhas_c (hrr.stp h) g5 8
      have hle : (slotsT t (overT t k)).length ≤ 64 := Nat.le_trans (List.length_filter_le _ _) (Nat.le_trans (M.listT_le g5) M.len2)
      have hx : ∀ x ∈ slotsT t (overT t k), isN t x = true := fun x hx => (M.slot_in g5 hx).1
      have cx := fun x (h : x ∈ slotsT t (overT t k)) W (hW : Stp w W) => rname_c (hrr.stp hW) (hx x h)
      generalize (attrT t (overT t k) 8).isSome = man at ch hofT
      generalize slotsT t (overT t k) = xs at ca hofT hle hx cx
      generalize overT t k = r at *
      clear hof1 hover h hp hr hrr hn g5 g6 hx
      cases man with
      | true =>
        clear cx cn
        cases ha : attrT t k 9 with
        | none =>
          rw [ha] at cg hofT
          have HR := Lib.hid (show R = -1 by rw [hofT, fst_none])
          simp only [Option.getD_none, Option.isSome_none] at cg
          clear hofT ha
          go_enter Tryz.func76, Tryz.ntmps76
          go_wp2_with (first | (go_at_call 92; refine (ca _ Lime.stp_).mono ?_; rintro e w1 ⟨u1, rfl, o1, hb1⟩; obtain ⟨A1, c1, rfl, hc1, hm1⟩ := o1.reads.form; have r1 := o1.reads) | (go_at_call 93; refine (ch _ hb1).mono ?_; rintro e w2 ⟨rfl, hb2⟩; have hs2 := hb1.trans hb2) | (go_at_call 94; refine (cg _ hs2).mono ?_; rintro e w3 ⟨rfl, hb3⟩; have hs3 := hs2.trans hb3) | (go_at_call 95; refine (rin3_c (r1.stp (hb2.trans hb3)) _).mono ?_; rintro e w4 ⟨rfl, hb4⟩; rw [HR.out]))
          go_ret
          exact ⟨ret_int HR.out.symm, hs3⟩
        | some a =>
          rw [ha] at cg hofT
          simp only [Option.getD_some, Option.isSome_some] at cg
          by_cases hmem : a ∈ xs
          · have HR := Lib.hid (show R = a by rw [hofT, fst_some, if_pos hmem])
            have HM := Lib.hid (decide_eq_true hmem)
            clear hofT ha hmem
            go_enter Tryz.func76, Tryz.ntmps76
            go_wp2_with (first | (go_at_call 92; refine (ca _ Lime.stp_).mono ?_; rintro e w1 ⟨u1, rfl, o1, hb1⟩; obtain ⟨A1, c1, rfl, hc1, hm1⟩ := o1.reads.form; have r1 := o1.reads) | (go_at_call 93; refine (ch _ hb1).mono ?_; rintro e w2 ⟨rfl, hb2⟩; have hs2 := hb1.trans hb2) | (go_at_call 94; refine (cg _ hs2).mono ?_; rintro e w3 ⟨rfl, hb3⟩; have hs3 := hs2.trans hb3) | (go_at_call 95; refine (rin3_c (r1.stp (hb2.trans hb3)) _).mono ?_; rintro e w4 ⟨rfl, hb4⟩; rw [HM.out]))
            go_ret
            exact ⟨ret_int HR.out.symm, hs3.trans hb4⟩
          · have HR := Lib.hid (show R = -1 by rw [hofT, fst_some, if_neg hmem])
            have HM := Lib.hid (decide_eq_false hmem)
            clear hofT ha hmem
            go_enter Tryz.func76, Tryz.ntmps76
            go_wp2_with (first | (go_at_call 92; refine (ca _ Lime.stp_).mono ?_; rintro e w1 ⟨u1, rfl, o1, hb1⟩; obtain ⟨A1, c1, rfl, hc1, hm1⟩ := o1.reads.form; have r1 := o1.reads) | (go_at_call 93; refine (ch _ hb1).mono ?_; rintro e w2 ⟨rfl, hb2⟩; have hs2 := hb1.trans hb2) | (go_at_call 94; refine (cg _ hs2).mono ?_; rintro e w3 ⟨rfl, hb3⟩; have hs3 := hs2.trans hb3) | (go_at_call 95; refine (rin3_c (r1.stp (hb2.trans hb3)) _).mono ?_; rintro e w4 ⟨rfl, hb4⟩; rw [HM.out]))
            go_ret
            exact ⟨ret_int HR.out.symm, hs3.trans hb4⟩
      | false =>
        have hfit : ∀ s, fitB t false (attrT t k 9) (nameT t k) s = (nameT t s == nameT t k) := fun s => rfl
        generalize fitB t false (attrT t k 9) (nameT t k) = P at hofT hfit
        generalize nameT t k = nk at *
        go_enter Tryz.func76, Tryz.ntmps76
        go_wp2_with (first | (go_at_call 92; refine (ca _ Lime.stp_).mono ?_; rintro e w1 ⟨u1, rfl, o1, hb1⟩; obtain ⟨A1, c1, rfl, hc1, hm1⟩ := o1.reads.form; have r1 := o1.reads) | (go_at_call 93; refine (ch _ hb1).mono ?_; rintro e w2 ⟨rfl, hb2⟩; have hs2 := hb1.trans hb2) | (go_at_call 94; refine (cg _ hs2).mono ?_; rintro e w3 ⟨rfl, hb3⟩; have hs3 := hs2.trans hb3) | (go_at_call 95; refine (rin3_c (r1.stp (hb2.trans hb3)) _).mono ?_; rintro e w4 ⟨rfl, hb4⟩; rw [rfl]))
        go_loopg [10] xs.length (fun gg s10 W => ∃ i : Nat, i ≤ xs.length ∧ xs.length - i ≤ gg ∧ s10 = .int .i64 i ∧ Stp w2 W ∧ Aside (fstOf P (xs.drop i) = R))
        case atStart => exact ⟨0, Nat.zero_le _, by omega, rfl, Stp.refl _, hofT.symm⟩
        case round =>
          obtain ⟨i, hi, hg, rfl, hst, HA⟩ := hrel
          have HE := Lib.hid HA.out
          clear HA hofT
          have hsw := hs2.trans hst
          by_cases hlt : i < xs.length
          · have hltz : (i : Int) < (xs.length : Int) := by omega
            obtain ⟨bx, ox, rfl, _, _, x0⟩ := int_at (r1.stp (hb2.trans hst)) i hlt
            have HD := Lib.hid (show fstOf P (xs.drop i) = if P xs[i] = true then xs[i] else fstOf P (xs.drop (i + 1)) by rw [List.drop_eq_getElem_cons hlt, fstOf_cons])
            have cy := fun W (hW : Stp w W) => cx xs[i] (List.getElem_mem hlt) W hW
            generalize xs[i] = y at x0 HD cy
            rw [hfit y] at HD
            clear cx
            generalize nameT t y = ny at HD cy
            by_cases hy : ny = nk
            · have hyz : (ny == nk) = true := by simpa using hy
              have HR := Lib.hid (show R = y by rw [← HE.out, HD.out, if_pos hyz])
              clear hy
              go_wp2_with (go_at_call 96; first | (refine (cn _ (hsw.trans hb5)).mono ?_; rintro e w6 ⟨rfl, hb6⟩; have z0 := hb6.cell y0) | (refine (cy _ hsw).mono ?_; rintro e w5 ⟨rfl, hb5⟩; have y0 := hb5.cell x0))
              go_ret
              exact ⟨ret_int HR.out.symm, hsw.trans (hb5.trans hb6)⟩
            · have hyz : (ny == nk) = false := by simpa using hy
              have HR := Lib.hid (show fstOf P (xs.drop (i + 1)) = R by rw [← HE.out, HD.out, if_neg (by simp [hyz])])
              clear hy
              go_wp2_with (go_at_call 96; first | (refine (cn _ (hsw.trans hb5)).mono ?_; rintro e w6 ⟨rfl, hb6⟩; have z0 := hb6.cell y0) | (refine (cy _ hsw).mono ?_; rintro e w5 ⟨rfl, hb5⟩; have y0 := hb5.cell x0))
              go_roundg (xs.length - (i + 1))
              case measure => omega
              case rel => exact ⟨i + 1, by omega, by omega, by go_num, hst.trans (hb5.trans hb6), HR.out⟩
          · have hltz : ¬ (i : Int) < (xs.length : Int) := by omega
            have HR := Lib.hid (show R = -1 by rw [← HE.out, List.drop_eq_nil_of_le (by omega)]; rfl)
            go_wp2
            go_ret
            exact ⟨ret_int HR.out.symm, hsw⟩
end Go.Proofs.Lime
