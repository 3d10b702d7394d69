/- Plain law: TreeBack. No conditions. -/
import Derived.Test.YtclhmgchllenlaaE01s
import Derived.Test.YtclhmgchllenlaaPres
import Derived.Test.YtclhmgchllenlaaPx10
namespace Go.Proofs.Ytclhmgchllenlaa.P
open Go.RowKit Go.Proofs.YtclhmgchllenlaaW.PrintWords Go.Proofs.YtclhmgchllenlaaW.PrintLast Go.Proofs.YtclhmgchllenlaaW.PrintMore
open Go.Proofs.Lime (isN nd mayT insR rmR insT noNd Nd May)
set_option linter.unusedVariables false
set_option linter.unusedSimpArgs false
theorem ext_nd {t u : List Nd} (hl : u.length = t.length) (h : ∀ n, isN t n = true → nd u n = nd t n) : u = t := by
  refine List.ext_getElem hl fun i h1 h2 => ?_
  have := h i (Lime.isN_of h2)
  rwa [Lime.nd_nat h1, Lime.nd_nat h2] at this
theorem out_insAt {l : List Int} {b c : Int} (h : c ∉ l) : Lime.outI c (Lime.insAt l b c) = l := by
  have key : ∀ l : List Int, c ∉ l → Lime.outI c l = l := fun l h => by
    unfold Lime.outI
    rw [List.filter_eq_self]
    intro x hx
    have : x ≠ c := by rintro rfl; exact h hx
    simpa using this
  unfold Lime.insAt
  generalize (if Lime.idx (· == b) l < 0 then l.length else (Lime.idx (· == b) l).toNat) = i
  have h1 : Lime.outI c (l.take i ++ c :: l.drop i) = Lime.outI c (l.take i) ++ Lime.outI c (l.drop i) := by
    unfold Lime.outI
    rw [List.filter_append, List.filter_cons]
    simp
  rw [h1, key _ (fun h2 => h (List.mem_of_mem_take h2)), key _ (fun h2 => h (List.mem_of_mem_drop h2)), List.take_append_drop]
theorem back_eq {t : List Nd} (M : May t) {p c b : Int} (hpar : (nd t c).parent = -1) (h : Lime.wrongR t p c b = 0) : rmR (insT t p.toNat c.toNat b) c = (t, 0) := by
  obtain ⟨h1, h2, h3, h4, h5, h6, h7⟩ := Lime.wrong_zero h
  have M1 : May (insT t p.toNat c.toNat b) := Lime.may_ins M (by rw [Lime.nat_of h1, Lime.nat_of h2]; exact h)
  obtain ⟨p, rfl, hp⟩ := Lime.isN_nat h1
  obtain ⟨c, rfl, hc⟩ := Lime.isN_nat h2
  simp only [Int.toNat_natCast] at M1 ⊢
  have hbc : b ≠ c := by
    rintro rfl
    rcases h7 with h7 | ⟨_, h7⟩
    · omega
    · rw [hpar] at h7; omega
  have ht : Lime.takeT t c = t := by unfold Lime.takeT; exact if_pos hpar
  have hpc : p ≠ c := by rintro rfl; exact h6 (by rw [M.ups_step h1]; exact List.mem_cons_self)
  rw [Lime.insT_put, if_neg hbc, ht] at M1 ⊢
  obtain ⟨hl, hN⟩ := Lime.nd_put hp hc hpc b
  have hi := Lime.isN_len hl
  have ec : nd (Lime.putT t p c b) c = (nd t c).parTo p := by rw [hN _ h2, if_pos rfl]
  have ep : nd (Lime.putT t p c b) p = (nd t p).kidsTo (Lime.insAt (nd t p).kids b c) := by rw [hN _ h1, if_neg (by omega), if_pos rfl]
  have epar : Lime.parN (Lime.putT t p c b) c = p := by unfold Lime.parN; rw [ec]; rfl
  obtain ⟨gl, gN⟩ := Lime.nd_take M1 (by rw [hl]; exact hc) (by rw [epar]; omega)
  have hno : (c : Int) ∉ (nd t p).kids := fun hm => by
    have h1 := (M.kid h1 hm).2.2.1
    have : Lime.parN t c = -1 := hpar
    omega
  have hT : Lime.takeT (Lime.putT t p c b) c = t := by
    refine ext_nd (by rw [gl, hl]) fun n hn => ?_
    rw [gN n (by rw [hi]; exact hn)]
    split
    · rename_i e
      subst e
      rw [ec]
      generalize hx : nd t (c : Int) = x at hpar ⊢
      cases x
      simp only at hpar
      subst hpar
      rfl
    · rename_i e1
      split
      · rename_i e
        rw [epar] at e
        rw [epar, ep, e]
        have : Lime.outI c ((nd t p).kidsTo (Lime.insAt (nd t p).kids b c)).kids = (nd t p).kids := out_insAt hno
        rw [this]
        generalize nd t (p : Int) = x
        cases x
        rfl
      · rename_i e
        rw [epar] at e
        rw [hN n hn, if_neg e1, if_neg e]
  unfold rmR
  rw [if_neg (by rw [May.iff.2 M1]; simp), if_neg (by rw [hi, h2]; simp), if_neg (by have : (nd (Lime.putT t p c b) c).parent = p := epar; omega), Int.toNat_natCast, hT]
theorem TreeBack_ok (l : List S49) (a b c : Int) : ∃ k, limelightlaw01_TreeBack.f k l a b c = some true := by
  refine Ev.rounds ?_
  unfold limelightlaw01_TreeBack.f
  unfold limelightref01_Small.f
  simp only [Option.bind_some]
  cases hs : Lime.smallT (tr l) with
  | false =>
    refine Ev.no (by simp) ?_
    refine Ev.step (fun k => by rw [limelightlaw01_TreeBack.j0]) ?_
    exact Ev.yes rfl live_some
  | true =>
    have hb := Bnd.small hs
    have hok := small_ok hs
    have hlen := hb.len
    refine Ev.yes rfl ?_
    have hIs : limelightref01_Is.f l b = some (isN (tr l) b) := rfl
    rw [hIs]
    simp only [Option.bind_some]
    refine Ev.step (fun k => by rw [limelightlaw01_TreeBack.j0]) ?_
    cases hn : isN (tr l) b with
    | false => exact Ev.yes rfl live_some
    | true =>
      refine Ev.no (by simp) ?_
      obtain ⟨n, rfl, hnt⟩ := Lime.isN_nat hn
      have hnl : n < l.length := by rw [tr_length] at hnt; exact hnt
      refine Ev.yes (by omega) (Ev.yes (by omega) ?_)
      rw [rdS hnl]
      have hnd : nd (tr l) n = nd1 l[n] := by
        rw [Lime.nd_nat hnt]; simp [tr]
      have hndp : (nd (tr l) n).parent = l[n].f2 := by rw [hnd]; rfl
      by_cases hp : l[n].f2 = -1
      · refine Ev.yes hp ?_
        unfold limelightlaw01_own.f
        simp only [Option.bind_some]
        unfold tree_Insert.f ifOk
        rw [if_pos hok]
        simp only [Option.bind_some]
        by_cases he : (insR (tr l) a n c).2 = 0
        · refine Ev.yes he ?_
          unfold insR at he ⊢
          split at he
          · cases he
          rename_i hm
          rw [if_neg hm]
          have hm : mayT (tr l) = true := by simpa using hm
          split at he
          · rename_i hw; exact absurd he hw
          rename_i hw
          rw [if_neg hw]
          have hw : Lime.wrongR (tr l) a n c = 0 := by omega
          have M := May.iff.1 hm
          have hbk := back_eq M (by rw [hndp]; exact hp) hw
          have M1 : May (insT (tr l) a.toNat (n : Int).toNat c) := by
            obtain ⟨h1, h2, _⟩ := Lime.wrong_zero hw
            exact Lime.may_ins M (by rw [Lime.nat_of h1, Lime.nat_of h2]; exact hw)
          unfold tree_Remove.f ifOk
          dsimp only
          rw [tr_rt, if_pos (Lime.may_okT M1), hbk, rt_tr]
          simp only [Option.bind_some]
          refine Ev.yes trivial (Ev.bind (same_ev hb) ?_)
          exact Ev.yes rfl live_some
        · exact Ev.no he live_some
      · refine Ev.no hp ?_
        unfold tree_Insert.f ifOk
        rw [if_pos hok]
        simp only [Option.bind_some]
        by_cases he : (insR (tr l) l[n].f2 n n).2 = 0
        · refine Ev.yes he ?_
          have e : (insR (tr l) l[n].f2 n n).1 = tr l := by
            unfold insR at he ⊢
            split at he
            · cases he
            rename_i hm
            rw [if_neg hm]
            split at he
            · rename_i hw; exact absurd he hw
            rename_i hw
            rw [if_neg hw, insT, Int.toNat_natCast, if_pos rfl]
          rw [e, rt_tr]
          refine Ev.bind (same_ev hb) ?_
          exact Ev.yes rfl live_some
        · exact Ev.no he live_some
end Go.Proofs.Ytclhmgchllenlaa.P
