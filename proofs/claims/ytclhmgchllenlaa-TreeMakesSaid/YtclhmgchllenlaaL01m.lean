/- Plain law: TreeMakes. No conditions. -/
import Derived.Test.YtclhmgchllenlaaE01s
import Derived.Test.YtclhmgchllenlaaE01c
import Derived.Test.YtclhmgchllenlaaPx3
import Derived.Test.YtclhmgchllenlaaPx5
namespace Go.Proofs.Ytclhmgchllenlaa.P
open Go.RowKit Go.Proofs.YtclhmgchllenlaaW.PrintWords Go.Proofs.YtclhmgchllenlaaW.PrintLast Go.Proofs.YtclhmgchllenlaaW.PrintMore
open Go.Proofs.Lime (isN nd mayT mkR atR mkOk)
set_option linter.unusedVariables false
set_option linter.unusedSimpArgs false
set_option linter.unusedSectionVars false
theorem rt_app (l : List S49) (x : Lime.Nd) : rt (tr l ++ [x]) = l ++ [nd2 x] := by
  have := rt_tr l
  unfold rt at *
  rw [List.map_append, this]; rfl
theorem rt_set (t : List Lime.Nd) (n : Nat) (x : Lime.Nd) : rt (t.set n x) = (rt t).set n (nd2 x) := by
  unfold rt; rw [List.map_set]
theorem nd2_nd1 (x : S49) : nd2 (nd1 x) = x := by
  have := rt_tr [x]
  simpa [rt, tr] using this
theorem tr_getD {l : List S49} {n : Nat} (h : n < l.length) : (tr l).getD n Lime.noNd = nd1 l[n] := by simp [tr, h]
section
variable {l : List S49} (hb : Bnd l)
include hb
theorem mk_bad {a b : Int} (hm : mayT (tr l) = true) (hq : mkOk a b = false) : Ev (fun k => limelightref01_Make.j0 k l a b true) (rt (mkR (tr l) a b).1, (mkR (tr l) a b).2.1, (mkR (tr l) a b).2.2) := by
  rw [Lime.mkR_2 hm hq]
  refine Ev.step (fun k => by rw [limelightref01_Make.j0]) ?_
  exact Ev.yes rfl (Ev.pure (by rw [rt_tr]))
theorem mk_good {a b : Int} (hm : mayT (tr l) = true) (hq : mkOk a b = true) : Ev (fun k => limelightref01_Make.j0 k l a b false) (rt (mkR (tr l) a b).1, (mkR (tr l) a b).2.1, (mkR (tr l) a b).2.2) := by
  have hl := hb.len
  refine Ev.step (fun k => by rw [limelightref01_Make.j0]) ?_
  refine Ev.no (by simp) ?_
  by_cases h64 : l.length = 64
  · refine Ev.yes (by omega) ?_
    rw [Lime.mkR_3 hm hq (by rw [tr_length]; exact h64)]
    exact Ev.pure (by rw [rt_tr])
  · refine Ev.no (by omega) ?_
    rw [Lime.mkR_4 hm hq (by rw [tr_length]; exact h64)]
    refine Ev.bind (copy_ev hb) ?_
    refine Ev.yes (by omega) (Ev.pure ?_)
    rw [rt_app, tr_length]; rfl
theorem make_ev (a b : Int) : Ev (fun k => limelightref01_Make.f k l a b) (rt (mkR (tr l) a b).1, (mkR (tr l) a b).2.1, (mkR (tr l) a b).2.2) := by
  unfold limelightref01_Make.f
  unfold limelightref01_May.f
  simp only [Option.bind_some]
  cases hm : mayT (tr l) with
  | false =>
    refine Ev.no (by simp) ?_
    rw [Lime.mkR_1 hm]
    exact Ev.pure rfl
  | true =>
    refine Ev.yes rfl ?_
    by_cases h1 : a = 1
    · subst h1
      refine Ev.yes rfl ?_
      by_cases h2 : b < 0
      · exact Ev.yes h2 (mk_bad hb hm (by simp [mkOk]; omega))
      · refine Ev.no h2 ?_
        by_cases h3 : b > 4
        · exact Ev.yes h3 (mk_bad hb hm (by simp [mkOk]; omega))
        · exact Ev.no h3 (Ev.no (by decide) (mk_good hb hm (by simp [mkOk]; omega)))
    · refine Ev.no h1 ?_
      by_cases h2 : a = 2
      · subst h2
        refine Ev.yes rfl ?_
        by_cases h0 : b = 0
        · subst h0
          exact Ev.no (by decide) (Ev.no (by decide) (mk_good hb hm (by simp [mkOk])))
        · have hbad : mkOk 2 b = false := by simp [mkOk, h0]
          have hb0 : (b != 0) = true := by simpa using h0
          rw [hb0]
          exact Ev.ite (fun _ => mk_bad hb hm hbad) (fun _ => Ev.ite (fun _ => mk_bad hb hm hbad) (fun _ => mk_bad hb hm hbad))
      · exact Ev.no h2 (mk_bad hb hm (by simp [mkOk, h1, h2]))
theorem attach_ev (h : Int) : Ev (fun k => limelightref01_Attach.f k l h) (rt (atR (tr l) h).1, (atR (tr l) h).2.1, (atR (tr l) h).2.2) := by
  have hl := hb.len
  unfold limelightref01_Attach.f
  unfold limelightref01_May.f limelightref01_Is.f
  simp only [Option.bind_some]
  unfold atR
  cases hm : mayT (tr l) with
  | false => exact Ev.no (by simp) (Ev.pure rfl)
  | true =>
    refine Ev.yes rfl ?_
    rw [if_neg (by simp)]
    cases hn : isN (tr l) h with
    | false => exact Ev.no (by simp) (Ev.pure (by rw [if_pos rfl, rt_tr]))
    | true =>
      obtain ⟨n, rfl, hnl⟩ := isN_nat' hn
      refine Ev.yes rfl (Ev.yes (by omega) (Ev.yes (by omega) ?_))
      rw [if_neg (by simp)]
      rw [rd_kind, rd_root]
      by_cases hk : (nd (tr l) (n : Int)).kind = 1
      · refine Ev.yes hk ?_
        rw [if_neg (by simpa using hk)]
        by_cases hr : (nd (tr l) (n : Int)).root = -1
        · refine Ev.yes hr ?_
          rw [if_neg (by simpa using hr)]
          by_cases h64 : l.length = 64
          · refine Ev.yes (by omega) (Ev.pure ?_)
            rw [if_pos (by rw [tr_length]; exact h64), rt_tr]
          · refine Ev.no (by omega) ?_
            rw [if_neg (by rw [tr_length]; exact h64)]
            refine Ev.bind (copy_ev hb) ?_
            refine Ev.yes (by omega) ?_
            simp only [Option.bind_some]
            refine Ev.yes (by rw [List.length_set]; omega) (Ev.pure ?_)
            rw [rdS hnl, tr_length]
            simp only [Int.toNat_natCast, Lime.atT]
            have e1 : rt ((tr l).set n (((tr l).getD n Lime.noNd).rootTo (tr l).length) ++ [⟨3, 0, -1, [], (n : Int), -1, []⟩]) = l.set n ⟨l[n].f0, l[n].f1, l[n].f2, l[n].f3, l[n].f4, (l.length : Int), l[n].f6⟩ ++ [⟨3, 0, -1, [], (n : Int), -1, []⟩] := by
              have h1 : rt ((tr l).set n (((tr l).getD n Lime.noNd).rootTo (tr l).length) ++ [⟨3, 0, -1, [], (n : Int), -1, []⟩]) = rt ((tr l).set n (((tr l).getD n Lime.noNd).rootTo (tr l).length)) ++ [nd2 ⟨3, 0, -1, [], (n : Int), -1, []⟩] := by unfold rt; rw [List.map_append]; rfl
              rw [h1, rt_set, rt_tr, tr_getD hnl, tr_length]
              have h2 : nd2 ((nd1 l[n]).rootTo (l.length : Int)) = ⟨l[n].f0, l[n].f1, l[n].f2, l[n].f3, l[n].f4, (l.length : Int), l[n].f6⟩ := by
                have := nd2_nd1 l[n]
                have h6 : (nd2 (nd1 l[n])).f6 = l[n].f6 := by rw [this]
                have e : nd2 ((nd1 l[n]).rootTo (l.length : Int)) = ⟨l[n].f0, l[n].f1, l[n].f2, l[n].f3, l[n].f4, (l.length : Int), (nd2 (nd1 l[n])).f6⟩ := rfl
                rw [e, h6]
              rw [h2]; rfl
            rw [e1]
        · refine Ev.no hr (Ev.pure ?_)
          rw [if_pos (by simpa using hr), rt_tr]
      · refine Ev.no hk (Ev.pure ?_)
        rw [if_pos (by simpa using hk), rt_tr]
end
theorem ok_mk {t : List Lime.Nd} (h : Lime.smallT t = true) (a b : Int) : Lime.okT (mkR t a b).1 = true := by
  have hs := small_ok h
  simp only [Lime.smallT, Bool.and_eq_true, decide_eq_true_eq, List.all_eq_true] at h
  unfold mkR
  split
  · rfl
  · split
    · exact hs
    · split
      · exact hs
      · rw [Lime.okT_iff]
        refine ⟨by simp; omega, fun x hx => ?_⟩
        rcases List.mem_append.1 hx with hx | hx
        · have := h.2 x hx; omega
        · rw [List.mem_singleton.1 hx]; simp [Lime.freshN]
theorem ok_at {t : List Lime.Nd} (h : Lime.smallT t = true) (a : Int) : Lime.okT (atR t a).1 = true := by
  have hs := small_ok h
  simp only [Lime.smallT, Bool.and_eq_true, decide_eq_true_eq, List.all_eq_true] at h
  unfold atR
  split
  · rfl
  · split
    · exact hs
    · split
      · exact hs
      · split
        · exact hs
        · split
          · exact hs
          · rw [Lime.okT_iff]
            refine ⟨by simp [Lime.atT]; omega, fun x hx => ?_⟩
            rcases List.mem_append.1 hx with hx | hx
            · rcases List.mem_or_eq_of_mem_set hx with hx | hx
              · have := h.2 x hx; omega
              · subst hx
                by_cases hk : a.toNat < t.length
                · have := h.2 _ (List.getElem_mem hk)
                  simp only [Lime.Nd.rootTo, List.getD_eq_getElem?_getD, List.getElem?_eq_getElem hk, Option.getD_some]
                  omega
                · simp [Lime.Nd.rootTo, hk, Lime.noNd]
            · rw [List.mem_singleton.1 hx]; simp
theorem TreeMakes_ok (l : List S49) (a b : Int) : ∃ k, limelightlaw01_TreeMakes.f k l a b = some true := by
  refine Ev.rounds ?_
  unfold limelightlaw01_TreeMakes.f
  unfold limelightref01_Small.f
  simp only [Option.bind_some]
  cases hs : Lime.smallT (tr l) with
  | false => exact Ev.no (by simp) live_some
  | true =>
    have hb := Bnd.small hs
    have hok := small_ok hs
    refine Ev.yes rfl ?_
    unfold tree_Make.f tree_Attach.f ifOk
    rw [if_pos hok, if_pos hok]
    simp only [Option.bind_some]
    refine Ev.bind (make_ev hb a b) ?_
    refine Ev.bind (attach_ev hb b) ?_
    refine Ev.bind (same_ev (Bnd.iff.1 (by rw [tr_rt]; exact ok_mk hs a b))) ?_
    refine Ev.yes rfl (Ev.yes rfl (Ev.yes rfl ?_))
    refine Ev.bind (same_ev (Bnd.iff.1 (by rw [tr_rt]; exact ok_at hs b))) ?_
    exact Ev.yes rfl (Ev.yes rfl (Ev.yes rfl live_some))
end Go.Proofs.Ytclhmgchllenlaa.P
