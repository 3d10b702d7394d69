/- Plain law: TreeKeeps. No conditions. -/
import Derived.Test.YtclhmgchllenlaaE01s
import Derived.Test.YtclhmgchllenlaaPx12
namespace Go.Proofs.Ytclhmgchllenlaa.P
open Go.RowKit Go.Proofs.YtclhmgchllenlaaW.PrintWords Go.Proofs.YtclhmgchllenlaaW.PrintLast Go.Proofs.YtclhmgchllenlaaW.PrintMore
open Go.Proofs.Lime (isN nd mayT mkR insR rmR insT noNd Nd)
set_option linter.unusedVariables false
set_option linter.unusedSimpArgs false
/-- Are nodes what they were, but for parents and kids? -/
structure Alike (x y : Nd) : Prop where mk ::
  kind : x.kind = y.kind
  tag : x.tag = y.tag
  host : x.host = y.host
  root : x.root = y.root
  attrs : x.attrs = y.attrs
structure KeepT (t r : List Nd) : Prop where mk ::
  len : t.length ≤ r.length
  all : ∀ i (h : i < t.length) (h' : i < r.length), Alike r[i] t[i]
theorem KeepT.refl (t : List Nd) : KeepT t t := ⟨Nat.le_refl _, fun i _ _ => ⟨rfl, rfl, rfl, rfl, rfl⟩⟩
theorem KeepT.set {t r : List Nd} (h : KeepT t r) {p : Nat} {x : Nd} (hx : ∀ h' : p < r.length, Alike x r[p]) : KeepT t (r.set p x) := by
  refine ⟨by rw [List.length_set]; exact h.len, fun i hi hi' => ?_⟩
  rw [List.length_set] at hi'
  rw [List.getElem_set]
  split
  · rename_i e
    subst e
    have h1 := hx hi'
    have h2 := h.all p hi hi'
    exact ⟨h1.kind.trans h2.kind, h1.tag.trans h2.tag, h1.host.trans h2.host, h1.root.trans h2.root, h1.attrs.trans h2.attrs⟩
  · exact h.all i hi hi'
theorem alike_kids {r : List Nd} {p : Nat} (l : List Int) (h : p < r.length) : Alike ((r.getD p noNd).kidsTo l) r[p] := by
  have : r.getD p noNd = r[p] := by simp [h]
  rw [this]
  exact ⟨rfl, rfl, rfl, rfl, rfl⟩
theorem alike_par {r : List Nd} {p : Nat} (q : Int) (h : p < r.length) : Alike ((r.getD p noNd).parTo q) r[p] := by
  have : r.getD p noNd = r[p] := by simp [h]
  rw [this]
  exact ⟨rfl, rfl, rfl, rfl, rfl⟩
theorem keep_take (t : List Nd) (c : Nat) : KeepT t (Lime.takeT t c) := by
  unfold Lime.takeT
  split
  · exact KeepT.refl t
  · exact ((KeepT.refl t).set fun h => alike_kids _ h).set fun h => alike_par _ h
theorem keep_ins (t : List Nd) (p c : Nat) (b : Int) : KeepT t (insT t p c b) := by
  unfold insT
  split
  · exact KeepT.refl t
  · exact ((keep_take t c).set fun h => alike_kids _ h).set fun h => alike_par _ h
theorem keep_insR (t : List Nd) (p c b : Int) : (insR t p c b).1 = [] ∨ KeepT t (insR t p c b).1 := by
  unfold insR
  split
  · exact .inl rfl
  · split
    · exact .inr (KeepT.refl t)
    · exact .inr (keep_ins t _ _ _)
theorem keep_rmR (t : List Nd) (c : Int) : (rmR t c).1 = [] ∨ KeepT t (rmR t c).1 := by
  unfold rmR
  split
  · exact .inl rfl
  · split
    · exact .inr (KeepT.refl t)
    · split
      · exact .inr (KeepT.refl t)
      · exact .inr (keep_take t _)
theorem keep_mkR (t : List Nd) (a b : Int) : (mkR t a b).1 = [] ∨ KeepT t (mkR t a b).1 := by
  unfold mkR
  split
  · exact .inl rfl
  · split
    · exact .inr (KeepT.refl t)
    · split
      · exact .inr (KeepT.refl t)
      · exact .inr ⟨by simp, fun i h h' => by rw [List.getElem_append_left h]; exact ⟨rfl, rfl, rfl, rfl, rfl⟩⟩
theorem rt_at {r : List Nd} {i : Nat} (h : i < r.length) : (rt r)[i]'(by rw [rt_length]; exact h) = nd2 r[i] := by simp [rt]
theorem tr_at {l : List S49} {i : Nat} (h : i < l.length) : (tr l)[i]'(by rw [tr_length]; exact h) = nd1 l[i] := by simp [tr]
section
variable {l : List S49} (hb : Bnd l)
include hb
theorem keep_l1 {ls : List (List S49)} {r : List Nd} (hr : KeepT (tr l) r) {j : Nat} (hj : j < ls.length) (hj3 : j < 3) (hl : rd_L5 ls (j : Int) = rt r) (hk : Ev (fun k => limelightlaw01_TreeKeeps.l0 k l ls ((j + 1 : Nat) : Int)) true) :
    ∀ d i : Nat, i + d = l.length → Ev (fun k => limelightlaw01_TreeKeeps.l1 k l ls (j : Int) (i : Int)) true := by
  have hlen := hb.len
  have hrl := hr.len
  rw [tr_length] at hrl
  intro d
  induction d with
  | zero =>
    intro i hi
    refine Ev.step (fun k => by rw [limelightlaw01_TreeKeeps.l1]) ?_
    refine Ev.no (by omega) ?_
    rw [w1 (by omega)]
    exact hk
  | succ d ih =>
    intro i hi
    have hil : i < l.length := by omega
    have hir : i < r.length := by omega
    refine Ev.step (fun k => by rw [limelightlaw01_TreeKeeps.l1]) ?_
    refine Ev.yes (by omega) (Ev.yes (by omega) (Ev.yes (by omega) (Ev.yes (by omega) ?_)))
    rw [hl]
    refine Ev.yes (by rw [rt_length]; omega) ?_
    rw [rdS (show i < (rt r).length by rw [rt_length]; exact hir), rt_at hir, rdS hil]
    have ha := hr.all i (by rw [tr_length]; exact hil) hir
    rw [tr_at hil] at ha
    have e6 : (nd2 r[i]).f6 = l[i].f6 := by
      have : (nd2 r[i]).f6 = (nd2 (nd1 l[i])).f6 := by show r[i].attrs.map at2 = (nd1 l[i]).attrs.map at2; rw [ha.attrs]
      have h2 := rt_tr [l[i]]
      rw [this]
      have h3 : nd2 (nd1 l[i]) = l[i] := by simpa [rt, tr] using h2
      rw [h3]
    have e0 : (nd2 r[i]).f0 = l[i].f0 := ha.kind
    have e1 : (nd2 r[i]).f1 = l[i].f1 := ha.tag
    have e4 : (nd2 r[i]).f4 = l[i].f4 := ha.host
    have e5 : (nd2 r[i]).f5 = l[i].f5 := ha.root
    rw [e0, e1, e4, e5, e6]
    have h6 := (hb.all _ (List.getElem_mem hil)).2
    refine Ev.bind (one_ev _ _ _ _ _ _ _ (by omega)) ?_
    refine Ev.yes rfl ?_
    rw [w1 (by omega)]
    exact ih (i + 1) (by omega)
theorem keep_l0 {ls : List (List S49)} {r : List Nd} (hr : r = [] ∨ KeepT (tr l) r) {j : Nat} (hj : j < ls.length) (hj3 : j < 3) (hl : rd_L5 ls (j : Int) = rt r) (hk : Ev (fun k => limelightlaw01_TreeKeeps.l0 k l ls ((j + 1 : Nat) : Int)) true) : Ev (fun k => limelightlaw01_TreeKeeps.l0 k l ls (j : Int)) true := by
  refine Ev.step (fun k => by rw [limelightlaw01_TreeKeeps.l0]) ?_
  refine Ev.yes (by omega) (Ev.yes (by omega) (Ev.yes (by omega) ?_))
  rw [hl]
  by_cases h0 : r = []
  · subst h0
    refine Ev.yes rfl ?_
    rw [w1 (by omega)]
    exact hk
  · have hK := hr.resolve_left h0
    have hne : r.length ≠ 0 := fun e => h0 (List.eq_nil_of_length_eq_zero e)
    have hlen := hK.len
    rw [tr_length] at hlen
    refine Ev.no (by rw [rt_length]; omega) (Ev.no (by rw [rt_length]; omega) ?_)
    exact keep_l1 hb hK hj hj3 hl hk l.length 0 (by omega)
end
theorem TreeKeeps_ok (l : List S49) (a b c : Int) : ∃ k, limelightlaw01_TreeKeeps.f k l a b c = some true := by
  refine Ev.rounds ?_
  unfold limelightlaw01_TreeKeeps.f
  unfold limelightref01_Small.f limelightlaw01_own.f
  simp only [Option.bind_some]
  cases hs : Lime.smallT (tr l) with
  | false => exact Ev.no (by simp) live_some
  | true =>
    have hb := Bnd.small hs
    have hok := small_ok hs
    refine Ev.yes rfl ?_
    unfold tree_Make.f tree_Remove.f tree_Insert.f ifOk
    rw [if_pos hok, if_pos hok, if_pos hok]
    simp only [Option.bind_some]
    refine keep_l0 hb (j := 0) (keep_insR _ a b c) (by simp) (by omega) rfl ?_
    refine keep_l0 hb (j := 1) (keep_rmR _ b) (by simp) (by omega) rfl ?_
    refine keep_l0 hb (j := 2) (keep_mkR _ a b) (by simp) (by omega) rfl ?_
    refine Ev.step (fun k => by rw [limelightlaw01_TreeKeeps.l0]) ?_
    exact Ev.no (by decide) live_some
end Go.Proofs.Ytclhmgchllenlaa.P
