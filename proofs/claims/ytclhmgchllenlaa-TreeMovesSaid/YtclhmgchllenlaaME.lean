/- Trees and lists of numbers as the print tells them, and as my walks do. No conditions. The tree layer's contracts in the print's form. No conditions. -/
import Derived.Test.YtclhmgchllenlaaPx0
import Derived.Test.YtclhmgchllenlaaMA
import Derived.Test.YtclhmgchllenlaaMC
import Derived.Test.YtclhmgchllenlaaTmk
import Derived.Test.YtclhmgchllenlaaMN
namespace Go.Proofs.Ytclhmgchllenlaa.P
open Go.RowKit Go.Proofs.YtclhmgchllenlaaW.PrintWords Go.Proofs.YtclhmgchllenlaaW.PrintLast Go.Proofs.YtclhmgchllenlaaW.PrintMore
set_option linter.unusedVariables false
set_option linter.unusedSimpArgs false

/-- A row that is read, in my words. -/
theorem row_of_C {α β : Type} {d : Kd α} {e : Lime.Kd β} (f : α → β) {w : World} (hz : d.sz = e.sz) (hp : 0 < d.sz) (hK : ∀ x cs, d.K w x cs → e.K (fun _ => True) w (f x) cs) {A : Option Addr} {n c : Nat} {xs : List α} (h : Kd.C d w A n xs) (hc : n ≤ c) :
    Lime.Row e (fun _ => True) w (.slice A n c) (xs.map f) := by
  obtain ⟨hl, hn, hg⟩ := h
  refine ⟨⟨A, c, by simp [hl], by simp [hl]; exact hc, by simp [hl]; exact hn⟩, fun j hj => ?_⟩
  have hj' : j < xs.length := by simpa using hj
  obtain ⟨ad, rfl, hcell⟩ := hg (by omega)
  obtain ⟨cs0, hl0, _, hc0⟩ := hcell 0 xs[0] (List.getElem?_eq_getElem (by omega))
  have h00 := hc0 0 cs0[0] (List.getElem?_eq_getElem (by omega))
  rw [Nat.zero_mul, Nat.add_zero] at h00
  have hsp : ad.spot = none := by
    have e0 : ad.add 0 = ad := by simp [Addr.add]
    rw [e0] at h00
    unfold World.cell? at h00
    split at h00
    · split at h00
      · cases h00
      · rename_i hs; cases hq : ad.spot with
        | none => rfl
        | some s => rw [hq] at hs; simp at hs
    · cases h00
  obtain ⟨b, o, sp⟩ := ad
  simp only at hsp
  subst hsp
  have hadd : ∀ i, (⟨b, o, none⟩ : Addr).add i = ⟨b, o + i, none⟩ := fun i => by unfold Addr.add; split <;> simp_all
  obtain ⟨cs, hcl, hR, hcc⟩ := hcell j xs[j] (List.getElem?_eq_getElem hj')
  refine ⟨b, o, c, cs, by simp [hl], trivial, World.block_lt_of_cell? w _ h00, by simpa using hK _ _ hR, fun i u hi => ?_⟩
  have := hcc i u hi
  rw [hadd, ← Nat.add_assoc, hz] at this
  exact this
theorem ints_of_C {w : World} {A : Option Addr} {n c : Nat} {xs : List Int} (h : Kd.C (Kd.int .i64) w A n xs) (hc : n ≤ c) : Lime.Row Lime.intK (fun _ => True) w (.slice A n c) xs := by
  have := row_of_C (e := Lime.intK) id rfl (by decide) (fun x cs h => h) h hc
  rwa [List.map_id] at this
def at1 (a : S65) : Lime.Attr := ⟨a.f0, a.f1⟩
def nd1 (x : S49) : Lime.Nd := ⟨x.f0, x.f1, x.f2, x.f3, x.f4, x.f5, x.f6.map at1⟩
def tr (l : List S49) : List Lime.Nd := l.map nd1
theorem tr_length (l : List S49) : (tr l).length = l.length := by simp [tr]
theorem row_tree {w : World} {A : Option Addr} {c : Nat} {l : List S49} (h : Kd.C k49 w A l.length l) (hc : l.length ≤ c) : Lime.Row Lime.nodeK (fun _ => True) w (.slice A l.length c) (tr l) :=
  row_of_C (e := Lime.nodeK) nd1 rfl (by decide) (fun x cs h => by
    obtain ⟨A3, c3, A6, c6, rfl, l3, g3, l6, g6⟩ := k49_open h
    exact ⟨_, _, rfl, ints_of_C g3 l3, row_of_C (e := Lime.attrK) at1 rfl (by decide) (fun y cs h => by rw [k65_open h]; rfl) g6 l6⟩) h hc
theorem nd_tr (l : List S49) (i : Int) : Lime.nd (tr l) i = nd1 (rd_T49 l i) := by
  simp only [Lime.nd, tr, rd_T49, List.getD_eq_getElem?_getD, List.getElem?_map]
  cases l[i.toNat]? <;> rfl
theorem isN_tr (l : List S49) (i : Int) : Lime.isN (tr l) i = (decide (0 ≤ i) && decide (i < (l.length : Int))) := by rw [Lime.isN, tr_length]

/-- And back: rows that are read, in the print's words. -/
theorem C_of_row {α β : Type} {d : Kd α} {e : Lime.Kd β} {S : Nat → Prop} (f : β → α) {w : World} (hz : d.sz = e.sz) (hK : ∀ x cs, e.K S w x cs → d.K w (f x) cs) {A : Option Addr} {n c : Nat} {ys : List β} (h : Lime.Row e S w (.slice A n c) ys) : Kd.C d w A n (ys.map f) ∧ n ≤ c ∧ n = ys.length := by
  obtain ⟨A', c', e1, h1, h2⟩ := h.form
  injection e1 with e1 e2 e3
  subst e1 e2 e3
  refine ⟨⟨by simp, h2, fun h0 => ?_⟩, h1, rfl⟩
  obtain ⟨b, o, c', cs, e1, _, _, _, _⟩ := h.get 0 h0
  injection e1 with e1 _ e3
  subst e1 e3
  refine ⟨_, rfl, fun j p hj => ?_⟩
  rw [List.getElem?_map] at hj
  obtain ⟨y, hy, rfl⟩ := Option.map_eq_some_iff.1 hj
  obtain ⟨hjl, rfl⟩ := List.getElem?_eq_some_iff.1 hy
  obtain ⟨b', o', c', cs, e1, _, _, hk, hcc⟩ := h.get j hjl
  injection e1 with e1 _ e3
  injection e1 with e1
  injection e1 with e1 e4
  subst e1 e4 e3
  refine ⟨cs, by rw [hz]; exact e.len hk, hK _ _ hk, fun i u hi => ?_⟩
  have hadd : ∀ i, (⟨b, o, none⟩ : Addr).add i = ⟨b, o + i, none⟩ := fun i => by unfold Addr.add; split <;> simp_all
  rw [hadd, ← Nat.add_assoc, hz]
  exact hcc i u hi
theorem C_ints {S : Nat → Prop} {w : World} {A : Option Addr} {n c : Nat} {xs : List Int} (h : Lime.Row Lime.intK S w (.slice A n c) xs) : Kd.C (Kd.int .i64) w A n xs ∧ n ≤ c ∧ n = xs.length := by
  have := C_of_row (d := Kd.int .i64) id rfl (fun x cs h => h) h
  rwa [List.map_id] at this
def at2 (a : Lime.Attr) : S65 := ⟨a.name, a.value⟩
def nd2 (x : Lime.Nd) : S49 := ⟨x.kind, x.tag, x.parent, x.kids, x.host, x.root, x.attrs.map at2⟩
def rt (t : List Lime.Nd) : List S49 := t.map nd2
theorem rt_length (t : List Lime.Nd) : (rt t).length = t.length := by simp [rt]
theorem tr_rt (t : List Lime.Nd) : tr (rt t) = t := by
  have h1 : ∀ a : Lime.Attr, at1 (at2 a) = a := fun a => rfl
  have h2 : ∀ x : Lime.Nd, nd1 (nd2 x) = x := fun x => by simp [nd1, nd2, List.map_map, Function.comp_def, h1]
  simp [tr, rt, List.map_map, Function.comp_def, h2]
theorem C_tree {S : Nat → Prop} {w : World} {A : Option Addr} {n c : Nat} {t : List Lime.Nd} (h : Lime.Row Lime.nodeK S w (.slice A n c) t) : Kd.C k49 w A n (rt t) ∧ n ≤ c ∧ n = t.length :=
  C_of_row (d := k49) nd2 rfl (fun x cs h => by
    obtain ⟨vk, va, rfl, hk, ha⟩ := h
    obtain ⟨Ak, ck, rfl, _⟩ := hk.form
    obtain ⟨Aa, ca, rfl, _⟩ := ha.form
    have h1 := C_ints hk
    have h2 := C_of_row (d := k65) at2 rfl (fun y cs h => by rw [show cs = _ from h]; exact k65_mk w (at2 y)) ha
    have hl : (x.attrs.map at2).length = x.attrs.length := by simp
    have := k49_mk w (nd2 x) (A3 := Ak) (c3 := ck) h1.2.1 h1.1 (A6 := Aa) (c6 := ca) (by show (x.attrs.map at2).length ≤ ca; rw [hl]; exact h2.2.1) (by show Kd.C _ w Aa (x.attrs.map at2).length _; rw [hl]; exact h2.1)
    simp only [nd2, hl] at this
    exact this) h

/-- A row of numbers of the call's own, in the print's words. -/
theorem R_ints {S : Nat → Prop} {w : World} {base : Nat} {v : Value} {xs : List Int} (h : Lime.Own Lime.intK 3 S w v xs) (hS : ∀ k, S k → base ≤ k) : Kd.R (Kd.int .i64) 3 w base (fun _ => True) v xs := by
  obtain ⟨hb, inner, ho, he⟩ := h
  have ho1 := ho.1
  refine ⟨fun _ _ => trivial, inner, ⟨ho1, ?_⟩, ho1, fun j p hj => ?_⟩
  · rcases ho.2 with h2 | ⟨g, cap, cur, rfl, _, r⟩
    · exact .inl h2
    · exact .inr ⟨g, cap, cur, rfl, hS g (hb g (by simp [Value.ownBlock])), r⟩
  · obtain ⟨hjl, rfl⟩ := List.getElem?_eq_some_iff.1 hj
    obtain ⟨cs, hk, hc⟩ := he j hjl
    have hk' : cs = [.int .i64 xs[j]] := hk
    subst hk'
    have h1 : inner[j]? = some (.int .i64 xs[j]) := by
      have h2 : Lime.intK.sz = 1 := rfl
      have := hc 0 _ rfl
      rwa [h2, Nat.mul_one, Nat.add_zero] at this
    show (inner.drop (j * 1)).take 1 = [.int .i64 xs[j]]
    rw [Nat.mul_one]
    obtain ⟨h3, h4⟩ := List.getElem?_eq_some_iff.1 h1
    rw [List.drop_eq_getElem_cons h3, h4]
    rfl
end Go.Proofs.Ytclhmgchllenlaa.P
namespace Go.Proofs.Lime
def KidsOk (t : List Nd) : Prop := ∀ k (hk : k < t.length), t[k].kids.length ≤ 1000
end Go.Proofs.Lime
namespace Go.Proofs.Ytclhmgchllenlaa.P
open Go.RowKit Go.Proofs.YtclhmgchllenlaaW.PrintWords Go.Proofs.YtclhmgchllenlaaW.PrintLast Go.Proofs.YtclhmgchllenlaaW.PrintMore
set_option linter.unusedVariables false
set_option linter.unusedSimpArgs false

theorem kidsOk_small {t : List Lime.Nd} (h : Lime.smallT t = true) : Lime.KidsOk t := by
  intro k hk
  simp only [Lime.smallT, Bool.and_eq_true, decide_eq_true_eq, List.all_eq_true] at h
  have := (h.2 t[k] (List.getElem_mem hk)).1
  omega
def tree_Check.f (l0 : List S49) : Option Int := if Lime.smallT (tr l0) = true then some (if Lime.mayT (tr l0) = true then 0 else 1) else none
theorem tree_Check.calls (A0 : Option Addr) (c0 : Nat) (l0 : List S49) (r : Int) (w : World) (hr0 : Kd.C k49 w A0 l0.length l0) (hc0 : l0.length ≤ c0) (h : tree_Check.f l0 = some r) :
    Calls Try.prog 25 #[.slice A0 l0.length c0] w fun e w' => e = .returned (.int .i64 r) ∧ Below w.heap.size w w' := by
  unfold tree_Check.f at h
  split at h
  · rename_i hs
    obtain rfl := Option.some.inj h
    exact (Lime.check_c (row_tree hr0 hc0) (kidsOk_small hs)).mono fun e w' ⟨h1, h2⟩ => ⟨h1, h2.out⟩
  · cases h
def limelightref01_May.f (l0 : List S49) : Option Bool := some (Lime.mayT (tr l0))
theorem limelightref01_May.calls (A0 : Option Addr) (c0 : Nat) (l0 : List S49) (r : Bool) (w : World) (hr0 : Kd.C k49 w A0 l0.length l0) (hc0 : l0.length ≤ c0) (h : limelightref01_May.f l0 = some r) :
    Calls Try.prog 23 #[.slice A0 l0.length c0] w fun e w' => e = .returned (.bool r) ∧ Below w.heap.size w w' := by
  obtain rfl := Option.some.inj h
  exact (Lime.rmay_tree_c (row_tree hr0 hc0)).mono fun e w' ⟨h1, h2⟩ => ⟨h1, h2.out⟩
def limelightref01_Small.f (l0 : List S49) : Option Bool := some (Lime.smallT (tr l0))
theorem limelightref01_Small.calls (A0 : Option Addr) (c0 : Nat) (l0 : List S49) (r : Bool) (w : World) (hr0 : Kd.C k49 w A0 l0.length l0) (hc0 : l0.length ≤ c0) (h : limelightref01_Small.f l0 = some r) :
    Calls Try.prog 9 #[.slice A0 l0.length c0] w fun e w' => e = .returned (.bool r) ∧ Below w.heap.size w w' := by
  obtain rfl := Option.some.inj h
  exact (Lime.small_c (row_tree hr0 hc0)).mono fun e w' ⟨h1, h2⟩ => ⟨h1, h2.out⟩
def limelightref01_Is.f (l0 : List S49) (a1 : Int) : Option Bool := some (Lime.isN (tr l0) a1)
theorem limelightref01_Is.calls (A0 : Option Addr) (c0 : Nat) (l0 : List S49) (a1 : Int) (r : Bool) (w : World) (hr0 : Kd.C k49 w A0 l0.length l0) (hc0 : l0.length ≤ c0) (h : limelightref01_Is.f l0 a1 = some r) :
    Calls Try.prog 24 #[.slice A0 l0.length c0, .int .i64 a1] w fun e w' => e = .returned (.bool r) ∧ Below w.heap.size w w' := by
  obtain rfl := Option.some.inj h
  have := Lime.isR_c w A0 (tr l0) c0 a1
  rw [tr_length] at this
  exact this.mono fun e w' ⟨h1, h2⟩ => ⟨h1, h2.out⟩
def limelightref01_Ints.f (l0 : List Int) (l1 : List Int) : Option Bool := some (l0 == l1)
theorem limelightref01_Ints.calls (A0 : Option Addr) (c0 : Nat) (l0 : List Int) (A1 : Option Addr) (c1 : Nat) (l1 : List Int) (r : Bool) (w : World) (hr0 : Kd.C (Kd.int .i64) w A0 l0.length l0) (hc0 : l0.length ≤ c0) (hr1 : Kd.C (Kd.int .i64) w A1 l1.length l1) (hc1 : l1.length ≤ c1) (h : limelightref01_Ints.f l0 l1 = some r) :
    Calls Try.prog 27 #[.slice A0 l0.length c0, .slice A1 l1.length c1] w fun e w' => e = .returned (.bool r) ∧ Below w.heap.size w w' := by
  obtain rfl := Option.some.inj h
  exact (Lime.ints_c (ints_of_C hr0 hc0) (ints_of_C hr1 hc1)).mono fun e w' ⟨h1, h2⟩ => ⟨h1, h2.out⟩
end Go.Proofs.Ytclhmgchllenlaa.P
