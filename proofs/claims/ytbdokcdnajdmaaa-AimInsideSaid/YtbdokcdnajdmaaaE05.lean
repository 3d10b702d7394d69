/- Plain law: words for trees with slots. No conditions. -/
import Derived.Test.YtbdokcdnajdmaaaEI
import Derived.Test.YtbdokcdnajdmaaaME
import Derived.Test.YtbdokcdnajdmaaaMP
import Derived.Test.YtbdokcdnajdmaaaPx2
namespace Go.Proofs.Ytbdokcdnajdmaaa.P
open Go.RowKit Go.Proofs.YtbdokcdnajdmaaaW.PrintWords Go.Proofs.YtbdokcdnajdmaaaW.PrintLast Go.Proofs.YtbdokcdnajdmaaaW.PrintMore
open Go.Proofs.Lime (May listT topT upsP parN isN nd mayT dep upsT upN hostT slotB slotsT ofT asgT attrT nameT overT)
set_option linter.unusedVariables false
set_option linter.unusedSimpArgs false
set_option linter.unusedSectionVars false

theorem few_f (l : List S53) : limelightref01_Few.f l = some (Lime.smallT (tr l) && decide ((l.length : Int) ≤ 30)) := by
  simp only [limelightref01_Few.f, limelightref01_Small.f, Option.bind_some]
  cases Lime.smallT (tr l) <;> simp
theorem few_small {l : List S53} (h : (Lime.smallT (tr l) && decide ((l.length : Int) ≤ 30)) = true) : Lime.smallT (tr l) = true := by
  rw [Bool.and_eq_true] at h; exact h.1
theorem rd_attrs (l : List S53) (i : Int) : (rd_T53 l i).f6.map at1 = (nd (tr l) i).attrs := by rw [nd_tr]; rfl
theorem rd_attr_at {a : List S73} {i : Nat} (h : i < a.length) : rd_T73 a (i : Int) = a[i] := by
  simp [rd_T73, h]
theorem small_attrs {l : List S53} (hs : Lime.smallT (tr l) = true) {n : Int} (hn : isN (tr l) n = true) : (rd_T53 l n).f6.length ≤ 20 := by
  obtain ⟨k, rfl, hk⟩ := Lime.isN_nat hn
  simp only [Lime.smallT, Bool.and_eq_true, decide_eq_true_eq, List.all_eq_true] at hs
  have h1 := (hs.2 _ (List.getElem_mem hk)).2
  have h2 := rd_attrs l (k : Int)
  have h3 := congrArg List.length h2
  rw [List.length_map, Lime.nd_nat hk] at h3
  omega
theorem attrOf_cons (a : Lime.Attr) (r : List Lime.Attr) (name : Int) : Lime.attrOf (a :: r) name = if a.name = name then some a.value else Lime.attrOf r name := by
  unfold Lime.attrOf
  rw [List.find?_cons]
  by_cases h : a.name = name
  · simp [h]
  · rw [show (a.name == name) = false by simpa using h, if_neg h]
theorem host_kind {t : List Lime.Nd} (M : May t) {n : Int} (hn : isN t n = true) : hostT t n ≠ -1 ↔ (nd t (topT t n)).kind = 3 := by
  have ht := M.topT_isN hn
  unfold hostT
  constructor
  · intro h
    exact Classical.byContradiction fun h3 => h (M.shn ht h3).1
  · intro h3
    exact M.ne1 (M.sh3 ht h3).2.2.1
section
variable {l : List S53} (hs : Lime.smallT (tr l) = true) (M : May (tr l))
include hs M
theorem slots_len (r : Int) (hr : isN (tr l) r = true) : (slotsT (tr l) r).length ≤ 64 := by
  have h1 := List.length_filter_le (slotB (tr l)) (listT (tr l) r)
  have h2 := M.listT_le hr
  have h3 := M.len2
  unfold slotsT; omega
theorem kids_len {n : Int} (hn : isN (tr l) n = true) : (nd (tr l) n).kids.length ≤ 64 := by
  have h1 := Lime.nodup_isN (M.kids_nodup hn) (fun x hx => (M.kid hn hx).1)
  have := M.len2; omega
theorem ofR_may {n : Int} (hn : isN (tr l) n = true) : Lime.ofR (tr l) n = ofT (tr l) n := if_pos ⟨Lime.May.iff.2 M, hn⟩
theorem asgR_may {n : Int} (hn : isN (tr l) n = true) : Lime.asgR (tr l) n = asgT (tr l) n := if_pos ⟨Lime.May.iff.2 M, hn⟩
theorem allR_may {n : Int} (hn : isN (tr l) n = true) : Lime.allR (tr l) n = if (nd (tr l) n).kind = 3 then slotsT (tr l) n else [] := by
  unfold Lime.allR
  rw [Lime.May.iff.2 M, hn]
  simp
theorem asg_len {s : Int} (hn : isN (tr l) s = true) : (asgT (tr l) s).length ≤ 64 := by
  have h1 := Lime.nodup_isN (M.asg_nodup hn) (fun x hx => (M.asg_kid hn hx).2.2.2)
  have := M.len2; omega
end
end Go.Proofs.Ytbdokcdnajdmaaa.P
