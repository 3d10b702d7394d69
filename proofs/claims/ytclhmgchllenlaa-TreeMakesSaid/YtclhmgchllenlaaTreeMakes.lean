/- The law TreeMakes of limelightlaw01 holds: whatever input it is given, it returns true, and the input reads as it did. No conditions. -/
import Derived.Test.YtclhmgchllenlaaRows
import Derived.Test.YtclhmgchllenlaaL01m
import Derived.Test.YtclhmgchllenlaaPx5
import Derived.Test.YtclhmgchllenlaaMA
import Derived.WalkKit
import Derived.ProofKit
import Derived.OpenShut
import Derived.ShutString
import Derived.ChangeOld
import Derived.Carry
import Derived.SizedLaws
namespace Go.Proofs.Ytclhmgchllenlaa
open Go.ChangeShapes Go.WideShapes Go.ChangeAt Go.RowKit
set_option linter.unusedVariables false
set_option linter.unusedSimpArgs false
theorem treeMakes_w {S : Nat → Prop} {W : World} {v : Value} {t : List Lime.Nd} (hr : Lime.Row Lime.nodeK S W v t) (a : Int) (b : Int) : Calls Try.prog 3 #[v, .int .i64 a, .int .i64 b] W fun e w' => e = .returned (.bool true) ∧ Lime.Stp W w' := by
  obtain ⟨A, c, rfl, _⟩ := hr.form
  obtain ⟨k, hk⟩ := P.TreeMakes_ok (P.rt t) a b
  have hC := P.C_tree hr
  have := P.limelightlaw01_TreeMakes.calls k A c (P.rt t) a b true W (by rw [P.rt_length]; exact hC.1) (by rw [P.rt_length]; exact hC.2.1) hk
  rw [P.rt_length] at this
  exact this.mono fun e w' ⟨h, hb⟩ => ⟨h, ⟨hb⟩⟩
namespace treeMakes
set_option maxRecDepth 100000 in
theorem lifted (os : Os) (started : os.Started) (H : Type) (enc : TypeId × Value → H) :
    ReturnsInHanded {} Try.checked os 3 .any (Rows.treeMakesSpec.pre6 enc Try.prog Try.f3 Rows.treeMakesRow.domain false) (Rows.treeMakesSpec.post enc Try.prog Try.f3 false true false false) := by
  refine returnsInHanded_of_change_sized (C := Try.checked) Lime.own started (by kernel_rfl) Try.func3
    (ChangeSpec.witness6 (enc := enc) (C := Try.checked) false ⟨#[], #[.slice none 0 0, .int .i64 0, .int .i64 0], []⟩ 8 (by kernel_rfl) (by kernel_rfl) (by kernel_rfl) (by kernel_rfl)) ?_
  intro W base args ds gs before hval0 hW hcnd hsz0 _
  have hval : ∀ (j : Nat) t v, Try.f3.params[j]? = some t → args[j]? = some v → Value.okWide Try.prog W .any base t v := hval0
  have hW' := hW
  obtain ⟨p, q, hA0, hV, rfl, hfz, hnd⟩ := hW
  have hA : DataW.TrodAll enc Try.prog W 0 (fun _ => true) true Try.f3.params.toList args.toList ds p := hA0
  rw [Try.params3] at hA hval
  obtain ⟨v0, vs0, d0, ds0, p0, q0, hargs, rfl, rfl, h0, r0⟩ := trodAll_cons hA
  obtain ⟨v1, vs1, d1, ds1, p1, q1, rfl, rfl, rfl, h1, r1⟩ := trodAll_cons r0
  obtain ⟨v2, vs2, d2, ds2, p2, q2, rfl, rfl, rfl, h2, r2⟩ := trodAll_cons r1
  obtain ⟨rfl, rfl, rfl⟩ := trodAll_nil r2
  obtain rfl : args = #[v0, v1, v2] := by cases args; simp_all
  obtain ⟨rfl, rfl⟩ := trodVars_none hV
  have k0 := h0
  have lt0 := Lime.trod_lts k0
  obtain ⟨x0, l0, g0⟩ := Lime.open_list Lime.open_knode Try.underlying23 (by kernel_rfl) (by decide) (hval 0 23 v0 rfl rfl) h0
  have k1 := h1
  have lt1 := Lime.trod_lts k1
  obtain ⟨x1, rfl, rfl, rfl, g1⟩ := open_int Try.underlying3 (hval 1 3 v1 rfl rfl) h1
  have k2 := h2
  have lt2 := Lime.trod_lts k2
  obtain ⟨x2, rfl, rfl, rfl, g2⟩ := open_int Try.underlying3 (hval 2 3 v2 rfl rfl) h2
  clear hA0 hval0 hsz0
  refine (show Calls Try.prog 3 _ W (fun e w' => e = .returned (.bool true) ∧ Lime.Stp W w') from treeMakes_w l0 x1 x2).mono fun e W' ⟨he, bel⟩ => ?_
  subst he
  exact ⟨_, rfl, _, _, _, [], _, [], hW', trodAll_mk1 (shut_bool Try.underlying4 _), (trodAll_cons_mk (Below.trod Lime.laidOut (by kernel_rfl) (of_decide_eq_true (by kernel_rfl)) k0 bel.out lt0) (trodAll_cons_mk (Below.trod Lime.laidOut (by kernel_rfl) (of_decide_eq_true (by kernel_rfl)) k1 bel.out lt1) (trodAll_cons_mk (Below.trod Lime.laidOut (by kernel_rfl) (of_decide_eq_true (by kernel_rfl)) k2 bel.out lt2) trodAll_mk0))), rfl, bel.out.frame _, fun h => by cases h⟩
theorem over : Rows.treeMakesRow.holds Try.pinned (OpenSpec.ofChange Rows.treeMakesSpec) :=
  OpenClaim.holds_of_wide 3 Try.f3 rfl rfl rfl rfl rfl rfl rfl ⟨rfl, rfl, rfl, rfl, rfl⟩ rfl rfl rfl rfl rfl (by kernel_rfl) Try.func3 (by kernel_rfl)
    (of_decide_eq_true (by kernel_rfl)) (by unfold Func.isWrapper; first | (rw [if_pos (by decide +kernel)]; kernel_rfl) | (rw [if_neg (by decide +kernel)]; exact ⟨rfl, rfl⟩))
    (fun os started H enc _ => lifted os started H enc)
end treeMakes
set_option maxRecDepth 100000 in
theorem treeMakes_holds : Rows.TreeMakesSaid := treeMakes.over
#print axioms treeMakes_holds
end Go.Proofs.Ytclhmgchllenlaa
