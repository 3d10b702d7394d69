/- The law TreeStays of limelightlaw01 holds: whatever input it is given, it returns true, and the input reads as it did. No conditions. -/
import Derived.Test.YtclhmgchllenlaaRows
import Derived.Test.YtclhmgchllenlaaL01s
import Derived.Test.YtclhmgchllenlaaPx9
import Derived.Test.YtclhmgchllenlaaMA
import Derived.Test.YtclhmgchllenlaaPlcOpen
import Derived.WalkKit
import Derived.ProofKit
import Derived.OpenShut
import Derived.ShutString
import Derived.ChangeOld
import Derived.Carry
import Derived.SizedLaws
namespace Go.Proofs.Ytclhmgchllenlaa
open Go.ChangeShapes Go.WideShapes Go.ChangeAt Go.RowKit
set_option linter.unusedVariables false
set_option linter.unusedSimpArgs false
theorem treeStays_w {S : Nat → Prop} {W : World} {v : Value} {xs : List Lime.PlV} (hr : Lime.Row Lime.plK S W v xs) : Calls Try.prog 5 #[v] W fun e w' => e = .returned (.bool true) ∧ Lime.Stp W w' := by
  obtain ⟨A, c, rfl, _⟩ := hr.form
  obtain ⟨k, hk⟩ := P.TreeStays_ok (xs.map P.pl3)
  have hC := P.C_places hr
  have := P.limelightlaw01_TreeStays.calls k A c (xs.map P.pl3) true W (by rw [List.length_map]; exact hC.1) (by rw [List.length_map]; exact hC.2.1) hk
  rw [List.length_map] at this
  exact this.mono fun e w' ⟨h, hb⟩ => ⟨h, ⟨hb⟩⟩
namespace treeStays
set_option maxRecDepth 100000 in
theorem lifted (os : Os) (started : os.Started) (H : Type) (enc : TypeId × Value → H) :
    ReturnsInHanded {} Try.checked os 5 .any (Rows.treeStaysSpec.pre6 enc Try.prog Try.f5 Rows.treeStaysRow.domain false) (Rows.treeStaysSpec.post enc Try.prog Try.f5 false true false false) := by
  refine returnsInHanded_of_change_sized (C := Try.checked) Lime.own started (by kernel_rfl) Try.func5
    (ChangeSpec.witness6 (enc := enc) (C := Try.checked) false ⟨#[], #[.slice none 0 0], []⟩ 8 (by kernel_rfl) (by kernel_rfl) (by kernel_rfl) (by kernel_rfl)) ?_
  intro W base args ds gs before hval0 hW hcnd hsz0 _
  have hval : ∀ (j : Nat) t v, Try.f5.params[j]? = some t → args[j]? = some v → Value.okWide Try.prog W .any base t v := hval0
  have hW' := hW
  obtain ⟨p, q, hA0, hV, rfl, hfz, hnd⟩ := hW
  have hA : DataW.TrodAll enc Try.prog W 0 (fun _ => true) true Try.f5.params.toList args.toList ds p := hA0
  rw [Try.params5] at hA hval
  obtain ⟨v0, vs0, d0, ds0, p0, q0, hargs, rfl, rfl, h0, r0⟩ := trodAll_cons hA
  obtain ⟨rfl, rfl, rfl⟩ := trodAll_nil r0
  obtain rfl : args = #[v0] := by cases args; simp_all
  obtain ⟨rfl, rfl⟩ := trodVars_none hV
  have k0 := h0
  have lt0 := Lime.trod_lts k0
  obtain ⟨x0, l0, g0⟩ := Lime.open_list Lime.open_plc Try.underlying42 (by kernel_rfl) (by decide) (hval 0 42 v0 rfl rfl) h0
  clear hA0 hval0 hsz0
  refine (show Calls Try.prog 5 _ W (fun e w' => e = .returned (.bool true) ∧ Lime.Stp W w') from treeStays_w l0).mono fun e W' ⟨he, bel⟩ => ?_
  subst he
  exact ⟨_, rfl, _, _, _, [], _, [], hW', trodAll_mk1 (shut_bool Try.underlying4 _), (trodAll_cons_mk (Below.trod Lime.laidOut (by kernel_rfl) (of_decide_eq_true (by kernel_rfl)) k0 bel.out lt0) trodAll_mk0), rfl, bel.out.frame _, fun h => by cases h⟩
theorem over : Rows.treeStaysRow.holds Try.pinned (OpenSpec.ofChange Rows.treeStaysSpec) :=
  OpenClaim.holds_of_wide 5 Try.f5 rfl rfl rfl rfl rfl rfl rfl ⟨rfl, rfl, rfl, rfl, rfl⟩ rfl rfl rfl rfl rfl (by kernel_rfl) Try.func5 (by kernel_rfl)
    (of_decide_eq_true (by kernel_rfl)) (by unfold Func.isWrapper; first | (rw [if_pos (by decide +kernel)]; kernel_rfl) | (rw [if_neg (by decide +kernel)]; exact ⟨rfl, rfl⟩))
    (fun os started H enc _ => lifted os started H enc)
end treeStays
set_option maxRecDepth 100000 in
theorem treeStays_holds : Rows.TreeStaysSaid := treeStays.over
#print axioms treeStays_holds
end Go.Proofs.Ytclhmgchllenlaa
