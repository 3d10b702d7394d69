/- The law FireAll of limelightlaw09 holds: whatever tree, event and listeners it is given, it returns true, and the input reads as it did. No conditions. -/
import Derived.Test.YtaggmjnpocndkaaGreatRows
import Derived.Test.YtaggmjnpocndkaaGreatFll
import Derived.Test.YtaggmjnpocndkaaGreatMA
import Derived.Test.YtaggmjnpocndkaaGreatEvtOpen
import Derived.Test.YtaggmjnpocndkaaGreatHearOpen
import Derived.WalkKit
import Derived.ProofKit
import Derived.OpenShut
import Derived.ShutString
import Derived.ChangeOld
import Derived.Carry
import Derived.SizedLaws
namespace Go.Proofs.YtaggmjnpocndkaaGreat
open Go.ChangeShapes Go.WideShapes Go.ChangeAt Go.RowKit
set_option linter.unusedVariables false
set_option linter.unusedSimpArgs false
namespace fireAll
set_option maxRecDepth 100000 in
theorem lifted (os : Os) (started : os.Started) (H : Type) (enc : TypeId × Value → H) :
    ReturnsInHanded {} Tryz.checked os 3 .any (Rows.fireAllSpec.pre6 enc Tryz.prog Tryz.f3 Rows.fireAllRow.domain false) (Rows.fireAllSpec.post enc Tryz.prog Tryz.f3 false true false false) := by
  refine returnsInHanded_of_change_sized (C := Tryz.checked) Lime.own started (by kernel_rfl) Tryz.func3
    (ChangeSpec.witness6 (enc := enc) (C := Tryz.checked) false ⟨#[], #[.slice none 0 0, .agg #[.int .i64 0, .int .i64 0, .int .i64 0, .bool false, .bool false, .bool false], .slice none 0 0], []⟩ 8 (by kernel_rfl) (by kernel_rfl) (by kernel_rfl) (by kernel_rfl)) ?_
  intro W base args ds gs before hval0 hW hcnd hsz0 _
  have hval : ∀ (j : Nat) t v, Tryz.f3.params[j]? = some t → args[j]? = some v → Value.okWide Tryz.prog W .any base t v := hval0
  have hW' := hW
  obtain ⟨p, q, hA0, hV, rfl, hfz, hnd⟩ := hW
  have hA : DataW.TrodAll enc Tryz.prog W 0 (fun _ => true) true Tryz.f3.params.toList args.toList ds p := hA0
  rw [Tryz.params3] at hA hval
  obtain ⟨v0, vs0, d0, ds0, p0, q0, hargs, rfl, rfl, h0, r0⟩ := trodAll_cons hA
  obtain ⟨v1, vs1, d1, ds1, p1, q1, rfl, rfl, rfl, h1, r1⟩ := trodAll_cons r0
  obtain ⟨v2, vs2, d2, ds2, p2, q2, rfl, rfl, rfl, h2, r2⟩ := trodAll_cons r1
  obtain ⟨rfl, rfl, rfl⟩ := trodAll_nil r2
  obtain rfl : args = #[v0, v1, v2] := by cases args; simp_all
  obtain ⟨rfl, rfl⟩ := trodVars_none hV
  have k0 := h0
  have lt0 := Lime.trod_lts k0
  obtain ⟨x0, l0, g0⟩ := Lime.open_list Lime.open_knode Tryz.underlying23 (by kernel_rfl) (by decide) (hval 0 23 v0 rfl rfl) h0
  have k1 := h1
  have lt1 := Lime.trod_lts k1
  obtain ⟨x1, c1, rfl, l1, g1⟩ := Lime.open_agg Lime.open_evv Tryz.underlying25 (hval 1 25 v1 rfl rfl) h1
  have k2 := h2
  have lt2 := Lime.trod_lts k2
  obtain ⟨x2, l2, g2⟩ := Lime.open_list Lime.open_hear Tryz.underlying26 (by kernel_rfl) (by decide) (hval 2 26 v2 rfl rfl) h2
  clear hA0 hval0 hsz0
  refine (show Calls Tryz.prog 3 _ W (fun e w' => e = .returned (.bool true) ∧ Lime.Stp W w') from (by obtain ⟨c1⟩ := c1; obtain rfl : c1 = x1.cells := l1; exact Lime.fireall_w l0 l2 x1.type x1.target x1.related x1.bubbles x1.cancel x1.composed)).mono fun e W' ⟨he, bel⟩ => ?_
  subst he
  exact ⟨_, rfl, _, _, _, [], _, [], hW', trodAll_mk1 (shut_bool Tryz.underlying4 _), (trodAll_cons_mk (Below.trod Lime.laidOut (by kernel_rfl) (of_decide_eq_true (by kernel_rfl)) k0 bel.out lt0) (trodAll_cons_mk (Below.trod Lime.laidOut (by kernel_rfl) (of_decide_eq_true (by kernel_rfl)) k1 bel.out lt1) (trodAll_cons_mk (Below.trod Lime.laidOut (by kernel_rfl) (of_decide_eq_true (by kernel_rfl)) k2 bel.out lt2) trodAll_mk0))), rfl, bel.out.frame _, fun h => by cases h⟩
theorem over : Rows.fireAllRow.holds Tryz.pinned (OpenSpec.ofChange Rows.fireAllSpec) :=
  OpenClaim.holds_of_wide 3 Tryz.f3 rfl rfl rfl rfl rfl rfl rfl ⟨rfl, rfl, rfl, rfl, rfl⟩ rfl rfl rfl rfl rfl (by kernel_rfl) Tryz.func3 (by kernel_rfl)
    (of_decide_eq_true (by kernel_rfl)) (by unfold Func.isWrapper; first | (rw [if_pos (by decide +kernel)]; kernel_rfl) | (rw [if_neg (by decide +kernel)]; exact ⟨rfl, rfl⟩))
    (fun os started H enc _ => lifted os started H enc)
end fireAll
set_option maxRecDepth 100000 in
theorem fireAll_holds : Rows.FireAllSaid := fireAll.over
#print axioms fireAll_holds
end Go.Proofs.YtaggmjnpocndkaaGreat
