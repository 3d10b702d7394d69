/- The law WatchDrops of limelightlaw18 holds: whatever input it is given, it returns true, and the input reads as it did. No conditions. -/
import Derived.Test.YtpklhnggbhkmiaaRows
import Derived.Test.YtpklhnggbhkmiaaWld
import Derived.Test.YtpklhnggbhkmiaaWatOpen
import Derived.WalkKit
import Derived.ProofKit
import Derived.OpenShut
import Derived.ShutString
import Derived.ChangeOld
import Derived.Carry
import Derived.SizedLaws
namespace Go.Proofs.Ytpklhnggbhkmiaa
open Go.ChangeShapes Go.WideShapes Go.ChangeAt Go.RowKit
set_option linter.unusedVariables false
set_option linter.unusedSimpArgs false
theorem watchDrops_w {S : Nat → Prop} {W : World} {v : Value} {G : List (List Int)} (hr : Lime.Row Lime.intsK S W v G) (a : Int) (x : Bool) (b : Int) : Calls Try.prog 4 #[.agg #[v, .int .i64 a, .bool x], .int .i64 b] W fun e w' => e = .returned (.bool true) ∧ Lime.Stp W w' := by
  exact Lime.drops_w hr a x b
namespace watchDrops
set_option maxRecDepth 100000 in
theorem lifted (os : Os) (started : os.Started) (H : Type) (enc : TypeId × Value → H) :
    ReturnsInHanded {} Try.checked os 4 .any (Rows.watchDropsSpec.pre6 enc Try.prog Try.f4 Rows.watchDropsRow.domain false) (Rows.watchDropsSpec.post enc Try.prog Try.f4 false true false false) := by
  refine returnsInHanded_of_change_sized (C := Try.checked) Lime.own started (by kernel_rfl) Try.func4
    (ChangeSpec.witness6 (enc := enc) (C := Try.checked) false ⟨#[], #[.agg #[.slice none 0 0, .int .i64 0, .bool false], .int .i64 0], []⟩ 8 (by kernel_rfl) (by kernel_rfl) (by kernel_rfl) (by kernel_rfl)) ?_
  intro W base args ds gs before hval0 hW hcnd hsz0 _
  have hval : ∀ (j : Nat) t v, Try.f4.params[j]? = some t → args[j]? = some v → Value.okWide Try.prog W .any base t v := hval0
  have hW' := hW
  obtain ⟨p, q, hA0, hV, rfl, hfz, hnd⟩ := hW
  have hA : DataW.TrodAll enc Try.prog W 0 (fun _ => true) true Try.f4.params.toList args.toList ds p := hA0
  rw [Try.params4] at hA hval
  obtain ⟨v0, vs0, d0, ds0, p0, q0, hargs, rfl, rfl, h0, r0⟩ := trodAll_cons hA
  obtain ⟨v1, vs1, d1, ds1, p1, q1, rfl, rfl, rfl, h1, r1⟩ := trodAll_cons r0
  obtain ⟨rfl, rfl, rfl⟩ := trodAll_nil r1
  obtain rfl : args = #[v0, v1] := by cases args; simp_all
  obtain ⟨rfl, rfl⟩ := trodVars_none hV
  have k0 := h0
  have lt0 := Lime.trod_lts k0
  obtain ⟨x0, c0, rfl, l0, g0⟩ := Lime.open_agg Lime.open_wt Try.underlying33 (hval 0 33 v0 rfl rfl) h0
  have k1 := h1
  have lt1 := Lime.trod_lts k1
  obtain ⟨x1, rfl, rfl, rfl, g1⟩ := open_int Try.underlying3 (hval 1 3 v1 rfl rfl) h1
  clear hA0 hval0 hsz0
  refine (show Calls Try.prog 4 _ W (fun e w' => e = .returned (.bool true) ∧ Lime.Stp W w') from (by obtain ⟨c0⟩ := c0; obtain ⟨v, hv, hr⟩ := l0; obtain rfl : c0 = [v, .int .i64 x0.a, .bool x0.x] := hv; exact watchDrops_w hr x0.a x0.x x1)).mono fun e W' ⟨he, bel⟩ => ?_
  subst he
  exact ⟨_, rfl, _, _, _, [], _, [], hW', trodAll_mk1 (shut_bool Try.underlying4 _), (trodAll_cons_mk (Below.trod Lime.laidOut (by kernel_rfl) (of_decide_eq_true (by kernel_rfl)) k0 bel.out lt0) (trodAll_cons_mk (Below.trod Lime.laidOut (by kernel_rfl) (of_decide_eq_true (by kernel_rfl)) k1 bel.out lt1) trodAll_mk0)), rfl, bel.out.frame _, fun h => by cases h⟩
theorem over : Rows.watchDropsRow.holds Try.pinned (OpenSpec.ofChange Rows.watchDropsSpec) :=
  OpenClaim.holds_of_wide 4 Try.f4 rfl rfl rfl rfl rfl rfl rfl ⟨rfl, rfl, rfl, rfl, rfl⟩ rfl rfl rfl rfl rfl (by kernel_rfl) Try.func4 (by kernel_rfl)
    (of_decide_eq_true (by kernel_rfl)) (by unfold Func.isWrapper; first | (rw [if_pos (by decide +kernel)]; kernel_rfl) | (rw [if_neg (by decide +kernel)]; exact ⟨rfl, rfl⟩))
    (fun os started H enc _ => lifted os started H enc)
end watchDrops
set_option maxRecDepth 100000 in
theorem watchDrops_holds : Rows.WatchDropsSaid := watchDrops.over
#print axioms watchDrops_holds
end Go.Proofs.Ytpklhnggbhkmiaa
