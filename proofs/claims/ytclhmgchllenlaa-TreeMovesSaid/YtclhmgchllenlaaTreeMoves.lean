/- The law TreeMoves of limelightlaw01 holds: whatever input it is given, it returns true, and the input reads as it did. No conditions. -/
import Derived.Test.YtclhmgchllenlaaRows
import Derived.Test.YtclhmgchllenlaaL01v
import Derived.Test.YtclhmgchllenlaaPx13
import Derived.Test.YtclhmgchllenlaaMA
import Derived.Test.YtclhmgchllenlaaPlcOpen
import Derived.WalkKit
import Derived.ProofKit
import Derived.OpenShut
import Derived.ShutString
import Derived.ChangeOld
import Derived.Carry
import Derived.SizedLaws
namespace Go.Proofs.Ytclhmgchllenlaa
open Go.ChangeShapes Go.WideShapes Go.ChangeAt Go.RowKit
set_option linter.unusedVariables false
set_option linter.unusedSimpArgs false
theorem treeMoves_w {S : Nat → Prop} {W : World} {v : Value} {t : List Lime.Nd} (hr : Lime.Row Lime.nodeK S W v t) (a : Int) (b : Int) (d : Int) : Calls Try.prog 4 #[v, .agg #[.int .i64 a, .int .i64 b, .int .i64 d]] W fun e w' => e = .returned (.bool true) ∧ Lime.Stp W w' := by
  obtain ⟨A, c, rfl, _⟩ := hr.form
  obtain ⟨k, hk⟩ := P.TreeMoves_ok (P.rt t) a b d
  have hC := P.C_tree hr
  have := P.limelightlaw01_TreeMoves.calls k A c (P.rt t) a b d true W (by rw [P.rt_length]; exact hC.1) (by rw [P.rt_length]; exact hC.2.1) hk
  rw [P.rt_length] at this
  exact this.mono fun e w' ⟨h, hb⟩ => ⟨h, ⟨hb⟩⟩
namespace treeMoves
set_option maxRecDepth 100000 in
theorem lifted (os : Os) (started : os.Started) (H : Type) (enc : TypeId × Value → H) :
    ReturnsInHanded {} Try.checked os 4 .any (Rows.treeMovesSpec.pre6 enc Try.prog Try.f4 Rows.treeMovesRow.domain false) (Rows.treeMovesSpec.post enc Try.prog Try.f4 false true false false) := by
  refine returnsInHanded_of_change_sized (C := Try.checked) Lime.own started (by kernel_rfl) Try.func4
    (ChangeSpec.witness6 (enc := enc) (C := Try.checked) false ⟨#[], #[.slice none 0 0, .agg #[.int .i64 0, .int .i64 0, .int .i64 0]], []⟩ 8 (by kernel_rfl) (by kernel_rfl) (by kernel_rfl) (by kernel_rfl)) ?_
  intro W base args ds gs before hval0 hW hcnd hsz0 _
  have hval : ∀ (j : Nat) t v, Try.f4.params[j]? = some t → args[j]? = some v → Value.okWide Try.prog W .any base t v := hval0
  have hW' := hW
  obtain ⟨p, q, hA0, hV, rfl, hfz, hnd⟩ := hW
  have hA : DataW.TrodAll enc Try.prog W 0 (fun _ => true) true Try.f4.params.toList args.toList ds p := hA0
  rw [Try.params4] at hA hval
  obtain ⟨v0, vs0, d0, ds0, p0, q0, hargs, rfl, rfl, h0, r0⟩ := trodAll_cons hA
  obtain ⟨v1, vs1, d1, ds1, p1, q1, rfl, rfl, rfl, h1, r1⟩ := trodAll_cons r0
  obtain ⟨rfl, rfl, rfl⟩ := trodAll_nil r1
  obtain rfl : args = #[v0, v1] := by cases args; simp_all
  obtain ⟨rfl, rfl⟩ := trodVars_none hV
  have k0 := h0
  have lt0 := Lime.trod_lts k0
  obtain ⟨x0, l0, g0⟩ := Lime.open_list Lime.open_knode Try.underlying23 (by kernel_rfl) (by decide) (hval 0 23 v0 rfl rfl) h0
  have k1 := h1
  have lt1 := Lime.trod_lts k1
  obtain ⟨x1, c1, rfl, l1, g1⟩ := Lime.open_agg Lime.open_plc Try.underlying33 (hval 1 33 v1 rfl rfl) h1
  clear hA0 hval0 hsz0
  refine (show Calls Try.prog 4 _ W (fun e w' => e = .returned (.bool true) ∧ Lime.Stp W w') from (by obtain ⟨c1⟩ := c1; obtain rfl : c1 = x1.cells := l1; exact treeMoves_w l0 x1.parent x1.child x1.before)).mono fun e W' ⟨he, bel⟩ => ?_
  subst he
  exact ⟨_, rfl, _, _, _, [], _, [], hW', trodAll_mk1 (shut_bool Try.underlying4 _), (trodAll_cons_mk (Below.trod Lime.laidOut (by kernel_rfl) (of_decide_eq_true (by kernel_rfl)) k0 bel.out lt0) (trodAll_cons_mk (Below.trod Lime.laidOut (by kernel_rfl) (of_decide_eq_true (by kernel_rfl)) k1 bel.out lt1) trodAll_mk0)), rfl, bel.out.frame _, fun h => by cases h⟩
theorem over : Rows.treeMovesRow.holds Try.pinned (OpenSpec.ofChange Rows.treeMovesSpec) :=
  OpenClaim.holds_of_wide 4 Try.f4 rfl rfl rfl rfl rfl rfl rfl ⟨rfl, rfl, rfl, rfl, rfl⟩ rfl rfl rfl rfl rfl (by kernel_rfl) Try.func4 (by kernel_rfl)
    (of_decide_eq_true (by kernel_rfl)) (by unfold Func.isWrapper; first | (rw [if_pos (by decide +kernel)]; kernel_rfl) | (rw [if_neg (by decide +kernel)]; exact ⟨rfl, rfl⟩))
    (fun os started H enc _ => lifted os started H enc)
end treeMoves
set_option maxRecDepth 100000 in
theorem treeMoves_holds : Rows.TreeMovesSaid := treeMoves.over
#print axioms treeMoves_holds
end Go.Proofs.Ytclhmgchllenlaa
