-- printed by wip/tools/pp.sh (a patched copy of the print's program), for this claim.
import Derived.Test.YtiekphenmbigeaaPx0
import Derived.Test.YtiekphenmbigeaaPx1
import Derived.Test.YtiekphenmbigeaaPx2
import Derived.Test.YtiekphenmbigeaaME
namespace Go.Proofs.Ytiekphenmbigeaa.P
open Go.RowKit Go.Proofs.YtiekphenmbigeaaW.PrintWords Go.Proofs.YtiekphenmbigeaaW.PrintLast Go.Proofs.YtiekphenmbigeaaW.PrintMore
attribute [local go_sem] max2_int min2_int max_two min_two max_three min_three max_four min_four   -- for this text's walks alone
set_option linter.unusedVariables false
set_option linter.unusedSimpArgs false

/-! ### limelightlaw03_OrderTells: function 3 -/
def limelightlaw03_OrderTells.f (k : Nat) (l0 : List (S38)) (a1 : Int) (a2 : Int) : Option (Bool) := (limelightref01_Small.f l0).bind fun t192 => (if t192 = true then ((limelightref03_Both.f l0 a1 a2).bind fun t194 => (if t194 = true then ((limelightref03_Up.f k l0 a2).bind fun t208 => ((order_List.f l0 a1).bind fun t211 => ((limelightref03_List.f k l0 a1).bind fun t214 => ((limelightref01_Ints.f t211 t214).bind fun t217 => (if t217 = true then ((order_Up.f l0 a2).bind fun t218 => ((limelightref01_Ints.f t218 t208).bind fun t221 => (if t221 = true then ((order_Top.f l0 a1).bind fun t222 => ((limelightref03_Top.f k l0 a1).bind fun t223 => (if t222 = t223 then ((order_Above.f k l0 a1 a2).bind fun t224 => ((limelightref03_In.f k t208 a1).bind fun t225 => (if (t224 == t225) = true then ((order_Before.f l0 a1 a2).bind fun t226 => ((limelightref03_Before.f k l0 a1 a2).bind fun t227 => (if (t226 == t227) = true then ((order_Common.f k l0 a1 a2).bind fun t228 => ((limelightref03_Common.f k l0 a1 a2).bind fun t229 => (if t228 = t229 then ((limelightlaw03_live.f k).bind fun t230 => (some t230)) else (none)))) else (none)))) else (none)))) else (none)))) else (none)))) else (none)))))) else ((order_Above.f k l0 a1 a2).bind fun t195 => (if t195 = true then (none) else ((order_Before.f l0 a1 a2).bind fun t196 => (if t196 = true then (none) else ((order_Common.f k l0 a1 a2).bind fun t197 => (if t197 = (-1) then ((limelightref03_Both.f l0 a1 a1).bind fun t198 => (if t198 = true then ((limelightlaw03_live.f k).bind fun t199 => (some t199)) else ((order_List.f l0 a1).bind fun t200 => (if (t200.length : Int) = 0 then ((order_Up.f l0 a1).bind fun t203 => (if (t203.length : Int) = 0 then ((order_Top.f l0 a1).bind fun t206 => (if t206 = (-1) then ((limelightlaw03_live.f k).bind fun t207 => (some t207)) else (none))) else (none))) else (none))))) else (none))))))))) else ((limelightlaw03_live.f k).bind fun t193 => (some t193)))
theorem limelightlaw03_OrderTells.mono : ∀ a0 a1 a2 k, LeO (limelightlaw03_OrderTells.f k a0 a1 a2) (limelightlaw03_OrderTells.f (k + 1) a0 a1 a2) := by
  intro a0 a1 a2 k
  unfold limelightlaw03_OrderTells.f
  repeat' first
      | (with_reducible exact limelightlaw03_live.mono _)
      | (with_reducible exact limelightref03_Before.mono _ _ _ _)
      | (with_reducible exact limelightref03_Common.mono _ _ _ _)
      | (with_reducible exact limelightref03_In.mono _ _ _)
      | (with_reducible exact limelightref03_List.mono _ _ _)
      | (with_reducible exact limelightref03_Top.mono _ _ _)
      | (with_reducible exact limelightref03_Up.mono _ _ _)
      | (with_reducible exact order_Above.mono _ _ _ _)
      | (with_reducible exact order_Common.mono _ _ _ _)
      | (with_reducible exact LeO.refl _)
      | (with_reducible exact LeO.none _)
      | (with_reducible refine LeO.ite ?_ ?_)
      | (with_reducible refine LeO.bind ?_ (fun _ => ?_))
      | exact limelightlaw03_live.mono _
      | exact limelightref03_Before.mono _ _ _ _
      | exact limelightref03_Common.mono _ _ _ _
      | exact limelightref03_In.mono _ _ _
      | exact limelightref03_List.mono _ _ _
      | exact limelightref03_Top.mono _ _ _
      | exact limelightref03_Up.mono _ _ _
      | exact order_Above.mono _ _ _ _
      | exact order_Common.mono _ _ _ _
      | exact LeO.none _
      | refine LeO.ite ?_ ?_
      | refine LeO.bind ?_ (fun _ => ?_)
set_option maxHeartbeats 8000000 in
set_option maxRecDepth 100000 in
theorem limelightlaw03_OrderTells.calls (k : Nat) (A0 : Option Addr) (c0 : Nat) (l0 : List (S38)) (a1 : Int) (a2 : Int) (r : Bool) (w : World) (hr0 : Kd.C k38 w A0 l0.length l0) (hc0 : l0.length ≤ c0) (h : limelightlaw03_OrderTells.f k l0 a1 a2 = some r) :
    Calls Try.prog 3 #[.slice A0 l0.length c0, .int .i64 a1, .int .i64 a2] w fun e w' => e = .returned (.bool r) ∧ Below w.heap.size w w' := by
  have HR0 := Aside0.mk hr0
  have HC0 := Aside0.mk hc0
  clear hr0 hc0
  have HB := Aside0.mk (Below.refl w.heap.size w)
  have H : ((limelightref01_Small.f l0).bind fun t192 => (if t192 = true then ((limelightref03_Both.f l0 a1 a2).bind fun t194 => (if t194 = true then ((limelightref03_Up.f k l0 a2).bind fun t208 => ((order_List.f l0 a1).bind fun t211 => ((limelightref03_List.f k l0 a1).bind fun t214 => ((limelightref01_Ints.f t211 t214).bind fun t217 => (if t217 = true then ((order_Up.f l0 a2).bind fun t218 => ((limelightref01_Ints.f t218 t208).bind fun t221 => (if t221 = true then ((order_Top.f l0 a1).bind fun t222 => ((limelightref03_Top.f k l0 a1).bind fun t223 => (if t222 = t223 then ((order_Above.f k l0 a1 a2).bind fun t224 => ((limelightref03_In.f k t208 a1).bind fun t225 => (if (t224 == t225) = true then ((order_Before.f l0 a1 a2).bind fun t226 => ((limelightref03_Before.f k l0 a1 a2).bind fun t227 => (if (t226 == t227) = true then ((order_Common.f k l0 a1 a2).bind fun t228 => ((limelightref03_Common.f k l0 a1 a2).bind fun t229 => (if t228 = t229 then ((limelightlaw03_live.f k).bind fun t230 => (some t230)) else (none)))) else (none)))) else (none)))) else (none)))) else (none)))) else (none)))))) else ((order_Above.f k l0 a1 a2).bind fun t195 => (if t195 = true then (none) else ((order_Before.f l0 a1 a2).bind fun t196 => (if t196 = true then (none) else ((order_Common.f k l0 a1 a2).bind fun t197 => (if t197 = (-1) then ((limelightref03_Both.f l0 a1 a1).bind fun t198 => (if t198 = true then ((limelightlaw03_live.f k).bind fun t199 => (some t199)) else ((order_List.f l0 a1).bind fun t200 => (if (t200.length : Int) = 0 then ((order_Up.f l0 a1).bind fun t203 => (if (t203.length : Int) = 0 then ((order_Top.f l0 a1).bind fun t206 => (if t206 = (-1) then ((limelightlaw03_live.f k).bind fun t207 => (some t207)) else (none))) else (none))) else (none))))) else (none))))))))) else ((limelightlaw03_live.f k).bind fun t193 => (some t193)))) = some r := h
  clear h
  replace H := Option.bind_eq_some_iff.mp H
  obtain ⟨t192, A40, H⟩ := H
  replace H : (if t192 = true then ((limelightref03_Both.f l0 a1 a2).bind fun t194 => (if t194 = true then ((limelightref03_Up.f k l0 a2).bind fun t208 => ((order_List.f l0 a1).bind fun t211 => ((limelightref03_List.f k l0 a1).bind fun t214 => ((limelightref01_Ints.f t211 t214).bind fun t217 => (if t217 = true then ((order_Up.f l0 a2).bind fun t218 => ((limelightref01_Ints.f t218 t208).bind fun t221 => (if t221 = true then ((order_Top.f l0 a1).bind fun t222 => ((limelightref03_Top.f k l0 a1).bind fun t223 => (if t222 = t223 then ((order_Above.f k l0 a1 a2).bind fun t224 => ((limelightref03_In.f k t208 a1).bind fun t225 => (if (t224 == t225) = true then ((order_Before.f l0 a1 a2).bind fun t226 => ((limelightref03_Before.f k l0 a1 a2).bind fun t227 => (if (t226 == t227) = true then ((order_Common.f k l0 a1 a2).bind fun t228 => ((limelightref03_Common.f k l0 a1 a2).bind fun t229 => (if t228 = t229 then ((limelightlaw03_live.f k).bind fun t230 => (some t230)) else (none)))) else (none)))) else (none)))) else (none)))) else (none)))) else (none)))))) else ((order_Above.f k l0 a1 a2).bind fun t195 => (if t195 = true then (none) else ((order_Before.f l0 a1 a2).bind fun t196 => (if t196 = true then (none) else ((order_Common.f k l0 a1 a2).bind fun t197 => (if t197 = (-1) then ((limelightref03_Both.f l0 a1 a1).bind fun t198 => (if t198 = true then ((limelightlaw03_live.f k).bind fun t199 => (some t199)) else ((order_List.f l0 a1).bind fun t200 => (if (t200.length : Int) = 0 then ((order_Up.f l0 a1).bind fun t203 => (if (t203.length : Int) = 0 then ((order_Top.f l0 a1).bind fun t206 => (if t206 = (-1) then ((limelightlaw03_live.f k).bind fun t207 => (some t207)) else (none))) else (none))) else (none))))) else (none))))))))) else ((limelightlaw03_live.f k).bind fun t193 => (some t193))) = some r := H
  have A4 := Aside0.mk A40
  clear A40
  by_cases c5 : t192 = true
  · subst c5
    have H1 : ((limelightref03_Both.f l0 a1 a2).bind fun t194 => (if t194 = true then ((limelightref03_Up.f k l0 a2).bind fun t208 => ((order_List.f l0 a1).bind fun t211 => ((limelightref03_List.f k l0 a1).bind fun t214 => ((limelightref01_Ints.f t211 t214).bind fun t217 => (if t217 = true then ((order_Up.f l0 a2).bind fun t218 => ((limelightref01_Ints.f t218 t208).bind fun t221 => (if t221 = true then ((order_Top.f l0 a1).bind fun t222 => ((limelightref03_Top.f k l0 a1).bind fun t223 => (if t222 = t223 then ((order_Above.f k l0 a1 a2).bind fun t224 => ((limelightref03_In.f k t208 a1).bind fun t225 => (if (t224 == t225) = true then ((order_Before.f l0 a1 a2).bind fun t226 => ((limelightref03_Before.f k l0 a1 a2).bind fun t227 => (if (t226 == t227) = true then ((order_Common.f k l0 a1 a2).bind fun t228 => ((limelightref03_Common.f k l0 a1 a2).bind fun t229 => (if t228 = t229 then ((limelightlaw03_live.f k).bind fun t230 => (some t230)) else (none)))) else (none)))) else (none)))) else (none)))) else (none)))) else (none)))))) else ((order_Above.f k l0 a1 a2).bind fun t195 => (if t195 = true then (none) else ((order_Before.f l0 a1 a2).bind fun t196 => (if t196 = true then (none) else ((order_Common.f k l0 a1 a2).bind fun t197 => (if t197 = (-1) then ((limelightref03_Both.f l0 a1 a1).bind fun t198 => (if t198 = true then ((limelightlaw03_live.f k).bind fun t199 => (some t199)) else ((order_List.f l0 a1).bind fun t200 => (if (t200.length : Int) = 0 then ((order_Up.f l0 a1).bind fun t203 => (if (t203.length : Int) = 0 then ((order_Top.f l0 a1).bind fun t206 => (if t206 = (-1) then ((limelightlaw03_live.f k).bind fun t207 => (some t207)) else (none))) else (none))) else (none))))) else (none))))))))) = some r := by rw [if_pos rfl] at H; exact H
    clear H
    have H := H1
    clear H1
    replace H := Option.bind_eq_some_iff.mp H
    obtain ⟨t194, A60, H⟩ := H
    replace H : (if t194 = true then ((limelightref03_Up.f k l0 a2).bind fun t208 => ((order_List.f l0 a1).bind fun t211 => ((limelightref03_List.f k l0 a1).bind fun t214 => ((limelightref01_Ints.f t211 t214).bind fun t217 => (if t217 = true then ((order_Up.f l0 a2).bind fun t218 => ((limelightref01_Ints.f t218 t208).bind fun t221 => (if t221 = true then ((order_Top.f l0 a1).bind fun t222 => ((limelightref03_Top.f k l0 a1).bind fun t223 => (if t222 = t223 then ((order_Above.f k l0 a1 a2).bind fun t224 => ((limelightref03_In.f k t208 a1).bind fun t225 => (if (t224 == t225) = true then ((order_Before.f l0 a1 a2).bind fun t226 => ((limelightref03_Before.f k l0 a1 a2).bind fun t227 => (if (t226 == t227) = true then ((order_Common.f k l0 a1 a2).bind fun t228 => ((limelightref03_Common.f k l0 a1 a2).bind fun t229 => (if t228 = t229 then ((limelightlaw03_live.f k).bind fun t230 => (some t230)) else (none)))) else (none)))) else (none)))) else (none)))) else (none)))) else (none)))))) else ((order_Above.f k l0 a1 a2).bind fun t195 => (if t195 = true then (none) else ((order_Before.f l0 a1 a2).bind fun t196 => (if t196 = true then (none) else ((order_Common.f k l0 a1 a2).bind fun t197 => (if t197 = (-1) then ((limelightref03_Both.f l0 a1 a1).bind fun t198 => (if t198 = true then ((limelightlaw03_live.f k).bind fun t199 => (some t199)) else ((order_List.f l0 a1).bind fun t200 => (if (t200.length : Int) = 0 then ((order_Up.f l0 a1).bind fun t203 => (if (t203.length : Int) = 0 then ((order_Top.f l0 a1).bind fun t206 => (if t206 = (-1) then ((limelightlaw03_live.f k).bind fun t207 => (some t207)) else (none))) else (none))) else (none))))) else (none)))))))) = some r := H
    have A6 := Aside0.mk A60
    clear A60
    by_cases c7 : t194 = true
    · subst c7
      have H1 : ((limelightref03_Up.f k l0 a2).bind fun t208 => ((order_List.f l0 a1).bind fun t211 => ((limelightref03_List.f k l0 a1).bind fun t214 => ((limelightref01_Ints.f t211 t214).bind fun t217 => (if t217 = true then ((order_Up.f l0 a2).bind fun t218 => ((limelightref01_Ints.f t218 t208).bind fun t221 => (if t221 = true then ((order_Top.f l0 a1).bind fun t222 => ((limelightref03_Top.f k l0 a1).bind fun t223 => (if t222 = t223 then ((order_Above.f k l0 a1 a2).bind fun t224 => ((limelightref03_In.f k t208 a1).bind fun t225 => (if (t224 == t225) = true then ((order_Before.f l0 a1 a2).bind fun t226 => ((limelightref03_Before.f k l0 a1 a2).bind fun t227 => (if (t226 == t227) = true then ((order_Common.f k l0 a1 a2).bind fun t228 => ((limelightref03_Common.f k l0 a1 a2).bind fun t229 => (if t228 = t229 then ((limelightlaw03_live.f k).bind fun t230 => (some t230)) else (none)))) else (none)))) else (none)))) else (none)))) else (none)))) else (none)))))) = some r := by rw [if_pos rfl] at H; exact H
      clear H
      have H := H1
      clear H1
      replace H := Option.bind_eq_some_iff.mp H
      obtain ⟨t208, A80, H⟩ := H
      replace H : ((order_List.f l0 a1).bind fun t211 => ((limelightref03_List.f k l0 a1).bind fun t214 => ((limelightref01_Ints.f t211 t214).bind fun t217 => (if t217 = true then ((order_Up.f l0 a2).bind fun t218 => ((limelightref01_Ints.f t218 t208).bind fun t221 => (if t221 = true then ((order_Top.f l0 a1).bind fun t222 => ((limelightref03_Top.f k l0 a1).bind fun t223 => (if t222 = t223 then ((order_Above.f k l0 a1 a2).bind fun t224 => ((limelightref03_In.f k t208 a1).bind fun t225 => (if (t224 == t225) = true then ((order_Before.f l0 a1 a2).bind fun t226 => ((limelightref03_Before.f k l0 a1 a2).bind fun t227 => (if (t226 == t227) = true then ((order_Common.f k l0 a1 a2).bind fun t228 => ((limelightref03_Common.f k l0 a1 a2).bind fun t229 => (if t228 = t229 then ((limelightlaw03_live.f k).bind fun t230 => (some t230)) else (none)))) else (none)))) else (none)))) else (none)))) else (none)))) else (none))))) = some r := H
      have A8 := Aside0.mk A80
      clear A80
      replace H := Option.bind_eq_some_iff.mp H
      obtain ⟨t211, A90, H⟩ := H
      replace H : ((limelightref03_List.f k l0 a1).bind fun t214 => ((limelightref01_Ints.f t211 t214).bind fun t217 => (if t217 = true then ((order_Up.f l0 a2).bind fun t218 => ((limelightref01_Ints.f t218 t208).bind fun t221 => (if t221 = true then ((order_Top.f l0 a1).bind fun t222 => ((limelightref03_Top.f k l0 a1).bind fun t223 => (if t222 = t223 then ((order_Above.f k l0 a1 a2).bind fun t224 => ((limelightref03_In.f k t208 a1).bind fun t225 => (if (t224 == t225) = true then ((order_Before.f l0 a1 a2).bind fun t226 => ((limelightref03_Before.f k l0 a1 a2).bind fun t227 => (if (t226 == t227) = true then ((order_Common.f k l0 a1 a2).bind fun t228 => ((limelightref03_Common.f k l0 a1 a2).bind fun t229 => (if t228 = t229 then ((limelightlaw03_live.f k).bind fun t230 => (some t230)) else (none)))) else (none)))) else (none)))) else (none)))) else (none)))) else (none)))) = some r := H
      have A9 := Aside0.mk A90
      clear A90
      replace H := Option.bind_eq_some_iff.mp H
      obtain ⟨t214, A100, H⟩ := H
      replace H : ((limelightref01_Ints.f t211 t214).bind fun t217 => (if t217 = true then ((order_Up.f l0 a2).bind fun t218 => ((limelightref01_Ints.f t218 t208).bind fun t221 => (if t221 = true then ((order_Top.f l0 a1).bind fun t222 => ((limelightref03_Top.f k l0 a1).bind fun t223 => (if t222 = t223 then ((order_Above.f k l0 a1 a2).bind fun t224 => ((limelightref03_In.f k t208 a1).bind fun t225 => (if (t224 == t225) = true then ((order_Before.f l0 a1 a2).bind fun t226 => ((limelightref03_Before.f k l0 a1 a2).bind fun t227 => (if (t226 == t227) = true then ((order_Common.f k l0 a1 a2).bind fun t228 => ((limelightref03_Common.f k l0 a1 a2).bind fun t229 => (if t228 = t229 then ((limelightlaw03_live.f k).bind fun t230 => (some t230)) else (none)))) else (none)))) else (none)))) else (none)))) else (none)))) else (none))) = some r := H
      have A10 := Aside0.mk A100
      clear A100
      replace H := Option.bind_eq_some_iff.mp H
      obtain ⟨t217, A110, H⟩ := H
      replace H : (if t217 = true then ((order_Up.f l0 a2).bind fun t218 => ((limelightref01_Ints.f t218 t208).bind fun t221 => (if t221 = true then ((order_Top.f l0 a1).bind fun t222 => ((limelightref03_Top.f k l0 a1).bind fun t223 => (if t222 = t223 then ((order_Above.f k l0 a1 a2).bind fun t224 => ((limelightref03_In.f k t208 a1).bind fun t225 => (if (t224 == t225) = true then ((order_Before.f l0 a1 a2).bind fun t226 => ((limelightref03_Before.f k l0 a1 a2).bind fun t227 => (if (t226 == t227) = true then ((order_Common.f k l0 a1 a2).bind fun t228 => ((limelightref03_Common.f k l0 a1 a2).bind fun t229 => (if t228 = t229 then ((limelightlaw03_live.f k).bind fun t230 => (some t230)) else (none)))) else (none)))) else (none)))) else (none)))) else (none)))) else (none)) = some r := H
      have A11 := Aside0.mk A110
      clear A110
      by_cases c12 : t217 = true
      · subst c12
        have H1 : ((order_Up.f l0 a2).bind fun t218 => ((limelightref01_Ints.f t218 t208).bind fun t221 => (if t221 = true then ((order_Top.f l0 a1).bind fun t222 => ((limelightref03_Top.f k l0 a1).bind fun t223 => (if t222 = t223 then ((order_Above.f k l0 a1 a2).bind fun t224 => ((limelightref03_In.f k t208 a1).bind fun t225 => (if (t224 == t225) = true then ((order_Before.f l0 a1 a2).bind fun t226 => ((limelightref03_Before.f k l0 a1 a2).bind fun t227 => (if (t226 == t227) = true then ((order_Common.f k l0 a1 a2).bind fun t228 => ((limelightref03_Common.f k l0 a1 a2).bind fun t229 => (if t228 = t229 then ((limelightlaw03_live.f k).bind fun t230 => (some t230)) else (none)))) else (none)))) else (none)))) else (none)))) else (none)))) = some r := by rw [if_pos rfl] at H; exact H
        clear H
        have H := H1
        clear H1
        replace H := Option.bind_eq_some_iff.mp H
        obtain ⟨t218, A130, H⟩ := H
        replace H : ((limelightref01_Ints.f t218 t208).bind fun t221 => (if t221 = true then ((order_Top.f l0 a1).bind fun t222 => ((limelightref03_Top.f k l0 a1).bind fun t223 => (if t222 = t223 then ((order_Above.f k l0 a1 a2).bind fun t224 => ((limelightref03_In.f k t208 a1).bind fun t225 => (if (t224 == t225) = true then ((order_Before.f l0 a1 a2).bind fun t226 => ((limelightref03_Before.f k l0 a1 a2).bind fun t227 => (if (t226 == t227) = true then ((order_Common.f k l0 a1 a2).bind fun t228 => ((limelightref03_Common.f k l0 a1 a2).bind fun t229 => (if t228 = t229 then ((limelightlaw03_live.f k).bind fun t230 => (some t230)) else (none)))) else (none)))) else (none)))) else (none)))) else (none))) = some r := H
        have A13 := Aside0.mk A130
        clear A130
        replace H := Option.bind_eq_some_iff.mp H
        obtain ⟨t221, A140, H⟩ := H
        replace H : (if t221 = true then ((order_Top.f l0 a1).bind fun t222 => ((limelightref03_Top.f k l0 a1).bind fun t223 => (if t222 = t223 then ((order_Above.f k l0 a1 a2).bind fun t224 => ((limelightref03_In.f k t208 a1).bind fun t225 => (if (t224 == t225) = true then ((order_Before.f l0 a1 a2).bind fun t226 => ((limelightref03_Before.f k l0 a1 a2).bind fun t227 => (if (t226 == t227) = true then ((order_Common.f k l0 a1 a2).bind fun t228 => ((limelightref03_Common.f k l0 a1 a2).bind fun t229 => (if t228 = t229 then ((limelightlaw03_live.f k).bind fun t230 => (some t230)) else (none)))) else (none)))) else (none)))) else (none)))) else (none)) = some r := H
        have A14 := Aside0.mk A140
        clear A140
        by_cases c15 : t221 = true
        · subst c15
          have H1 : ((order_Top.f l0 a1).bind fun t222 => ((limelightref03_Top.f k l0 a1).bind fun t223 => (if t222 = t223 then ((order_Above.f k l0 a1 a2).bind fun t224 => ((limelightref03_In.f k t208 a1).bind fun t225 => (if (t224 == t225) = true then ((order_Before.f l0 a1 a2).bind fun t226 => ((limelightref03_Before.f k l0 a1 a2).bind fun t227 => (if (t226 == t227) = true then ((order_Common.f k l0 a1 a2).bind fun t228 => ((limelightref03_Common.f k l0 a1 a2).bind fun t229 => (if t228 = t229 then ((limelightlaw03_live.f k).bind fun t230 => (some t230)) else (none)))) else (none)))) else (none)))) else (none)))) = some r := by rw [if_pos rfl] at H; exact H
          clear H
          have H := H1
          clear H1
          replace H := Option.bind_eq_some_iff.mp H
          obtain ⟨t222, A160, H⟩ := H
          replace H : ((limelightref03_Top.f k l0 a1).bind fun t223 => (if t222 = t223 then ((order_Above.f k l0 a1 a2).bind fun t224 => ((limelightref03_In.f k t208 a1).bind fun t225 => (if (t224 == t225) = true then ((order_Before.f l0 a1 a2).bind fun t226 => ((limelightref03_Before.f k l0 a1 a2).bind fun t227 => (if (t226 == t227) = true then ((order_Common.f k l0 a1 a2).bind fun t228 => ((limelightref03_Common.f k l0 a1 a2).bind fun t229 => (if t228 = t229 then ((limelightlaw03_live.f k).bind fun t230 => (some t230)) else (none)))) else (none)))) else (none)))) else (none))) = some r := H
          have A16 := Aside0.mk A160
          clear A160
          replace H := Option.bind_eq_some_iff.mp H
          obtain ⟨t223, A170, H⟩ := H
          replace H : (if t222 = t223 then ((order_Above.f k l0 a1 a2).bind fun t224 => ((limelightref03_In.f k t208 a1).bind fun t225 => (if (t224 == t225) = true then ((order_Before.f l0 a1 a2).bind fun t226 => ((limelightref03_Before.f k l0 a1 a2).bind fun t227 => (if (t226 == t227) = true then ((order_Common.f k l0 a1 a2).bind fun t228 => ((limelightref03_Common.f k l0 a1 a2).bind fun t229 => (if t228 = t229 then ((limelightlaw03_live.f k).bind fun t230 => (some t230)) else (none)))) else (none)))) else (none)))) else (none)) = some r := H
          have A17 := Aside0.mk A170
          clear A170
          by_cases c18 : t222 = t223
          · rw [if_pos c18] at H
            have c18b0 : (t222 == t223) = true := beq_iff_eq.mpr c18
            have c18b1 : (t222 != t223) = false := bne_eq_false_iff_eq.mpr c18
            clear c18
            replace H := Option.bind_eq_some_iff.mp H
            obtain ⟨t224, A190, H⟩ := H
            replace H : ((limelightref03_In.f k t208 a1).bind fun t225 => (if (t224 == t225) = true then ((order_Before.f l0 a1 a2).bind fun t226 => ((limelightref03_Before.f k l0 a1 a2).bind fun t227 => (if (t226 == t227) = true then ((order_Common.f k l0 a1 a2).bind fun t228 => ((limelightref03_Common.f k l0 a1 a2).bind fun t229 => (if t228 = t229 then ((limelightlaw03_live.f k).bind fun t230 => (some t230)) else (none)))) else (none)))) else (none))) = some r := H
            have A19 := Aside0.mk A190
            clear A190
            replace H := Option.bind_eq_some_iff.mp H
            obtain ⟨t225, A200, H⟩ := H
            replace H : (if (t224 == t225) = true then ((order_Before.f l0 a1 a2).bind fun t226 => ((limelightref03_Before.f k l0 a1 a2).bind fun t227 => (if (t226 == t227) = true then ((order_Common.f k l0 a1 a2).bind fun t228 => ((limelightref03_Common.f k l0 a1 a2).bind fun t229 => (if t228 = t229 then ((limelightlaw03_live.f k).bind fun t230 => (some t230)) else (none)))) else (none)))) else (none)) = some r := H
            have A20 := Aside0.mk A200
            clear A200
            by_cases c21 : (t224 == t225) = true
            · rw [if_pos c21] at H
              have c21b0 : (t224 == t225) = true := c21
              (try (have c21b1 : decide (t224 = t225) = true := by simpa using c21))
              (try (have c21b2 : (t224 == t225) = true := by simpa using c21))
              clear c21
              replace H := Option.bind_eq_some_iff.mp H
              obtain ⟨t226, A220, H⟩ := H
              replace H : ((limelightref03_Before.f k l0 a1 a2).bind fun t227 => (if (t226 == t227) = true then ((order_Common.f k l0 a1 a2).bind fun t228 => ((limelightref03_Common.f k l0 a1 a2).bind fun t229 => (if t228 = t229 then ((limelightlaw03_live.f k).bind fun t230 => (some t230)) else (none)))) else (none))) = some r := H
              have A22 := Aside0.mk A220
              clear A220
              replace H := Option.bind_eq_some_iff.mp H
              obtain ⟨t227, A230, H⟩ := H
              replace H : (if (t226 == t227) = true then ((order_Common.f k l0 a1 a2).bind fun t228 => ((limelightref03_Common.f k l0 a1 a2).bind fun t229 => (if t228 = t229 then ((limelightlaw03_live.f k).bind fun t230 => (some t230)) else (none)))) else (none)) = some r := H
              have A23 := Aside0.mk A230
              clear A230
              by_cases c24 : (t226 == t227) = true
              · rw [if_pos c24] at H
                have c24b0 : (t226 == t227) = true := c24
                (try (have c24b1 : decide (t226 = t227) = true := by simpa using c24))
                (try (have c24b2 : (t226 == t227) = true := by simpa using c24))
                clear c24
                replace H := Option.bind_eq_some_iff.mp H
                obtain ⟨t228, A250, H⟩ := H
                replace H : ((limelightref03_Common.f k l0 a1 a2).bind fun t229 => (if t228 = t229 then ((limelightlaw03_live.f k).bind fun t230 => (some t230)) else (none))) = some r := H
                have A25 := Aside0.mk A250
                clear A250
                replace H := Option.bind_eq_some_iff.mp H
                obtain ⟨t229, A260, H⟩ := H
                replace H : (if t228 = t229 then ((limelightlaw03_live.f k).bind fun t230 => (some t230)) else (none)) = some r := H
                have A26 := Aside0.mk A260
                clear A260
                by_cases c27 : t228 = t229
                · rw [if_pos c27] at H
                  have c27b0 : (t228 == t229) = true := beq_iff_eq.mpr c27
                  have c27b1 : (t228 != t229) = false := bne_eq_false_iff_eq.mpr c27
                  clear c27
                  replace H := Option.bind_eq_some_iff.mp H
                  obtain ⟨t230, A280, H⟩ := H
                  replace H : (some t230) = some r := H
                  have A28 := Aside0.mk A280
                  clear A280
                  obtain rfl := Option.some.inj H
                  go_enter Try.func3, Try.ntmps3
                  go_wp2_with (first | ((with_reducible refine gate_callee (f := 8) rfl ?_); refine goesL_ (some 9) rfl rfl Try.func8 (by kernel_rfl) rfl #[.slice A0 l0.length c0] rfl (by (try simp only [List.map_toArray, List.map_cons, List.map_nil]); first | done | rfl | (simp only [List.length_drop, List.length_take]; rfl)) ?_; (with_reducible refine (limelightref01_Small.calls _ _ l0 true _ ?side1 ?side2 A4.out).mono ?_); (case side1 => repeat (first | exact HR0.out | (with_reducible refine Kd.C_alloc ?_ _) | (with_reducible refine Kd.C_drewN ?_ _) | (with_reducible refine Kd.C_drew ?_))); (case side2 => exact HC0.out); rintro e w29 ⟨rfl, hb⟩; refine ⟨_, rfl, ?_⟩; have n0_ := Aside0.mk (below_step (by repeat (first | (with_reducible first | exact HB.out | apply below_alloc | apply pw_below_drewN | apply below_drew1) | exact HB.out)) hb); clear HB; have HB := n0_; clear n0_; (try clear hb); (try clear hb2); (try clear hk); (try clear hi)) | ((with_reducible refine gate_callee (f := 10) rfl ?_); refine goesL_ (some 15) rfl rfl Try.func10 (by kernel_rfl) rfl #[.slice A0 l0.length c0, .int .i64 a1, .int .i64 a2] rfl (by (try simp only [List.map_toArray, List.map_cons, List.map_nil]); first | done | rfl | (simp only [List.length_drop, List.length_take]; rfl)) ?_; (with_reducible refine (limelightref03_Both.calls _ _ l0 a1 a2 true _ ?side1 ?side2 A6.out).mono ?_); (case side1 => repeat (first | exact (Kd.C_below HR0.out HB.out) | (with_reducible refine Kd.C_alloc ?_ _) | (with_reducible refine Kd.C_drewN ?_ _) | (with_reducible refine Kd.C_drew ?_))); (case side2 => exact HC0.out); rintro e w30 ⟨rfl, hb⟩; refine ⟨_, rfl, ?_⟩; have n0_ := Aside0.mk (below_step (by repeat (first | (with_reducible first | exact HB.out | apply below_alloc | apply pw_below_drewN | apply below_drew1) | exact HB.out)) hb); clear HB; have HB := n0_; clear n0_; (try clear hb); (try clear hb2); (try clear hk); (try clear hi)) | ((with_reducible refine gate_callee (f := 17) rfl ?_); refine goesL_ (some 67) rfl rfl Try.func17 (by kernel_rfl) rfl #[.slice A0 l0.length c0, .int .i64 a2] rfl (by (try simp only [List.map_toArray, List.map_cons, List.map_nil]); first | done | rfl | (simp only [List.length_drop, List.length_take]; rfl)) ?_; (with_reducible refine (limelightref03_Up.calls k _ _ l0 a2 t208 _ ?side1 ?side2 A8.out).mono ?_); (case side1 => repeat (first | exact (Kd.C_below HR0.out HB.out) | (with_reducible refine Kd.C_alloc ?_ _) | (with_reducible refine Kd.C_drewN ?_ _) | (with_reducible refine Kd.C_drew ?_))); (case side2 => exact HC0.out); rintro e w31 ⟨v209, rfl, ho0, hb⟩; refine ⟨_, rfl, ?_⟩; have n0_ := Aside0.mk (Kd.R_lower ho0 (below_size (by repeat (first | (with_reducible first | exact HB.out | apply below_alloc | apply pw_below_drewN | apply below_drew1) | exact HB.out)))); have n1_ := Aside0.mk (below_step (by repeat (first | (with_reducible first | exact HB.out | apply below_alloc | apply pw_below_drewN | apply below_drew1) | exact HB.out)) hb); clear HB; have HO210 := n0_; have HB := n1_; clear n0_ n1_; (try clear hb); (try clear hb2); (try clear hk); (try clear hi); (try clear ho0)) | ((with_reducible refine gate_callee (f := 14) rfl ?_); refine goesL_ (some 70) rfl rfl Try.func14 (by kernel_rfl) rfl #[.slice A0 l0.length c0, .int .i64 a1] rfl (by (try simp only [List.map_toArray, List.map_cons, List.map_nil]); first | done | rfl | (simp only [List.length_drop, List.length_take]; rfl)) ?_; (with_reducible refine (order_List.calls _ _ l0 a1 t211 _ ?side1 ?side2 A9.out).mono ?_); (case side1 => repeat (first | exact (Kd.C_below HR0.out HB.out) | (with_reducible refine Kd.C_alloc ?_ _) | (with_reducible refine Kd.C_drewN ?_ _) | (with_reducible refine Kd.C_drew ?_))); (case side2 => exact HC0.out); rintro e w32 ⟨v212, rfl, ho0, hb⟩; refine ⟨_, rfl, ?_⟩; have n0_ := Aside0.mk (Kd.R_elder' (by (with_reducible repeat (first | apply Kd.R_alloc | apply Kd.R_drewN | apply Kd.R_drew)); exact HO210.out) (Kd.R_base ho0) hb); have n1_ := Aside0.mk (Kd.R_lower (Kd.R_new' ho0 (Kd.R_lt (by (with_reducible repeat (first | apply Kd.R_alloc | apply Kd.R_drewN | apply Kd.R_drew)); exact HO210.out))) (below_size (by repeat (first | (with_reducible first | exact HB.out | apply below_alloc | apply pw_below_drewN | apply below_drew1) | exact HB.out)))); have n2_ := Aside0.mk (below_step (by repeat (first | (with_reducible first | exact HB.out | apply below_alloc | apply pw_below_drewN | apply below_drew1) | exact HB.out)) hb); clear HO210; clear HB; have HO210 := n0_; have HO213 := n1_; have HB := n2_; clear n0_ n1_ n2_; (try clear hb); (try clear hb2); (try clear hk); (try clear hi); (try clear ho0)) | ((with_reducible refine gate_callee (f := 19) rfl ?_); refine goesL_ (some 73) rfl rfl Try.func19 (by kernel_rfl) rfl #[.slice A0 l0.length c0, .int .i64 a1] rfl (by (try simp only [List.map_toArray, List.map_cons, List.map_nil]); first | done | rfl | (simp only [List.length_drop, List.length_take]; rfl)) ?_; (with_reducible refine (limelightref03_List.calls k _ _ l0 a1 t214 _ ?side1 ?side2 A10.out).mono ?_); (case side1 => repeat (first | exact (Kd.C_below HR0.out HB.out) | (with_reducible refine Kd.C_alloc ?_ _) | (with_reducible refine Kd.C_drewN ?_ _) | (with_reducible refine Kd.C_drew ?_))); (case side2 => exact HC0.out); rintro e w33 ⟨v215, rfl, ho0, hb⟩; refine ⟨_, rfl, ?_⟩; have n0_ := Aside0.mk (Kd.R_elder' (by (with_reducible repeat (first | apply Kd.R_alloc | apply Kd.R_drewN | apply Kd.R_drew)); exact HO210.out) (Kd.R_base ho0) hb); have n1_ := Aside0.mk (Kd.R_elder' (by (with_reducible repeat (first | apply Kd.R_alloc | apply Kd.R_drewN | apply Kd.R_drew)); exact HO213.out) (Kd.R_base ho0) hb); have n2_ := Aside0.mk (Kd.R_lower (Kd.R_new' (Kd.R_new' ho0 (Kd.R_lt (by (with_reducible repeat (first | apply Kd.R_alloc | apply Kd.R_drewN | apply Kd.R_drew)); exact HO210.out))) (Kd.R_lt (by (with_reducible repeat (first | apply Kd.R_alloc | apply Kd.R_drewN | apply Kd.R_drew)); exact HO213.out))) (below_size (by repeat (first | (with_reducible first | exact HB.out | apply below_alloc | apply pw_below_drewN | apply below_drew1) | exact HB.out)))); have n3_ := Aside0.mk (below_step (by repeat (first | (with_reducible first | exact HB.out | apply below_alloc | apply pw_below_drewN | apply below_drew1) | exact HB.out)) hb); clear HO210; clear HO213; clear HB; have HO210 := n0_; have HO213 := n1_; have HO216 := n2_; have HB := n3_; clear n0_ n1_ n2_ n3_; (try clear hb); (try clear hb2); (try clear hk); (try clear hi); (try clear ho0); obtain ⟨Ao34, co34, eo34⟩ := Kd.R_slice HO213.out; subst eo34; obtain ⟨Ao35, co35, eo35⟩ := Kd.R_slice HO216.out; subst eo35) | ((with_reducible refine gate_callee (f := 18) rfl ?_); refine goesL_ (some 74) rfl rfl Try.func18 (by kernel_rfl) rfl #[.slice Ao34 t211.length co34, .slice Ao35 t214.length co35] rfl (by (try simp only [List.map_toArray, List.map_cons, List.map_nil]); first | done | rfl | (simp only [List.length_drop, List.length_take]; rfl)) ?_; (with_reducible refine (limelightref01_Ints.calls _ _ t211 _ _ t214 true _ ?side1 ?side2 ?side3 ?side4 A11.out).mono ?_); (case side1 => repeat (first | exact (Kd.R_reads' HO213.out).2.2 | (with_reducible refine Kd.C_alloc ?_ _) | (with_reducible refine Kd.C_drewN ?_ _) | (with_reducible refine Kd.C_drew ?_))); (case side2 => exact (Kd.R_reads' HO213.out).2.1); (case side3 => repeat (first | exact (Kd.R_reads' HO216.out).2.2 | (with_reducible refine Kd.C_alloc ?_ _) | (with_reducible refine Kd.C_drewN ?_ _) | (with_reducible refine Kd.C_drew ?_))); (case side4 => exact (Kd.R_reads' HO216.out).2.1); rintro e w36 ⟨rfl, hb⟩; refine ⟨_, rfl, ?_⟩; have n0_ := Aside0.mk (Kd.R_below (by (with_reducible repeat (first | apply Kd.R_alloc | apply Kd.R_drewN | apply Kd.R_drew)); exact HO210.out) hb); have n1_ := Aside0.mk (Kd.R_below (by (with_reducible repeat (first | apply Kd.R_alloc | apply Kd.R_drewN | apply Kd.R_drew)); exact HO213.out) hb); have n2_ := Aside0.mk (Kd.R_below (by (with_reducible repeat (first | apply Kd.R_alloc | apply Kd.R_drewN | apply Kd.R_drew)); exact HO216.out) hb); have n3_ := Aside0.mk (below_step (by repeat (first | (with_reducible first | exact HB.out | apply below_alloc | apply pw_below_drewN | apply below_drew1) | exact HB.out)) hb); clear HO210; clear HO213; clear HO216; clear HB; have HO210 := n0_; have HO213 := n1_; have HO216 := n2_; have HB := n3_; clear n0_ n1_ n2_ n3_; (try clear hb); (try clear hb2); (try clear hk); (try clear hi)) | (go_at_call 15; (with_reducible refine (order_Up.calls _ _ l0 a2 t218 _ ?side1 ?side2 A13.out).mono ?_); (case side1 => repeat (first | exact (Kd.C_below HR0.out HB.out) | (with_reducible refine Kd.C_alloc ?_ _) | (with_reducible refine Kd.C_drewN ?_ _) | (with_reducible refine Kd.C_drew ?_))); (case side2 => exact HC0.out); rintro e w37 ⟨v219, rfl, ho0, hb⟩; have n0_ := Aside0.mk (Kd.R_elder' (by (with_reducible repeat (first | apply Kd.R_alloc | apply Kd.R_drewN | apply Kd.R_drew)); exact HO210.out) (Kd.R_base ho0) hb); have n1_ := Aside0.mk (Kd.R_elder' (by (with_reducible repeat (first | apply Kd.R_alloc | apply Kd.R_drewN | apply Kd.R_drew)); exact HO213.out) (Kd.R_base ho0) hb); have n2_ := Aside0.mk (Kd.R_elder' (by (with_reducible repeat (first | apply Kd.R_alloc | apply Kd.R_drewN | apply Kd.R_drew)); exact HO216.out) (Kd.R_base ho0) hb); have n3_ := Aside0.mk (Kd.R_lower (Kd.R_new' (Kd.R_new' (Kd.R_new' ho0 (Kd.R_lt (by (with_reducible repeat (first | apply Kd.R_alloc | apply Kd.R_drewN | apply Kd.R_drew)); exact HO210.out))) (Kd.R_lt (by (with_reducible repeat (first | apply Kd.R_alloc | apply Kd.R_drewN | apply Kd.R_drew)); exact HO213.out))) (Kd.R_lt (by (with_reducible repeat (first | apply Kd.R_alloc | apply Kd.R_drewN | apply Kd.R_drew)); exact HO216.out))) (below_size (by repeat (first | (with_reducible first | exact HB.out | apply below_alloc | apply pw_below_drewN | apply below_drew1) | exact HB.out)))); have n4_ := Aside0.mk (below_step (by repeat (first | (with_reducible first | exact HB.out | apply below_alloc | apply pw_below_drewN | apply below_drew1) | exact HB.out)) hb); clear HO210; clear HO213; clear HO216; clear HB; have HO210 := n0_; have HO213 := n1_; have HO216 := n2_; have HO220 := n3_; have HB := n4_; clear n0_ n1_ n2_ n3_ n4_; (try clear hb); (try clear hb2); (try clear hk); (try clear hi); (try clear ho0); obtain ⟨Ao38, co38, eo38⟩ := Kd.R_slice HO220.out; subst eo38; obtain ⟨Ao39, co39, eo39⟩ := Kd.R_slice HO210.out; subst eo39) | (go_at_call 18; (with_reducible refine (limelightref01_Ints.calls _ _ t218 _ _ t208 true _ ?side1 ?side2 ?side3 ?side4 A14.out).mono ?_); (case side1 => repeat (first | exact (Kd.R_reads' HO220.out).2.2 | (with_reducible refine Kd.C_alloc ?_ _) | (with_reducible refine Kd.C_drewN ?_ _) | (with_reducible refine Kd.C_drew ?_))); (case side2 => exact (Kd.R_reads' HO220.out).2.1); (case side3 => repeat (first | exact (Kd.R_reads' HO210.out).2.2 | (with_reducible refine Kd.C_alloc ?_ _) | (with_reducible refine Kd.C_drewN ?_ _) | (with_reducible refine Kd.C_drew ?_))); (case side4 => exact (Kd.R_reads' HO210.out).2.1); rintro e w40 ⟨rfl, hb⟩; have n0_ := Aside0.mk (Kd.R_below (by (with_reducible repeat (first | apply Kd.R_alloc | apply Kd.R_drewN | apply Kd.R_drew)); exact HO210.out) hb); have n1_ := Aside0.mk (Kd.R_below (by (with_reducible repeat (first | apply Kd.R_alloc | apply Kd.R_drewN | apply Kd.R_drew)); exact HO213.out) hb); have n2_ := Aside0.mk (Kd.R_below (by (with_reducible repeat (first | apply Kd.R_alloc | apply Kd.R_drewN | apply Kd.R_drew)); exact HO216.out) hb); have n3_ := Aside0.mk (Kd.R_below (by (with_reducible repeat (first | apply Kd.R_alloc | apply Kd.R_drewN | apply Kd.R_drew)); exact HO220.out) hb); have n4_ := Aside0.mk (below_step (by repeat (first | (with_reducible first | exact HB.out | apply below_alloc | apply pw_below_drewN | apply below_drew1) | exact HB.out)) hb); clear HO210; clear HO213; clear HO216; clear HO220; clear HB; have HO210 := n0_; have HO213 := n1_; have HO216 := n2_; have HO220 := n3_; have HB := n4_; clear n0_ n1_ n2_ n3_ n4_; (try clear hb); (try clear hb2); (try clear hk); (try clear hi)) | (go_at_call 16; (with_reducible refine (order_Top.calls _ _ l0 a1 t222 _ ?side1 ?side2 A16.out).mono ?_); (case side1 => repeat (first | exact (Kd.C_below HR0.out HB.out) | (with_reducible refine Kd.C_alloc ?_ _) | (with_reducible refine Kd.C_drewN ?_ _) | (with_reducible refine Kd.C_drew ?_))); (case side2 => exact HC0.out); rintro e w41 ⟨rfl, hb⟩; have n0_ := Aside0.mk (Kd.R_below (by (with_reducible repeat (first | apply Kd.R_alloc | apply Kd.R_drewN | apply Kd.R_drew)); exact HO210.out) hb); have n1_ := Aside0.mk (Kd.R_below (by (with_reducible repeat (first | apply Kd.R_alloc | apply Kd.R_drewN | apply Kd.R_drew)); exact HO213.out) hb); have n2_ := Aside0.mk (Kd.R_below (by (with_reducible repeat (first | apply Kd.R_alloc | apply Kd.R_drewN | apply Kd.R_drew)); exact HO216.out) hb); have n3_ := Aside0.mk (Kd.R_below (by (with_reducible repeat (first | apply Kd.R_alloc | apply Kd.R_drewN | apply Kd.R_drew)); exact HO220.out) hb); have n4_ := Aside0.mk (below_step (by repeat (first | (with_reducible first | exact HB.out | apply below_alloc | apply pw_below_drewN | apply below_drew1) | exact HB.out)) hb); clear HO210; clear HO213; clear HO216; clear HO220; clear HB; have HO210 := n0_; have HO213 := n1_; have HO216 := n2_; have HO220 := n3_; have HB := n4_; clear n0_ n1_ n2_ n3_ n4_; (try clear hb); (try clear hb2); (try clear hk); (try clear hi)) | (go_at_call 20; (with_reducible refine (limelightref03_Top.calls k _ _ l0 a1 t223 _ ?side1 ?side2 A17.out).mono ?_); (case side1 => repeat (first | exact (Kd.C_below HR0.out HB.out) | (with_reducible refine Kd.C_alloc ?_ _) | (with_reducible refine Kd.C_drewN ?_ _) | (with_reducible refine Kd.C_drew ?_))); (case side2 => exact HC0.out); rintro e w42 ⟨rfl, hb⟩; have n0_ := Aside0.mk (Kd.R_below (by (with_reducible repeat (first | apply Kd.R_alloc | apply Kd.R_drewN | apply Kd.R_drew)); exact HO210.out) hb); have n1_ := Aside0.mk (Kd.R_below (by (with_reducible repeat (first | apply Kd.R_alloc | apply Kd.R_drewN | apply Kd.R_drew)); exact HO213.out) hb); have n2_ := Aside0.mk (Kd.R_below (by (with_reducible repeat (first | apply Kd.R_alloc | apply Kd.R_drewN | apply Kd.R_drew)); exact HO216.out) hb); have n3_ := Aside0.mk (Kd.R_below (by (with_reducible repeat (first | apply Kd.R_alloc | apply Kd.R_drewN | apply Kd.R_drew)); exact HO220.out) hb); have n4_ := Aside0.mk (below_step (by repeat (first | (with_reducible first | exact HB.out | apply below_alloc | apply pw_below_drewN | apply below_drew1) | exact HB.out)) hb); clear HO210; clear HO213; clear HO216; clear HO220; clear HB; have HO210 := n0_; have HO213 := n1_; have HO216 := n2_; have HO220 := n3_; have HB := n4_; clear n0_ n1_ n2_ n3_ n4_; (try clear hb); (try clear hb2); (try clear hk); (try clear hi)) | (go_at_call 11; (with_reducible refine (order_Above.calls k _ _ l0 a1 a2 t224 _ ?side1 ?side2 A19.out).mono ?_); (case side1 => repeat (first | exact (Kd.C_below HR0.out HB.out) | (with_reducible refine Kd.C_alloc ?_ _) | (with_reducible refine Kd.C_drewN ?_ _) | (with_reducible refine Kd.C_drew ?_))); (case side2 => exact HC0.out); rintro e w43 ⟨rfl, hb⟩; have n0_ := Aside0.mk (Kd.R_below (by (with_reducible repeat (first | apply Kd.R_alloc | apply Kd.R_drewN | apply Kd.R_drew)); exact HO210.out) hb); have n1_ := Aside0.mk (Kd.R_below (by (with_reducible repeat (first | apply Kd.R_alloc | apply Kd.R_drewN | apply Kd.R_drew)); exact HO213.out) hb); have n2_ := Aside0.mk (Kd.R_below (by (with_reducible repeat (first | apply Kd.R_alloc | apply Kd.R_drewN | apply Kd.R_drew)); exact HO216.out) hb); have n3_ := Aside0.mk (Kd.R_below (by (with_reducible repeat (first | apply Kd.R_alloc | apply Kd.R_drewN | apply Kd.R_drew)); exact HO220.out) hb); have n4_ := Aside0.mk (below_step (by repeat (first | (with_reducible first | exact HB.out | apply below_alloc | apply pw_below_drewN | apply below_drew1) | exact HB.out)) hb); clear HO210; clear HO213; clear HO216; clear HO220; clear HB; have HO210 := n0_; have HO213 := n1_; have HO216 := n2_; have HO220 := n3_; have HB := n4_; clear n0_ n1_ n2_ n3_ n4_; (try clear hb); (try clear hb2); (try clear hk); (try clear hi)) | (go_at_call 21; (with_reducible refine (limelightref03_In.calls k _ _ t208 a1 t225 _ ?side1 ?side2 A20.out).mono ?_); (case side1 => repeat (first | exact (Kd.R_reads' HO210.out).2.2 | (with_reducible refine Kd.C_alloc ?_ _) | (with_reducible refine Kd.C_drewN ?_ _) | (with_reducible refine Kd.C_drew ?_))); (case side2 => exact (Kd.R_reads' HO210.out).2.1); rintro e w' ⟨rfl, ⟨nd, rfl⟩⟩) | (go_at_call 12; (with_reducible refine (order_Before.calls _ _ l0 a1 a2 t226 _ ?side1 ?side2 A22.out).mono ?_); (case side1 => repeat (first | exact (Kd.C_below HR0.out (by repeat (first | (with_reducible first | exact HB.out | apply below_alloc | apply pw_below_drewN | apply below_drew1) | exact HB.out))) | (with_reducible refine Kd.C_alloc ?_ _) | (with_reducible refine Kd.C_drewN ?_ _) | (with_reducible refine Kd.C_drew ?_))); (case side2 => exact HC0.out); rintro e w44 ⟨rfl, hb⟩; have n0_ := Aside0.mk (Kd.R_below (by (with_reducible repeat (first | apply Kd.R_alloc | apply Kd.R_drewN | apply Kd.R_drew)); exact HO210.out) hb); have n1_ := Aside0.mk (Kd.R_below (by (with_reducible repeat (first | apply Kd.R_alloc | apply Kd.R_drewN | apply Kd.R_drew)); exact HO213.out) hb); have n2_ := Aside0.mk (Kd.R_below (by (with_reducible repeat (first | apply Kd.R_alloc | apply Kd.R_drewN | apply Kd.R_drew)); exact HO216.out) hb); have n3_ := Aside0.mk (Kd.R_below (by (with_reducible repeat (first | apply Kd.R_alloc | apply Kd.R_drewN | apply Kd.R_drew)); exact HO220.out) hb); have n4_ := Aside0.mk (below_step (by repeat (first | (with_reducible first | exact HB.out | apply below_alloc | apply pw_below_drewN | apply below_drew1) | exact HB.out)) hb); clear HO210; clear HO213; clear HO216; clear HO220; clear HB; have HO210 := n0_; have HO213 := n1_; have HO216 := n2_; have HO220 := n3_; have HB := n4_; clear n0_ n1_ n2_ n3_ n4_; (try clear hb); (try clear hb2); (try clear hk); (try clear hi)) | (go_at_call 22; (with_reducible refine (limelightref03_Before.calls k _ _ l0 a1 a2 t227 _ ?side1 ?side2 A23.out).mono ?_); (case side1 => repeat (first | exact (Kd.C_below HR0.out HB.out) | (with_reducible refine Kd.C_alloc ?_ _) | (with_reducible refine Kd.C_drewN ?_ _) | (with_reducible refine Kd.C_drew ?_))); (case side2 => exact HC0.out); rintro e w45 ⟨rfl, hb⟩; have n0_ := Aside0.mk (Kd.R_below (by (with_reducible repeat (first | apply Kd.R_alloc | apply Kd.R_drewN | apply Kd.R_drew)); exact HO210.out) hb); have n1_ := Aside0.mk (Kd.R_below (by (with_reducible repeat (first | apply Kd.R_alloc | apply Kd.R_drewN | apply Kd.R_drew)); exact HO213.out) hb); have n2_ := Aside0.mk (Kd.R_below (by (with_reducible repeat (first | apply Kd.R_alloc | apply Kd.R_drewN | apply Kd.R_drew)); exact HO216.out) hb); have n3_ := Aside0.mk (Kd.R_below (by (with_reducible repeat (first | apply Kd.R_alloc | apply Kd.R_drewN | apply Kd.R_drew)); exact HO220.out) hb); have n4_ := Aside0.mk (below_step (by repeat (first | (with_reducible first | exact HB.out | apply below_alloc | apply pw_below_drewN | apply below_drew1) | exact HB.out)) hb); clear HO210; clear HO213; clear HO216; clear HO220; clear HB; have HO210 := n0_; have HO213 := n1_; have HO216 := n2_; have HO220 := n3_; have HB := n4_; clear n0_ n1_ n2_ n3_ n4_; (try clear hb); (try clear hb2); (try clear hk); (try clear hi)) | (go_at_call 13; (with_reducible refine (order_Common.calls k _ _ l0 a1 a2 t228 _ ?side1 ?side2 A25.out).mono ?_); (case side1 => repeat (first | exact (Kd.C_below HR0.out HB.out) | (with_reducible refine Kd.C_alloc ?_ _) | (with_reducible refine Kd.C_drewN ?_ _) | (with_reducible refine Kd.C_drew ?_))); (case side2 => exact HC0.out); rintro e w46 ⟨rfl, hb⟩; have n0_ := Aside0.mk (Kd.R_below (by (with_reducible repeat (first | apply Kd.R_alloc | apply Kd.R_drewN | apply Kd.R_drew)); exact HO210.out) hb); have n1_ := Aside0.mk (Kd.R_below (by (with_reducible repeat (first | apply Kd.R_alloc | apply Kd.R_drewN | apply Kd.R_drew)); exact HO213.out) hb); have n2_ := Aside0.mk (Kd.R_below (by (with_reducible repeat (first | apply Kd.R_alloc | apply Kd.R_drewN | apply Kd.R_drew)); exact HO216.out) hb); have n3_ := Aside0.mk (Kd.R_below (by (with_reducible repeat (first | apply Kd.R_alloc | apply Kd.R_drewN | apply Kd.R_drew)); exact HO220.out) hb); have n4_ := Aside0.mk (below_step (by repeat (first | (with_reducible first | exact HB.out | apply below_alloc | apply pw_below_drewN | apply below_drew1) | exact HB.out)) hb); clear HO210; clear HO213; clear HO216; clear HO220; clear HB; have HO210 := n0_; have HO213 := n1_; have HO216 := n2_; have HO220 := n3_; have HB := n4_; clear n0_ n1_ n2_ n3_ n4_; (try clear hb); (try clear hb2); (try clear hk); (try clear hi)) | (go_at_call 23; (with_reducible refine (limelightref03_Common.calls k _ _ l0 a1 a2 t229 _ ?side1 ?side2 A26.out).mono ?_); (case side1 => repeat (first | exact (Kd.C_below HR0.out HB.out) | (with_reducible refine Kd.C_alloc ?_ _) | (with_reducible refine Kd.C_drewN ?_ _) | (with_reducible refine Kd.C_drew ?_))); (case side2 => exact HC0.out); rintro e w47 ⟨rfl, hb⟩; have n0_ := Aside0.mk (Kd.R_below (by (with_reducible repeat (first | apply Kd.R_alloc | apply Kd.R_drewN | apply Kd.R_drew)); exact HO210.out) hb); have n1_ := Aside0.mk (Kd.R_below (by (with_reducible repeat (first | apply Kd.R_alloc | apply Kd.R_drewN | apply Kd.R_drew)); exact HO213.out) hb); have n2_ := Aside0.mk (Kd.R_below (by (with_reducible repeat (first | apply Kd.R_alloc | apply Kd.R_drewN | apply Kd.R_drew)); exact HO216.out) hb); have n3_ := Aside0.mk (Kd.R_below (by (with_reducible repeat (first | apply Kd.R_alloc | apply Kd.R_drewN | apply Kd.R_drew)); exact HO220.out) hb); have n4_ := Aside0.mk (below_step (by repeat (first | (with_reducible first | exact HB.out | apply below_alloc | apply pw_below_drewN | apply below_drew1) | exact HB.out)) hb); clear HO210; clear HO213; clear HO216; clear HO220; clear HB; have HO210 := n0_; have HO213 := n1_; have HO216 := n2_; have HO220 := n3_; have HB := n4_; clear n0_ n1_ n2_ n3_ n4_; (try clear hb); (try clear hb2); (try clear hk); (try clear hi)) | (go_at_call 9; (with_reducible refine (limelightlaw03_live.calls k  t230 _ A28.out).mono ?_); rintro e w48 ⟨rfl, hb⟩; have n0_ := Aside0.mk (Kd.R_below (by (with_reducible repeat (first | apply Kd.R_alloc | apply Kd.R_drewN | apply Kd.R_drew)); exact HO210.out) hb); have n1_ := Aside0.mk (Kd.R_below (by (with_reducible repeat (first | apply Kd.R_alloc | apply Kd.R_drewN | apply Kd.R_drew)); exact HO213.out) hb); have n2_ := Aside0.mk (Kd.R_below (by (with_reducible repeat (first | apply Kd.R_alloc | apply Kd.R_drewN | apply Kd.R_drew)); exact HO216.out) hb); have n3_ := Aside0.mk (Kd.R_below (by (with_reducible repeat (first | apply Kd.R_alloc | apply Kd.R_drewN | apply Kd.R_drew)); exact HO220.out) hb); have n4_ := Aside0.mk (below_step (by repeat (first | (with_reducible first | exact HB.out | apply below_alloc | apply pw_below_drewN | apply below_drew1) | exact HB.out)) hb); clear HO210; clear HO213; clear HO216; clear HO220; clear HB; have HO210 := n0_; have HO213 := n1_; have HO216 := n2_; have HO220 := n3_; have HB := n4_; clear n0_ n1_ n2_ n3_ n4_; (try clear hb); (try clear hb2); (try clear hk); (try clear hi)))
                  go_ret
                  exact ⟨by first | rfl | (simp [errW_none, errW_some] <;> rfl) | (simp [*, errW_none, errW_some] <;> rfl), by repeat (first | (with_reducible first | exact HB.out | apply below_alloc | apply pw_below_drewN | apply below_drew1) | exact HB.out)⟩
                · rw [if_neg c27] at H
                  exact absurd H (by simp)
              · rw [if_neg c24] at H
                exact absurd H (by simp)
            · rw [if_neg c21] at H
              exact absurd H (by simp)
          · rw [if_neg c18] at H
            exact absurd H (by simp)
        · replace c15 := Bool.eq_false_iff.mpr c15
          subst c15
          have H1 : (none) = some r := by rw [if_neg (show ¬ (false = true) by decide)] at H; exact H
          clear H
          have H := H1
          clear H1
          exact absurd H (by simp)
      · replace c12 := Bool.eq_false_iff.mpr c12
        subst c12
        have H1 : (none) = some r := by rw [if_neg (show ¬ (false = true) by decide)] at H; exact H
        clear H
        have H := H1
        clear H1
        exact absurd H (by simp)
    · replace c7 := Bool.eq_false_iff.mpr c7
      subst c7
      have H1 : ((order_Above.f k l0 a1 a2).bind fun t195 => (if t195 = true then (none) else ((order_Before.f l0 a1 a2).bind fun t196 => (if t196 = true then (none) else ((order_Common.f k l0 a1 a2).bind fun t197 => (if t197 = (-1) then ((limelightref03_Both.f l0 a1 a1).bind fun t198 => (if t198 = true then ((limelightlaw03_live.f k).bind fun t199 => (some t199)) else ((order_List.f l0 a1).bind fun t200 => (if (t200.length : Int) = 0 then ((order_Up.f l0 a1).bind fun t203 => (if (t203.length : Int) = 0 then ((order_Top.f l0 a1).bind fun t206 => (if t206 = (-1) then ((limelightlaw03_live.f k).bind fun t207 => (some t207)) else (none))) else (none))) else (none))))) else (none))))))) = some r := by rw [if_neg (show ¬ (false = true) by decide)] at H; exact H
      clear H
      have H := H1
      clear H1
      replace H := Option.bind_eq_some_iff.mp H
      obtain ⟨t195, A490, H⟩ := H
      replace H : (if t195 = true then (none) else ((order_Before.f l0 a1 a2).bind fun t196 => (if t196 = true then (none) else ((order_Common.f k l0 a1 a2).bind fun t197 => (if t197 = (-1) then ((limelightref03_Both.f l0 a1 a1).bind fun t198 => (if t198 = true then ((limelightlaw03_live.f k).bind fun t199 => (some t199)) else ((order_List.f l0 a1).bind fun t200 => (if (t200.length : Int) = 0 then ((order_Up.f l0 a1).bind fun t203 => (if (t203.length : Int) = 0 then ((order_Top.f l0 a1).bind fun t206 => (if t206 = (-1) then ((limelightlaw03_live.f k).bind fun t207 => (some t207)) else (none))) else (none))) else (none))))) else (none)))))) = some r := H
      have A49 := Aside0.mk A490
      clear A490
      by_cases c50 : t195 = true
      · subst c50
        have H1 : (none) = some r := by rw [if_pos rfl] at H; exact H
        clear H
        have H := H1
        clear H1
        exact absurd H (by simp)
      · replace c50 := Bool.eq_false_iff.mpr c50
        subst c50
        have H1 : ((order_Before.f l0 a1 a2).bind fun t196 => (if t196 = true then (none) else ((order_Common.f k l0 a1 a2).bind fun t197 => (if t197 = (-1) then ((limelightref03_Both.f l0 a1 a1).bind fun t198 => (if t198 = true then ((limelightlaw03_live.f k).bind fun t199 => (some t199)) else ((order_List.f l0 a1).bind fun t200 => (if (t200.length : Int) = 0 then ((order_Up.f l0 a1).bind fun t203 => (if (t203.length : Int) = 0 then ((order_Top.f l0 a1).bind fun t206 => (if t206 = (-1) then ((limelightlaw03_live.f k).bind fun t207 => (some t207)) else (none))) else (none))) else (none))))) else (none))))) = some r := by rw [if_neg (show ¬ (false = true) by decide)] at H; exact H
        clear H
        have H := H1
        clear H1
        replace H := Option.bind_eq_some_iff.mp H
        obtain ⟨t196, A510, H⟩ := H
        replace H : (if t196 = true then (none) else ((order_Common.f k l0 a1 a2).bind fun t197 => (if t197 = (-1) then ((limelightref03_Both.f l0 a1 a1).bind fun t198 => (if t198 = true then ((limelightlaw03_live.f k).bind fun t199 => (some t199)) else ((order_List.f l0 a1).bind fun t200 => (if (t200.length : Int) = 0 then ((order_Up.f l0 a1).bind fun t203 => (if (t203.length : Int) = 0 then ((order_Top.f l0 a1).bind fun t206 => (if t206 = (-1) then ((limelightlaw03_live.f k).bind fun t207 => (some t207)) else (none))) else (none))) else (none))))) else (none)))) = some r := H
        have A51 := Aside0.mk A510
        clear A510
        by_cases c52 : t196 = true
        · subst c52
          have H1 : (none) = some r := by rw [if_pos rfl] at H; exact H
          clear H
          have H := H1
          clear H1
          exact absurd H (by simp)
        · replace c52 := Bool.eq_false_iff.mpr c52
          subst c52
          have H1 : ((order_Common.f k l0 a1 a2).bind fun t197 => (if t197 = (-1) then ((limelightref03_Both.f l0 a1 a1).bind fun t198 => (if t198 = true then ((limelightlaw03_live.f k).bind fun t199 => (some t199)) else ((order_List.f l0 a1).bind fun t200 => (if (t200.length : Int) = 0 then ((order_Up.f l0 a1).bind fun t203 => (if (t203.length : Int) = 0 then ((order_Top.f l0 a1).bind fun t206 => (if t206 = (-1) then ((limelightlaw03_live.f k).bind fun t207 => (some t207)) else (none))) else (none))) else (none))))) else (none))) = some r := by rw [if_neg (show ¬ (false = true) by decide)] at H; exact H
          clear H
          have H := H1
          clear H1
          replace H := Option.bind_eq_some_iff.mp H
          obtain ⟨t197, A530, H⟩ := H
          replace H : (if t197 = (-1) then ((limelightref03_Both.f l0 a1 a1).bind fun t198 => (if t198 = true then ((limelightlaw03_live.f k).bind fun t199 => (some t199)) else ((order_List.f l0 a1).bind fun t200 => (if (t200.length : Int) = 0 then ((order_Up.f l0 a1).bind fun t203 => (if (t203.length : Int) = 0 then ((order_Top.f l0 a1).bind fun t206 => (if t206 = (-1) then ((limelightlaw03_live.f k).bind fun t207 => (some t207)) else (none))) else (none))) else (none))))) else (none)) = some r := H
          have A53 := Aside0.mk A530
          clear A530
          by_cases c54 : t197 = (-1)
          · rw [if_pos c54] at H
            have c54b0 : (t197 == (-1)) = true := beq_iff_eq.mpr c54
            have c54b1 : (t197 != (-1)) = false := bne_eq_false_iff_eq.mpr c54
            clear c54
            replace H := Option.bind_eq_some_iff.mp H
            obtain ⟨t198, A550, H⟩ := H
            replace H : (if t198 = true then ((limelightlaw03_live.f k).bind fun t199 => (some t199)) else ((order_List.f l0 a1).bind fun t200 => (if (t200.length : Int) = 0 then ((order_Up.f l0 a1).bind fun t203 => (if (t203.length : Int) = 0 then ((order_Top.f l0 a1).bind fun t206 => (if t206 = (-1) then ((limelightlaw03_live.f k).bind fun t207 => (some t207)) else (none))) else (none))) else (none)))) = some r := H
            have A55 := Aside0.mk A550
            clear A550
            by_cases c56 : t198 = true
            · subst c56
              have H1 : ((limelightlaw03_live.f k).bind fun t199 => (some t199)) = some r := by rw [if_pos rfl] at H; exact H
              clear H
              have H := H1
              clear H1
              replace H := Option.bind_eq_some_iff.mp H
              obtain ⟨t199, A570, H⟩ := H
              replace H : (some t199) = some r := H
              have A57 := Aside0.mk A570
              clear A570
              obtain rfl := Option.some.inj H
              go_enter Try.func3, Try.ntmps3
              go_wp2_with (first | ((with_reducible refine gate_callee (f := 8) rfl ?_); refine goesL_ (some 9) rfl rfl Try.func8 (by kernel_rfl) rfl #[.slice A0 l0.length c0] rfl (by (try simp only [List.map_toArray, List.map_cons, List.map_nil]); first | done | rfl | (simp only [List.length_drop, List.length_take]; rfl)) ?_; (with_reducible refine (limelightref01_Small.calls _ _ l0 true _ ?side1 ?side2 A4.out).mono ?_); (case side1 => repeat (first | exact HR0.out | (with_reducible refine Kd.C_alloc ?_ _) | (with_reducible refine Kd.C_drewN ?_ _) | (with_reducible refine Kd.C_drew ?_))); (case side2 => exact HC0.out); rintro e w58 ⟨rfl, hb⟩; refine ⟨_, rfl, ?_⟩; have n0_ := Aside0.mk (below_step (by repeat (first | (with_reducible first | exact HB.out | apply below_alloc | apply pw_below_drewN | apply below_drew1) | exact HB.out)) hb); clear HB; have HB := n0_; clear n0_; (try clear hb); (try clear hb2); (try clear hk); (try clear hi)) | ((with_reducible refine gate_callee (f := 10) rfl ?_); refine goesL_ (some 15) rfl rfl Try.func10 (by kernel_rfl) rfl #[.slice A0 l0.length c0, .int .i64 a1, .int .i64 a2] rfl (by (try simp only [List.map_toArray, List.map_cons, List.map_nil]); first | done | rfl | (simp only [List.length_drop, List.length_take]; rfl)) ?_; (with_reducible refine (limelightref03_Both.calls _ _ l0 a1 a2 false _ ?side1 ?side2 A6.out).mono ?_); (case side1 => repeat (first | exact (Kd.C_below HR0.out HB.out) | (with_reducible refine Kd.C_alloc ?_ _) | (with_reducible refine Kd.C_drewN ?_ _) | (with_reducible refine Kd.C_drew ?_))); (case side2 => exact HC0.out); rintro e w59 ⟨rfl, hb⟩; refine ⟨_, rfl, ?_⟩; have n0_ := Aside0.mk (below_step (by repeat (first | (with_reducible first | exact HB.out | apply below_alloc | apply pw_below_drewN | apply below_drew1) | exact HB.out)) hb); clear HB; have HB := n0_; clear n0_; (try clear hb); (try clear hb2); (try clear hk); (try clear hi)) | ((with_reducible refine gate_callee (f := 11) rfl ?_); refine goesL_ (some 20) rfl rfl Try.func11 (by kernel_rfl) rfl #[.slice A0 l0.length c0, .int .i64 a1, .int .i64 a2] rfl (by (try simp only [List.map_toArray, List.map_cons, List.map_nil]); first | done | rfl | (simp only [List.length_drop, List.length_take]; rfl)) ?_; (with_reducible refine (order_Above.calls k _ _ l0 a1 a2 false _ ?side1 ?side2 A49.out).mono ?_); (case side1 => repeat (first | exact (Kd.C_below HR0.out HB.out) | (with_reducible refine Kd.C_alloc ?_ _) | (with_reducible refine Kd.C_drewN ?_ _) | (with_reducible refine Kd.C_drew ?_))); (case side2 => exact HC0.out); rintro e w60 ⟨rfl, hb⟩; refine ⟨_, rfl, ?_⟩; have n0_ := Aside0.mk (below_step (by repeat (first | (with_reducible first | exact HB.out | apply below_alloc | apply pw_below_drewN | apply below_drew1) | exact HB.out)) hb); clear HB; have HB := n0_; clear n0_; (try clear hb); (try clear hb2); (try clear hk); (try clear hi)) | (go_at_call 12; (with_reducible refine (order_Before.calls _ _ l0 a1 a2 false _ ?side1 ?side2 A51.out).mono ?_); (case side1 => repeat (first | exact (Kd.C_below HR0.out HB.out) | (with_reducible refine Kd.C_alloc ?_ _) | (with_reducible refine Kd.C_drewN ?_ _) | (with_reducible refine Kd.C_drew ?_))); (case side2 => exact HC0.out); rintro e w61 ⟨rfl, hb⟩; have n0_ := Aside0.mk (below_step (by repeat (first | (with_reducible first | exact HB.out | apply below_alloc | apply pw_below_drewN | apply below_drew1) | exact HB.out)) hb); clear HB; have HB := n0_; clear n0_; (try clear hb); (try clear hb2); (try clear hk); (try clear hi)) | (go_at_call 13; (with_reducible refine (order_Common.calls k _ _ l0 a1 a2 t197 _ ?side1 ?side2 A53.out).mono ?_); (case side1 => repeat (first | exact (Kd.C_below HR0.out HB.out) | (with_reducible refine Kd.C_alloc ?_ _) | (with_reducible refine Kd.C_drewN ?_ _) | (with_reducible refine Kd.C_drew ?_))); (case side2 => exact HC0.out); rintro e w62 ⟨rfl, hb⟩; have n0_ := Aside0.mk (below_step (by repeat (first | (with_reducible first | exact HB.out | apply below_alloc | apply pw_below_drewN | apply below_drew1) | exact HB.out)) hb); clear HB; have HB := n0_; clear n0_; (try clear hb); (try clear hb2); (try clear hk); (try clear hi)) | (go_at_call 10; (with_reducible refine (limelightref03_Both.calls _ _ l0 a1 a1 true _ ?side1 ?side2 A55.out).mono ?_); (case side1 => repeat (first | exact (Kd.C_below HR0.out HB.out) | (with_reducible refine Kd.C_alloc ?_ _) | (with_reducible refine Kd.C_drewN ?_ _) | (with_reducible refine Kd.C_drew ?_))); (case side2 => exact HC0.out); rintro e w63 ⟨rfl, hb⟩; have n0_ := Aside0.mk (below_step (by repeat (first | (with_reducible first | exact HB.out | apply below_alloc | apply pw_below_drewN | apply below_drew1) | exact HB.out)) hb); clear HB; have HB := n0_; clear n0_; (try clear hb); (try clear hb2); (try clear hk); (try clear hi)) | (go_at_call 9; (with_reducible refine (limelightlaw03_live.calls k  t199 _ A57.out).mono ?_); rintro e w64 ⟨rfl, hb⟩; have n0_ := Aside0.mk (below_step (by repeat (first | (with_reducible first | exact HB.out | apply below_alloc | apply pw_below_drewN | apply below_drew1) | exact HB.out)) hb); clear HB; have HB := n0_; clear n0_; (try clear hb); (try clear hb2); (try clear hk); (try clear hi)))
              go_ret
              exact ⟨by first | rfl | (simp [errW_none, errW_some] <;> rfl) | (simp [*, errW_none, errW_some] <;> rfl), by repeat (first | (with_reducible first | exact HB.out | apply below_alloc | apply pw_below_drewN | apply below_drew1) | exact HB.out)⟩
            · replace c56 := Bool.eq_false_iff.mpr c56
              subst c56
              have H1 : ((order_List.f l0 a1).bind fun t200 => (if (t200.length : Int) = 0 then ((order_Up.f l0 a1).bind fun t203 => (if (t203.length : Int) = 0 then ((order_Top.f l0 a1).bind fun t206 => (if t206 = (-1) then ((limelightlaw03_live.f k).bind fun t207 => (some t207)) else (none))) else (none))) else (none))) = some r := by rw [if_neg (show ¬ (false = true) by decide)] at H; exact H
              clear H
              have H := H1
              clear H1
              replace H := Option.bind_eq_some_iff.mp H
              obtain ⟨t200, A650, H⟩ := H
              replace H : (if (t200.length : Int) = 0 then ((order_Up.f l0 a1).bind fun t203 => (if (t203.length : Int) = 0 then ((order_Top.f l0 a1).bind fun t206 => (if t206 = (-1) then ((limelightlaw03_live.f k).bind fun t207 => (some t207)) else (none))) else (none))) else (none)) = some r := H
              have A65 := Aside0.mk A650
              clear A650
              by_cases c66 : (t200.length : Int) = 0
              · rw [if_pos c66] at H
                have c66b0 : ((t200.length : Int) == 0) = true := beq_iff_eq.mpr c66
                have c66b1 : ((t200.length : Int) != 0) = false := bne_eq_false_iff_eq.mpr c66
                clear c66
                replace H := Option.bind_eq_some_iff.mp H
                obtain ⟨t203, A670, H⟩ := H
                replace H : (if (t203.length : Int) = 0 then ((order_Top.f l0 a1).bind fun t206 => (if t206 = (-1) then ((limelightlaw03_live.f k).bind fun t207 => (some t207)) else (none))) else (none)) = some r := H
                have A67 := Aside0.mk A670
                clear A670
                by_cases c68 : (t203.length : Int) = 0
                · rw [if_pos c68] at H
                  have c68b0 : ((t203.length : Int) == 0) = true := beq_iff_eq.mpr c68
                  have c68b1 : ((t203.length : Int) != 0) = false := bne_eq_false_iff_eq.mpr c68
                  clear c68
                  replace H := Option.bind_eq_some_iff.mp H
                  obtain ⟨t206, A690, H⟩ := H
                  replace H : (if t206 = (-1) then ((limelightlaw03_live.f k).bind fun t207 => (some t207)) else (none)) = some r := H
                  have A69 := Aside0.mk A690
                  clear A690
                  by_cases c70 : t206 = (-1)
                  · rw [if_pos c70] at H
                    have c70b0 : (t206 == (-1)) = true := beq_iff_eq.mpr c70
                    have c70b1 : (t206 != (-1)) = false := bne_eq_false_iff_eq.mpr c70
                    clear c70
                    replace H := Option.bind_eq_some_iff.mp H
                    obtain ⟨t207, A710, H⟩ := H
                    replace H : (some t207) = some r := H
                    have A71 := Aside0.mk A710
                    clear A710
                    obtain rfl := Option.some.inj H
                    go_enter Try.func3, Try.ntmps3
                    go_wp2_with (first | ((with_reducible refine gate_callee (f := 8) rfl ?_); refine goesL_ (some 9) rfl rfl Try.func8 (by kernel_rfl) rfl #[.slice A0 l0.length c0] rfl (by (try simp only [List.map_toArray, List.map_cons, List.map_nil]); first | done | rfl | (simp only [List.length_drop, List.length_take]; rfl)) ?_; (with_reducible refine (limelightref01_Small.calls _ _ l0 true _ ?side1 ?side2 A4.out).mono ?_); (case side1 => repeat (first | exact HR0.out | (with_reducible refine Kd.C_alloc ?_ _) | (with_reducible refine Kd.C_drewN ?_ _) | (with_reducible refine Kd.C_drew ?_))); (case side2 => exact HC0.out); rintro e w72 ⟨rfl, hb⟩; refine ⟨_, rfl, ?_⟩; have n0_ := Aside0.mk (below_step (by repeat (first | (with_reducible first | exact HB.out | apply below_alloc | apply pw_below_drewN | apply below_drew1) | exact HB.out)) hb); clear HB; have HB := n0_; clear n0_; (try clear hb); (try clear hb2); (try clear hk); (try clear hi)) | ((with_reducible refine gate_callee (f := 10) rfl ?_); refine goesL_ (some 15) rfl rfl Try.func10 (by kernel_rfl) rfl #[.slice A0 l0.length c0, .int .i64 a1, .int .i64 a2] rfl (by (try simp only [List.map_toArray, List.map_cons, List.map_nil]); first | done | rfl | (simp only [List.length_drop, List.length_take]; rfl)) ?_; (with_reducible refine (limelightref03_Both.calls _ _ l0 a1 a2 false _ ?side1 ?side2 A6.out).mono ?_); (case side1 => repeat (first | exact (Kd.C_below HR0.out HB.out) | (with_reducible refine Kd.C_alloc ?_ _) | (with_reducible refine Kd.C_drewN ?_ _) | (with_reducible refine Kd.C_drew ?_))); (case side2 => exact HC0.out); rintro e w73 ⟨rfl, hb⟩; refine ⟨_, rfl, ?_⟩; have n0_ := Aside0.mk (below_step (by repeat (first | (with_reducible first | exact HB.out | apply below_alloc | apply pw_below_drewN | apply below_drew1) | exact HB.out)) hb); clear HB; have HB := n0_; clear n0_; (try clear hb); (try clear hb2); (try clear hk); (try clear hi)) | ((with_reducible refine gate_callee (f := 11) rfl ?_); refine goesL_ (some 20) rfl rfl Try.func11 (by kernel_rfl) rfl #[.slice A0 l0.length c0, .int .i64 a1, .int .i64 a2] rfl (by (try simp only [List.map_toArray, List.map_cons, List.map_nil]); first | done | rfl | (simp only [List.length_drop, List.length_take]; rfl)) ?_; (with_reducible refine (order_Above.calls k _ _ l0 a1 a2 false _ ?side1 ?side2 A49.out).mono ?_); (case side1 => repeat (first | exact (Kd.C_below HR0.out HB.out) | (with_reducible refine Kd.C_alloc ?_ _) | (with_reducible refine Kd.C_drewN ?_ _) | (with_reducible refine Kd.C_drew ?_))); (case side2 => exact HC0.out); rintro e w74 ⟨rfl, hb⟩; refine ⟨_, rfl, ?_⟩; have n0_ := Aside0.mk (below_step (by repeat (first | (with_reducible first | exact HB.out | apply below_alloc | apply pw_below_drewN | apply below_drew1) | exact HB.out)) hb); clear HB; have HB := n0_; clear n0_; (try clear hb); (try clear hb2); (try clear hk); (try clear hi)) | (go_at_call 12; (with_reducible refine (order_Before.calls _ _ l0 a1 a2 false _ ?side1 ?side2 A51.out).mono ?_); (case side1 => repeat (first | exact (Kd.C_below HR0.out HB.out) | (with_reducible refine Kd.C_alloc ?_ _) | (with_reducible refine Kd.C_drewN ?_ _) | (with_reducible refine Kd.C_drew ?_))); (case side2 => exact HC0.out); rintro e w75 ⟨rfl, hb⟩; have n0_ := Aside0.mk (below_step (by repeat (first | (with_reducible first | exact HB.out | apply below_alloc | apply pw_below_drewN | apply below_drew1) | exact HB.out)) hb); clear HB; have HB := n0_; clear n0_; (try clear hb); (try clear hb2); (try clear hk); (try clear hi)) | (go_at_call 13; (with_reducible refine (order_Common.calls k _ _ l0 a1 a2 t197 _ ?side1 ?side2 A53.out).mono ?_); (case side1 => repeat (first | exact (Kd.C_below HR0.out HB.out) | (with_reducible refine Kd.C_alloc ?_ _) | (with_reducible refine Kd.C_drewN ?_ _) | (with_reducible refine Kd.C_drew ?_))); (case side2 => exact HC0.out); rintro e w76 ⟨rfl, hb⟩; have n0_ := Aside0.mk (below_step (by repeat (first | (with_reducible first | exact HB.out | apply below_alloc | apply pw_below_drewN | apply below_drew1) | exact HB.out)) hb); clear HB; have HB := n0_; clear n0_; (try clear hb); (try clear hb2); (try clear hk); (try clear hi)) | (go_at_call 10; (with_reducible refine (limelightref03_Both.calls _ _ l0 a1 a1 false _ ?side1 ?side2 A55.out).mono ?_); (case side1 => repeat (first | exact (Kd.C_below HR0.out HB.out) | (with_reducible refine Kd.C_alloc ?_ _) | (with_reducible refine Kd.C_drewN ?_ _) | (with_reducible refine Kd.C_drew ?_))); (case side2 => exact HC0.out); rintro e w77 ⟨rfl, hb⟩; have n0_ := Aside0.mk (below_step (by repeat (first | (with_reducible first | exact HB.out | apply below_alloc | apply pw_below_drewN | apply below_drew1) | exact HB.out)) hb); clear HB; have HB := n0_; clear n0_; (try clear hb); (try clear hb2); (try clear hk); (try clear hi)) | (go_at_call 14; (with_reducible refine (order_List.calls _ _ l0 a1 t200 _ ?side1 ?side2 A65.out).mono ?_); (case side1 => repeat (first | exact (Kd.C_below HR0.out HB.out) | (with_reducible refine Kd.C_alloc ?_ _) | (with_reducible refine Kd.C_drewN ?_ _) | (with_reducible refine Kd.C_drew ?_))); (case side2 => exact HC0.out); rintro e w78 ⟨v201, rfl, ho0, hb⟩; have n0_ := Aside0.mk (Kd.R_lower ho0 (below_size (by repeat (first | (with_reducible first | exact HB.out | apply below_alloc | apply pw_below_drewN | apply below_drew1) | exact HB.out)))); have n1_ := Aside0.mk (below_step (by repeat (first | (with_reducible first | exact HB.out | apply below_alloc | apply pw_below_drewN | apply below_drew1) | exact HB.out)) hb); clear HB; have HO202 := n0_; have HB := n1_; clear n0_ n1_; (try clear hb); (try clear hb2); (try clear hk); (try clear hi); (try clear ho0); obtain ⟨Ao79, co79, eo79⟩ := Kd.R_slice HO202.out; subst eo79) | (go_at_call 15; (with_reducible refine (order_Up.calls _ _ l0 a1 t203 _ ?side1 ?side2 A67.out).mono ?_); (case side1 => repeat (first | exact (Kd.C_below HR0.out HB.out) | (with_reducible refine Kd.C_alloc ?_ _) | (with_reducible refine Kd.C_drewN ?_ _) | (with_reducible refine Kd.C_drew ?_))); (case side2 => exact HC0.out); rintro e w80 ⟨v204, rfl, ho0, hb⟩; have n0_ := Aside0.mk (Kd.R_elder' (by (with_reducible repeat (first | apply Kd.R_alloc | apply Kd.R_drewN | apply Kd.R_drew)); exact HO202.out) (Kd.R_base ho0) hb); have n1_ := Aside0.mk (Kd.R_lower (Kd.R_new' ho0 (Kd.R_lt (by (with_reducible repeat (first | apply Kd.R_alloc | apply Kd.R_drewN | apply Kd.R_drew)); exact HO202.out))) (below_size (by repeat (first | (with_reducible first | exact HB.out | apply below_alloc | apply pw_below_drewN | apply below_drew1) | exact HB.out)))); have n2_ := Aside0.mk (below_step (by repeat (first | (with_reducible first | exact HB.out | apply below_alloc | apply pw_below_drewN | apply below_drew1) | exact HB.out)) hb); clear HO202; clear HB; have HO202 := n0_; have HO205 := n1_; have HB := n2_; clear n0_ n1_ n2_; (try clear hb); (try clear hb2); (try clear hk); (try clear hi); (try clear ho0); obtain ⟨Ao81, co81, eo81⟩ := Kd.R_slice HO205.out; subst eo81) | (go_at_call 16; (with_reducible refine (order_Top.calls _ _ l0 a1 t206 _ ?side1 ?side2 A69.out).mono ?_); (case side1 => repeat (first | exact (Kd.C_below HR0.out HB.out) | (with_reducible refine Kd.C_alloc ?_ _) | (with_reducible refine Kd.C_drewN ?_ _) | (with_reducible refine Kd.C_drew ?_))); (case side2 => exact HC0.out); rintro e w82 ⟨rfl, hb⟩; have n0_ := Aside0.mk (Kd.R_below (by (with_reducible repeat (first | apply Kd.R_alloc | apply Kd.R_drewN | apply Kd.R_drew)); exact HO202.out) hb); have n1_ := Aside0.mk (Kd.R_below (by (with_reducible repeat (first | apply Kd.R_alloc | apply Kd.R_drewN | apply Kd.R_drew)); exact HO205.out) hb); have n2_ := Aside0.mk (below_step (by repeat (first | (with_reducible first | exact HB.out | apply below_alloc | apply pw_below_drewN | apply below_drew1) | exact HB.out)) hb); clear HO202; clear HO205; clear HB; have HO202 := n0_; have HO205 := n1_; have HB := n2_; clear n0_ n1_ n2_; (try clear hb); (try clear hb2); (try clear hk); (try clear hi)) | (go_at_call 9; (with_reducible refine (limelightlaw03_live.calls k  t207 _ A71.out).mono ?_); rintro e w83 ⟨rfl, hb⟩; have n0_ := Aside0.mk (Kd.R_below (by (with_reducible repeat (first | apply Kd.R_alloc | apply Kd.R_drewN | apply Kd.R_drew)); exact HO202.out) hb); have n1_ := Aside0.mk (Kd.R_below (by (with_reducible repeat (first | apply Kd.R_alloc | apply Kd.R_drewN | apply Kd.R_drew)); exact HO205.out) hb); have n2_ := Aside0.mk (below_step (by repeat (first | (with_reducible first | exact HB.out | apply below_alloc | apply pw_below_drewN | apply below_drew1) | exact HB.out)) hb); clear HO202; clear HO205; clear HB; have HO202 := n0_; have HO205 := n1_; have HB := n2_; clear n0_ n1_ n2_; (try clear hb); (try clear hb2); (try clear hk); (try clear hi)))
                    go_ret
                    exact ⟨by first | rfl | (simp [errW_none, errW_some] <;> rfl) | (simp [*, errW_none, errW_some] <;> rfl), by repeat (first | (with_reducible first | exact HB.out | apply below_alloc | apply pw_below_drewN | apply below_drew1) | exact HB.out)⟩
                  · rw [if_neg c70] at H
                    exact absurd H (by simp)
                · rw [if_neg c68] at H
                  exact absurd H (by simp)
              · rw [if_neg c66] at H
                exact absurd H (by simp)
          · rw [if_neg c54] at H
            exact absurd H (by simp)
  · replace c5 := Bool.eq_false_iff.mpr c5
    subst c5
    have H1 : ((limelightlaw03_live.f k).bind fun t193 => (some t193)) = some r := by rw [if_neg (show ¬ (false = true) by decide)] at H; exact H
    clear H
    have H := H1
    clear H1
    replace H := Option.bind_eq_some_iff.mp H
    obtain ⟨t193, A840, H⟩ := H
    replace H : (some t193) = some r := H
    have A84 := Aside0.mk A840
    clear A840
    obtain rfl := Option.some.inj H
    go_enter Try.func3, Try.ntmps3
    go_wp2_with (first | ((with_reducible refine gate_callee (f := 8) rfl ?_); refine goesL_ (some 9) rfl rfl Try.func8 (by kernel_rfl) rfl #[.slice A0 l0.length c0] rfl (by (try simp only [List.map_toArray, List.map_cons, List.map_nil]); first | done | rfl | (simp only [List.length_drop, List.length_take]; rfl)) ?_; (with_reducible refine (limelightref01_Small.calls _ _ l0 false _ ?side1 ?side2 A4.out).mono ?_); (case side1 => repeat (first | exact HR0.out | (with_reducible refine Kd.C_alloc ?_ _) | (with_reducible refine Kd.C_drewN ?_ _) | (with_reducible refine Kd.C_drew ?_))); (case side2 => exact HC0.out); rintro e w85 ⟨rfl, hb⟩; refine ⟨_, rfl, ?_⟩; have n0_ := Aside0.mk (below_step (by repeat (first | (with_reducible first | exact HB.out | apply below_alloc | apply pw_below_drewN | apply below_drew1) | exact HB.out)) hb); clear HB; have HB := n0_; clear n0_; (try clear hb); (try clear hb2); (try clear hk); (try clear hi)) | ((with_reducible refine gate_callee (f := 9) rfl ?_); refine goesL_ (some 11) rfl rfl Try.func9 (by kernel_rfl) rfl #[] rfl (by (try simp only [List.map_toArray, List.map_cons, List.map_nil]); first | done | rfl | (simp only [List.length_drop, List.length_take]; rfl)) ?_; (with_reducible refine (limelightlaw03_live.calls k  t193 _ A84.out).mono ?_); rintro e w86 ⟨rfl, hb⟩; refine ⟨_, rfl, ?_⟩; have n0_ := Aside0.mk (below_step (by repeat (first | (with_reducible first | exact HB.out | apply below_alloc | apply pw_below_drewN | apply below_drew1) | exact HB.out)) hb); clear HB; have HB := n0_; clear n0_; (try clear hb); (try clear hb2); (try clear hk); (try clear hi)))
    go_ret
    exact ⟨by first | rfl | (simp [errW_none, errW_some] <;> rfl) | (simp [*, errW_none, errW_some] <;> rfl), by repeat (first | (with_reducible first | exact HB.out | apply below_alloc | apply pw_below_drewN | apply below_drew1) | exact HB.out)⟩

/-! ### limelightlaw03_OrderList: function 5 -/
mutual
def limelightlaw03_OrderList.j0 : Nat → List (S38) → Int → Bool → Option (Bool)
  | 0, _, _, _ => none
  | k + 1, x0, x1, x17 => if x17 = true then ((limelightlaw03_live.f k).bind fun t233 => (some t233)) else ((order_List.f x0 x1).bind fun t234 => (if (t234.length : Int) = 0 then (limelightlaw03_OrderList.j1 k x0 x1 t234 true) else (if 0 < (t234.length : Int) then (limelightlaw03_OrderList.j1 k x0 x1 t234 ((rd t234 0) != x1)) else (none))))
def limelightlaw03_OrderList.j1 : Nat → List (S38) → Int → List Int → Bool → Option (Bool)
  | 0, _, _, _, _ => none
  | k + 1, x0, x1, x5, x31 => if x31 = true then (none) else (limelightlaw03_OrderList.l0 k x0 x1 x5 0 0)
def limelightlaw03_OrderList.l0 : Nat → List (S38) → Int → List Int → Int → Int → Option (Bool)
  | 0, _, _, _, _, _ => none
  | k + 1, x0, x1, x5, x6, x7 => if x7 < (x0.length : Int) then ((order_Above.f k x0 x1 x7).bind fun t239 => (if t239 = true then ((limelightref03_In.f k x5 x7).bind fun t240 => (if t240 = true then (if x7 = x1 then (limelightlaw03_OrderList.l0 k x0 x1 x5 (wrap64 (x6 + 1)) (wrap64 (x7 + 1))) else (if 0 ≤ x7 then ((limelightref03_Place.f k x5 ((rd_T38 x0 x7).f2)).bind fun t242 => ((limelightref03_Place.f k x5 x7).bind fun t243 => (if t242 > t243 then (none) else (limelightlaw03_OrderList.l0 k x0 x1 x5 (wrap64 (x6 + 1)) (wrap64 (x7 + 1)))))) else (none))) else (none))) else (limelightlaw03_OrderList.l0 k x0 x1 x5 x6 (wrap64 (x7 + 1))))) else (if (x5.length : Int) = x6 then ((limelightlaw03_live.f k).bind fun t238 => (some t238)) else (none))
end
def limelightlaw03_OrderList.f (k : Nat) (l0 : List (S38)) (a1 : Int) : Option (Bool) := (limelightref01_Small.f l0).bind fun t231 => (if t231 = true then ((limelightref03_Both.f l0 a1 a1).bind fun t232 => (limelightlaw03_OrderList.j0 k l0 a1 (!t232))) else (limelightlaw03_OrderList.j0 k l0 a1 true))
theorem limelightlaw03_OrderList.mono_l : ∀ k, (∀ y0 y1 y2, LeO (limelightlaw03_OrderList.j0 k y0 y1 y2) (limelightlaw03_OrderList.j0 (k + 1) y0 y1 y2)) ∧ (∀ y0 y1 y2 y3, LeO (limelightlaw03_OrderList.j1 k y0 y1 y2 y3) (limelightlaw03_OrderList.j1 (k + 1) y0 y1 y2 y3)) ∧ (∀ y0 y1 y2 y3 y4, LeO (limelightlaw03_OrderList.l0 k y0 y1 y2 y3 y4) (limelightlaw03_OrderList.l0 (k + 1) y0 y1 y2 y3 y4))
  | 0 => ⟨fun _ _ _ r h => by simp [limelightlaw03_OrderList.j0] at h, fun _ _ _ _ r h => by simp [limelightlaw03_OrderList.j1] at h, fun _ _ _ _ _ r h => by simp [limelightlaw03_OrderList.l0] at h⟩
  | k + 1 => by
    obtain ⟨ih0, ih1, ih2⟩ := limelightlaw03_OrderList.mono_l k
    refine ⟨?_, ?_, ?_⟩
    · intro y0 y1 y2
      unfold limelightlaw03_OrderList.j0
      repeat' first
      | (with_reducible exact ih0 _ _ _)
      | (with_reducible exact ih1 _ _ _ _)
      | (with_reducible exact ih2 _ _ _ _ _)
      | (with_reducible exact limelightlaw03_live.mono _)
      | (with_reducible exact limelightref03_In.mono _ _ _)
      | (with_reducible exact limelightref03_Place.mono _ _ _)
      | (with_reducible exact order_Above.mono _ _ _ _)
      | (with_reducible exact LeO.refl _)
      | (with_reducible exact LeO.none _)
      | (with_reducible refine LeO.ite ?_ ?_)
      | (with_reducible refine LeO.bind ?_ (fun _ => ?_))
      | exact ih0 _ _ _
      | exact ih1 _ _ _ _
      | exact ih2 _ _ _ _ _
      | exact limelightlaw03_live.mono _
      | exact limelightref03_In.mono _ _ _
      | exact limelightref03_Place.mono _ _ _
      | exact order_Above.mono _ _ _ _
      | exact LeO.none _
      | refine LeO.ite ?_ ?_
      | refine LeO.bind ?_ (fun _ => ?_)
    · intro y0 y1 y2 y3
      unfold limelightlaw03_OrderList.j1
      repeat' first
      | (with_reducible exact ih0 _ _ _)
      | (with_reducible exact ih1 _ _ _ _)
      | (with_reducible exact ih2 _ _ _ _ _)
      | (with_reducible exact limelightlaw03_live.mono _)
      | (with_reducible exact limelightref03_In.mono _ _ _)
      | (with_reducible exact limelightref03_Place.mono _ _ _)
      | (with_reducible exact order_Above.mono _ _ _ _)
      | (with_reducible exact LeO.refl _)
      | (with_reducible exact LeO.none _)
      | (with_reducible refine LeO.ite ?_ ?_)
      | (with_reducible refine LeO.bind ?_ (fun _ => ?_))
      | exact ih0 _ _ _
      | exact ih1 _ _ _ _
      | exact ih2 _ _ _ _ _
      | exact limelightlaw03_live.mono _
      | exact limelightref03_In.mono _ _ _
      | exact limelightref03_Place.mono _ _ _
      | exact order_Above.mono _ _ _ _
      | exact LeO.none _
      | refine LeO.ite ?_ ?_
      | refine LeO.bind ?_ (fun _ => ?_)
    · intro y0 y1 y2 y3 y4
      unfold limelightlaw03_OrderList.l0
      repeat' first
      | (with_reducible exact ih0 _ _ _)
      | (with_reducible exact ih1 _ _ _ _)
      | (with_reducible exact ih2 _ _ _ _ _)
      | (with_reducible exact limelightlaw03_live.mono _)
      | (with_reducible exact limelightref03_In.mono _ _ _)
      | (with_reducible exact limelightref03_Place.mono _ _ _)
      | (with_reducible exact order_Above.mono _ _ _ _)
      | (with_reducible exact LeO.refl _)
      | (with_reducible exact LeO.none _)
      | (with_reducible refine LeO.ite ?_ ?_)
      | (with_reducible refine LeO.bind ?_ (fun _ => ?_))
      | exact ih0 _ _ _
      | exact ih1 _ _ _ _
      | exact ih2 _ _ _ _ _
      | exact limelightlaw03_live.mono _
      | exact limelightref03_In.mono _ _ _
      | exact limelightref03_Place.mono _ _ _
      | exact order_Above.mono _ _ _ _
      | exact LeO.none _
      | refine LeO.ite ?_ ?_
      | refine LeO.bind ?_ (fun _ => ?_)
theorem limelightlaw03_OrderList.mono : ∀ a0 a1 k, LeO (limelightlaw03_OrderList.f k a0 a1) (limelightlaw03_OrderList.f (k + 1) a0 a1) := by
  intro a0 a1 k
  obtain ⟨ih0, ih1, ih2⟩ := limelightlaw03_OrderList.mono_l k
  unfold limelightlaw03_OrderList.f
  repeat' first
      | (with_reducible exact ih0 _ _ _)
      | (with_reducible exact ih1 _ _ _ _)
      | (with_reducible exact ih2 _ _ _ _ _)
      | (with_reducible exact limelightlaw03_live.mono _)
      | (with_reducible exact limelightref03_In.mono _ _ _)
      | (with_reducible exact limelightref03_Place.mono _ _ _)
      | (with_reducible exact order_Above.mono _ _ _ _)
      | (with_reducible exact LeO.refl _)
      | (with_reducible exact LeO.none _)
      | (with_reducible refine LeO.ite ?_ ?_)
      | (with_reducible refine LeO.bind ?_ (fun _ => ?_))
      | exact ih0 _ _ _
      | exact ih1 _ _ _ _
      | exact ih2 _ _ _ _ _
      | exact limelightlaw03_live.mono _
      | exact limelightref03_In.mono _ _ _
      | exact limelightref03_Place.mono _ _ _
      | exact order_Above.mono _ _ _ _
      | exact LeO.none _
      | refine LeO.ite ?_ ?_
      | refine LeO.bind ?_ (fun _ => ?_)
set_option maxHeartbeats 8000000 in
set_option maxRecDepth 100000 in
theorem limelightlaw03_OrderList.calls (k : Nat) (A0 : Option Addr) (c0 : Nat) (l0 : List (S38)) (a1 : Int) (r : Bool) (w : World) (hr0 : Kd.C k38 w A0 l0.length l0) (hc0 : l0.length ≤ c0) (h : limelightlaw03_OrderList.f k l0 a1 = some r) :
    Calls Try.prog 5 #[.slice A0 l0.length c0, .int .i64 a1] w fun e w' => e = .returned (.bool r) ∧ Below w.heap.size w w' := by
  have HR0 := Aside0.mk hr0
  have HC0 := Aside0.mk hc0
  clear hr0 hc0
  have HB := Aside0.mk (Below.refl w.heap.size w)
  have H : ((limelightref01_Small.f l0).bind fun t231 => (if t231 = true then ((limelightref03_Both.f l0 a1 a1).bind fun t232 => (limelightlaw03_OrderList.j0 k l0 a1 (!t232))) else (limelightlaw03_OrderList.j0 k l0 a1 true))) = some r := h
  clear h
  have HC3 := Aside0.mk H
  clear H
  go_enter Try.func5, Try.ntmps5
  go_upto_region 1 with (fail)
  go_cut [17] (fun v17 wc => ∃ (kq : Nat) (x17_2 : Bool), v17 = .bool x17_2 ∧ Aside0 (limelightlaw03_OrderList.j0 kq l0 a1 x17_2 = some r) ∧ Aside0 (kq ≤ k) ∧ Aside0 (Below w.heap.size w wc))
  case first =>
    have H := HC3.out
    clear HC3
    replace H := Option.bind_eq_some_iff.mp H
    obtain ⟨t231, A40, H⟩ := H
    replace H : (if t231 = true then ((limelightref03_Both.f l0 a1 a1).bind fun t232 => (limelightlaw03_OrderList.j0 k l0 a1 (!t232))) else (limelightlaw03_OrderList.j0 k l0 a1 true)) = some r := H
    have A4 := Aside0.mk A40
    clear A40
    by_cases c5 : t231 = true
    · subst c5
      have H1 : ((limelightref03_Both.f l0 a1 a1).bind fun t232 => (limelightlaw03_OrderList.j0 k l0 a1 (!t232))) = some r := by rw [if_pos rfl] at H; exact H
      clear H
      have H := H1
      clear H1
      replace H := Option.bind_eq_some_iff.mp H
      obtain ⟨t232, A60, H⟩ := H
      replace H : (limelightlaw03_OrderList.j0 k l0 a1 (!t232)) = some r := H
      have A6 := Aside0.mk A60
      clear A60
      have H' := Aside0.mk H
      clear H
      go_wp2_with (first | ((with_reducible refine gate_callee (f := 8) rfl ?_); refine goesL_ (some 9) rfl rfl Try.func8 (by kernel_rfl) rfl #[.slice A0 l0.length c0] rfl (by (try simp only [List.map_toArray, List.map_cons, List.map_nil]); first | done | rfl | (simp only [List.length_drop, List.length_take]; rfl)) ?_; (with_reducible refine (limelightref01_Small.calls _ _ l0 true _ ?side1 ?side2 A4.out).mono ?_); (case side1 => repeat (first | exact (Kd.C_below HR0.out HB.out) | (with_reducible refine Kd.C_alloc ?_ _) | (with_reducible refine Kd.C_drewN ?_ _) | (with_reducible refine Kd.C_drew ?_))); (case side2 => exact HC0.out); rintro e w7 ⟨rfl, hb⟩; refine ⟨_, rfl, ?_⟩; have n0_ := Aside0.mk (below_step (by repeat (first | (with_reducible first | exact HB.out | apply below_alloc | apply pw_below_drewN | apply below_drew1) | exact HB.out)) hb); clear HB; have HB := n0_; clear n0_; (try clear hb); (try clear hb2); (try clear hk); (try clear hi)) | (go_at_call 10; (with_reducible refine (limelightref03_Both.calls _ _ l0 a1 a1 t232 _ ?side1 ?side2 A6.out).mono ?_); (case side1 => repeat (first | exact (Kd.C_below HR0.out HB.out) | (with_reducible refine Kd.C_alloc ?_ _) | (with_reducible refine Kd.C_drewN ?_ _) | (with_reducible refine Kd.C_drew ?_))); (case side2 => exact HC0.out); rintro e w8 ⟨rfl, hb⟩; have n0_ := Aside0.mk (below_step (by repeat (first | (with_reducible first | exact HB.out | apply below_alloc | apply pw_below_drewN | apply below_drew1) | exact HB.out)) hb); clear HB; have HB := n0_; clear n0_; (try clear hb); (try clear hb2); (try clear hk); (try clear hi)))
      go_meet
      case rel => exact ⟨_, (!t232), (by first | rfl | (simp; done) | (simp [*]; done)), H', ⟨by first | omega | exact Nat.le_refl _⟩, ⟨by repeat (first | (with_reducible first | exact HB.out | apply below_alloc | apply pw_below_drewN | apply below_drew1) | exact HB.out)⟩⟩
    · replace c5 := Bool.eq_false_iff.mpr c5
      subst c5
      have H1 : (limelightlaw03_OrderList.j0 k l0 a1 true) = some r := by rw [if_neg (show ¬ (false = true) by decide)] at H; exact H
      clear H
      have H := H1
      clear H1
      have H' := Aside0.mk H
      clear H
      go_wp2_with (first | ((with_reducible refine gate_callee (f := 8) rfl ?_); refine goesL_ (some 9) rfl rfl Try.func8 (by kernel_rfl) rfl #[.slice A0 l0.length c0] rfl (by (try simp only [List.map_toArray, List.map_cons, List.map_nil]); first | done | rfl | (simp only [List.length_drop, List.length_take]; rfl)) ?_; (with_reducible refine (limelightref01_Small.calls _ _ l0 false _ ?side1 ?side2 A4.out).mono ?_); (case side1 => repeat (first | exact (Kd.C_below HR0.out HB.out) | (with_reducible refine Kd.C_alloc ?_ _) | (with_reducible refine Kd.C_drewN ?_ _) | (with_reducible refine Kd.C_drew ?_))); (case side2 => exact HC0.out); rintro e w9 ⟨rfl, hb⟩; refine ⟨_, rfl, ?_⟩; have n0_ := Aside0.mk (below_step (by repeat (first | (with_reducible first | exact HB.out | apply below_alloc | apply pw_below_drewN | apply below_drew1) | exact HB.out)) hb); clear HB; have HB := n0_; clear n0_; (try clear hb); (try clear hb2); (try clear hk); (try clear hi)))
      go_meet
      case rel => exact ⟨_, (true), (by first | rfl | (simp; done) | (simp [*]; done)), H', ⟨by first | omega | exact Nat.le_refl _⟩, ⟨by repeat (first | (with_reducible first | exact HB.out | apply below_alloc | apply pw_below_drewN | apply below_drew1) | exact HB.out)⟩⟩
  case rest =>
    clear HC3
    try clear p2
    try clear c5
    try clear c8
    obtain ⟨kq, x17_2, rfl, HA, HJ2, HB⟩ := hcut
    cases kq with
    | zero => exact absurd HA.out (by simp [limelightlaw03_OrderList.j0])
    | succ kj2 =>
      have H := HA.out
      clear HA
      simp only [limelightlaw03_OrderList.j0] at H
      by_cases c10 : x17_2 = true
      · subst c10
        have H1 : ((limelightlaw03_live.f kj2).bind fun t233 => (some t233)) = some r := by rw [if_pos rfl] at H; exact H
        clear H
        have H := H1
        clear H1
        replace H := Option.bind_eq_some_iff.mp H
        obtain ⟨t233, A110, H⟩ := H
        replace H : (some t233) = some r := H
        have A11 := Aside0.mk A110
        clear A110
        obtain rfl := Option.some.inj H
        go_wp2_with (first | ((with_reducible refine gate_callee (f := 9) rfl ?_); refine goesL_ (some 18) rfl rfl Try.func9 (by kernel_rfl) rfl #[] rfl (by (try simp only [List.map_toArray, List.map_cons, List.map_nil]); first | done | rfl | (simp only [List.length_drop, List.length_take]; rfl)) ?_; (with_reducible refine (limelightlaw03_live.calls kj2  t233 _ A11.out).mono ?_); rintro e w12 ⟨rfl, hb⟩; refine ⟨_, rfl, ?_⟩; have n0_ := Aside0.mk (below_step (by repeat (first | (with_reducible first | exact HB.out | apply below_alloc | apply pw_below_drewN | apply below_drew1) | exact HB.out)) hb); clear HB; have HB := n0_; clear n0_; (try clear hb); (try clear hb2); (try clear hk); (try clear hi)))
        go_ret
        exact ⟨by first | rfl | (simp [errW_none, errW_some] <;> rfl) | (simp [*, errW_none, errW_some] <;> rfl), by repeat (first | (with_reducible first | exact HB.out | apply below_alloc | apply pw_below_drewN | apply below_drew1) | exact HB.out)⟩
      · replace c10 := Bool.eq_false_iff.mpr c10
        subst c10
        have H1 : ((order_List.f l0 a1).bind fun t234 => (if (t234.length : Int) = 0 then (limelightlaw03_OrderList.j1 kj2 l0 a1 t234 true) else (if 0 < (t234.length : Int) then (limelightlaw03_OrderList.j1 kj2 l0 a1 t234 ((rd t234 0) != a1)) else (none)))) = some r := by rw [if_neg (show ¬ (false = true) by decide)] at H; exact H
        clear H
        have H := H1
        clear H1
        replace H := Option.bind_eq_some_iff.mp H
        obtain ⟨t234, A130, H⟩ := H
        replace H : (if (t234.length : Int) = 0 then (limelightlaw03_OrderList.j1 kj2 l0 a1 t234 true) else (if 0 < (t234.length : Int) then (limelightlaw03_OrderList.j1 kj2 l0 a1 t234 ((rd t234 0) != a1)) else (none))) = some r := H
        have A13 := Aside0.mk A130
        clear A130
        have HC14 := Aside0.mk H
        clear H
        go_upto_region 4 with (first | ((with_reducible refine gate_callee (f := 14) rfl ?_); refine goesL_ (some 21) rfl rfl Try.func14 (by kernel_rfl) rfl #[.slice A0 l0.length c0, .int .i64 a1] rfl (by (try simp only [List.map_toArray, List.map_cons, List.map_nil]); first | done | rfl | (simp only [List.length_drop, List.length_take]; rfl)) ?_; (with_reducible refine (order_List.calls _ _ l0 a1 t234 _ ?side1 ?side2 A13.out).mono ?_); (case side1 => repeat (first | exact (Kd.C_below HR0.out HB.out) | (with_reducible refine Kd.C_alloc ?_ _) | (with_reducible refine Kd.C_drewN ?_ _) | (with_reducible refine Kd.C_drew ?_))); (case side2 => exact HC0.out); rintro e w15 ⟨v235, rfl, ho0, hb⟩; refine ⟨_, rfl, ?_⟩; have n0_ := Aside0.mk (Kd.R_lower ho0 (below_size (by repeat (first | (with_reducible first | exact HB.out | apply below_alloc | apply pw_below_drewN | apply below_drew1) | exact HB.out)))); have n1_ := Aside0.mk (below_step (by repeat (first | (with_reducible first | exact HB.out | apply below_alloc | apply pw_below_drewN | apply below_drew1) | exact HB.out)) hb); clear HB; have HO236 := n0_; have HB := n1_; clear n0_ n1_; (try clear hb); (try clear hb2); (try clear hk); (try clear hi); (try clear ho0)))
        (try simp only [Act.put, List.setIfInBounds_toArray, List.set_cons_zero, List.set_cons_succ])
        go_cut [31] (fun v31 wc => ∃ (kq : Nat) (x31_13 : Bool), v31 = .bool x31_13 ∧ Aside0 (limelightlaw03_OrderList.j1 kq l0 a1 t234 x31_13 = some r) ∧ Aside0 (kq ≤ kj2) ∧ Aside0 (Kd.R (Kd.int .i64) 3 wc w.heap.size (fun _ => True) v235 t234) ∧ Aside0 (Below w.heap.size w wc))
        case first =>
          have H := HC14.out
          clear HC14
          by_cases c16 : (t234.length : Int) = 0
          · rw [if_pos c16] at H
            have c16b0 : ((t234.length : Int) == 0) = true := beq_iff_eq.mpr c16
            have c16b1 : ((t234.length : Int) != 0) = false := bne_eq_false_iff_eq.mpr c16
            clear c16
            (first | rw [c16b0] | (simp only [i64_w, i32_w]; rw [c16b0]) | skip)
            have H' := Aside0.mk H
            clear H
            obtain ⟨Ao17, co17, eo17⟩ := Kd.R_slice HO236.out
            subst eo17
            go_wp2
            go_meet
            case rel => exact ⟨_, (true), (by first | rfl | (simp; done) | (simp [*]; done)), H', ⟨by have := HJ2.out; first | omega | exact Nat.le_refl _⟩, ⟨by (with_reducible repeat (first | apply Kd.R_alloc | apply Kd.R_drewN | apply Kd.R_drew)); exact HO236.out⟩, ⟨by repeat (first | (with_reducible first | exact HB.out | apply below_alloc | apply pw_below_drewN | apply below_drew1) | exact HB.out)⟩⟩
          · rw [if_neg c16] at H
            have c16b0 : ((t234.length : Int) == 0) = false := beq_eq_false_iff_ne.mpr c16
            have c16b1 : ((t234.length : Int) != 0) = true := bne_iff_ne.mpr c16
            have c16b2 : ¬ (t234 = []) := fun h_ => c16 (by rw [h_]; rfl)
            (first | rw [c16b0] | (simp only [i64_w, i32_w]; rw [c16b0]) | skip)
            by_cases c18 : 0 < (t234.length : Int)
            · rw [if_pos c18] at H
              have c18b0 : decide (0 < (t234.length : Int)) = true := decide_eq_true c18
              have c18b1 : decide (0 < t234.length) = true := decide_eq_true (by omega)
              clear c18
              have H' := Aside0.mk H
              clear H
              obtain ⟨Ao19, co19, eo19⟩ := Kd.R_slice HO236.out
              subst eo19
              have p237 : 0 ≤ (0 : Int) := (by omega)
              have q237 : 0 < (t234.length : Int) := of_decide_eq_true (by first | (with_reducible assumption) | assumption)
              obtain ⟨ad237, e237, hx237_0⟩ := Kd.at_int (Kd.R_reads' HO236.out).2.2 0 p237 q237
              cases e237
              have qi237 : (0 < t234.length) = True := eq_true (by omega)
              (try rw [show ((0 : Int)).toNat = 0 from rfl] at hx237_0)
              (try rw [Addr.add_zero'] at hx237_0)
              replace p237 := eq_true p237
              replace q237 := eq_true q237
              go_wp2
              go_meet
              case rel => exact ⟨_, (((rd t234 0) != a1)), (by first | rfl | (simp; done) | (simp [*]; done)), H', ⟨by have := HJ2.out; first | omega | exact Nat.le_refl _⟩, ⟨by (with_reducible repeat (first | apply Kd.R_alloc | apply Kd.R_drewN | apply Kd.R_drew)); exact HO236.out⟩, ⟨by repeat (first | (with_reducible first | exact HB.out | apply below_alloc | apply pw_below_drewN | apply below_drew1) | exact HB.out)⟩⟩
            · rw [if_neg c18] at H
              exact absurd H (by simp)
        case rest =>
          clear HC14
          try clear c1
          try clear p2
          try clear q2
          try clear hx2
          try clear qi2
          try clear c5
          try clear c8
          try clear c9
          try clear c10
          try clear c14
          try clear c16
          try clear c16b0
          try clear c16b1
          try clear c16b2
          try clear c18
          try clear c18b0
          try clear c18b1
          try clear hx237_0
          try clear p2
          try clear p237
          try clear q237
          obtain ⟨kq, x31_13, rfl, HA, HJ13, HO_5, HB⟩ := hcut
          cases kq with
          | zero => exact absurd HA.out (by simp [limelightlaw03_OrderList.j1])
          | succ kj13 =>
            have H := HA.out
            clear HA
            simp only [limelightlaw03_OrderList.j1] at H
            by_cases c20 : x31_13 = true
            · subst c20
              have H1 : (none) = some r := by rw [if_pos rfl] at H; exact H
              clear H
              have H := H1
              clear H1
              exact absurd H (by simp)
            · replace c20 := Bool.eq_false_iff.mpr c20
              subst c20
              have H1 : (limelightlaw03_OrderList.l0 kj13 l0 a1 t234 0 0) = some r := by rw [if_neg (show ¬ (false = true) by decide)] at H; exact H
              clear H
              have H := H1
              clear H1
              have H' := Aside0.mk H
              clear H
              go_wp2
              go_loopg [6, 7] kj13 (fun kq v6 v7 w' => ∃ (x6_3 : Int) (x7_3 : Int), v6 = .int .i64 x6_3 ∧ v7 = .int .i64 x7_3 ∧ Aside0 (limelightlaw03_OrderList.l0 kq l0 a1 t234 x6_3 x7_3 = some r) ∧ Aside0 (kq ≤ kj13) ∧ Aside0 (Kd.R (Kd.int .i64) 3 w' w.heap.size (fun _ => True) v235 t234) ∧ Aside0 (Below w.heap.size w w'))
              case atStart => exact ⟨(0), (0), (by first | rfl | (simp; done) | (simp [*]; done)), (by first | rfl | (simp; done) | (simp [*]; done)), H', ⟨Nat.le_refl _⟩, ⟨by (with_reducible repeat (first | apply Kd.R_alloc | apply Kd.R_drewN | apply Kd.R_drew)); exact HO_5.out⟩, ⟨by repeat (first | (with_reducible first | exact HB.out | apply below_alloc | apply pw_below_drewN | apply below_drew1) | exact HB.out)⟩⟩
              case round =>
                clear H'
                try clear c1
                try clear c2
                try clear p2
                try clear q2
                try clear hx2
                try clear qi2
                try clear c5
                try clear c8
                try clear c9
                try clear c10
                try clear c14
                try clear c16
                try clear c16b0
                try clear c16b1
                try clear c16b2
                try clear c18
                try clear c18b0
                try clear c18b1
                try clear c20
                try clear hx237_0
                try clear p2
                try clear p237
                try clear q2
                try clear q237
                obtain ⟨x6_3, x7_3, rfl, rfl, HA, HK3, HO_5, HB⟩ := hrel
                cases gk with
                | zero => exact absurd HA.out (by simp [limelightlaw03_OrderList.l0])
                | succ k3 =>
                  have H := HA.out
                  clear HA
                  simp only [limelightlaw03_OrderList.l0] at H
                  by_cases c21 : x7_3 < (l0.length : Int)
                  · rw [if_pos c21] at H
                    have c21b0 : decide (x7_3 < (l0.length : Int)) = true := decide_eq_true c21
                    clear c21
                    replace H := Option.bind_eq_some_iff.mp H
                    obtain ⟨t239, A220, H⟩ := H
                    replace H : (if t239 = true then ((limelightref03_In.f k3 t234 x7_3).bind fun t240 => (if t240 = true then (if x7_3 = a1 then (limelightlaw03_OrderList.l0 k3 l0 a1 t234 (wrap64 (x6_3 + 1)) (wrap64 (x7_3 + 1))) else (if 0 ≤ x7_3 then ((limelightref03_Place.f k3 t234 ((rd_T38 l0 x7_3).f2)).bind fun t242 => ((limelightref03_Place.f k3 t234 x7_3).bind fun t243 => (if t242 > t243 then (none) else (limelightlaw03_OrderList.l0 k3 l0 a1 t234 (wrap64 (x6_3 + 1)) (wrap64 (x7_3 + 1)))))) else (none))) else (none))) else (limelightlaw03_OrderList.l0 k3 l0 a1 t234 x6_3 (wrap64 (x7_3 + 1)))) = some r := H
                    have A22 := Aside0.mk A220
                    clear A220
                    by_cases c23 : t239 = true
                    · subst c23
                      have H1 : ((limelightref03_In.f k3 t234 x7_3).bind fun t240 => (if t240 = true then (if x7_3 = a1 then (limelightlaw03_OrderList.l0 k3 l0 a1 t234 (wrap64 (x6_3 + 1)) (wrap64 (x7_3 + 1))) else (if 0 ≤ x7_3 then ((limelightref03_Place.f k3 t234 ((rd_T38 l0 x7_3).f2)).bind fun t242 => ((limelightref03_Place.f k3 t234 x7_3).bind fun t243 => (if t242 > t243 then (none) else (limelightlaw03_OrderList.l0 k3 l0 a1 t234 (wrap64 (x6_3 + 1)) (wrap64 (x7_3 + 1)))))) else (none))) else (none))) = some r := by rw [if_pos rfl] at H; exact H
                      clear H
                      have H := H1
                      clear H1
                      replace H := Option.bind_eq_some_iff.mp H
                      obtain ⟨t240, A240, H⟩ := H
                      replace H : (if t240 = true then (if x7_3 = a1 then (limelightlaw03_OrderList.l0 k3 l0 a1 t234 (wrap64 (x6_3 + 1)) (wrap64 (x7_3 + 1))) else (if 0 ≤ x7_3 then ((limelightref03_Place.f k3 t234 ((rd_T38 l0 x7_3).f2)).bind fun t242 => ((limelightref03_Place.f k3 t234 x7_3).bind fun t243 => (if t242 > t243 then (none) else (limelightlaw03_OrderList.l0 k3 l0 a1 t234 (wrap64 (x6_3 + 1)) (wrap64 (x7_3 + 1)))))) else (none))) else (none)) = some r := H
                      have A24 := Aside0.mk A240
                      clear A240
                      by_cases c25 : t240 = true
                      · subst c25
                        have H1 : (if x7_3 = a1 then (limelightlaw03_OrderList.l0 k3 l0 a1 t234 (wrap64 (x6_3 + 1)) (wrap64 (x7_3 + 1))) else (if 0 ≤ x7_3 then ((limelightref03_Place.f k3 t234 ((rd_T38 l0 x7_3).f2)).bind fun t242 => ((limelightref03_Place.f k3 t234 x7_3).bind fun t243 => (if t242 > t243 then (none) else (limelightlaw03_OrderList.l0 k3 l0 a1 t234 (wrap64 (x6_3 + 1)) (wrap64 (x7_3 + 1)))))) else (none))) = some r := by rw [if_pos rfl] at H; exact H
                        clear H
                        have H := H1
                        clear H1
                        by_cases c26 : x7_3 = a1
                        · rw [if_pos c26] at H
                          have c26b0 : (x7_3 == a1) = true := beq_iff_eq.mpr c26
                          have c26b1 : (x7_3 != a1) = false := bne_eq_false_iff_eq.mpr c26
                          clear c26
                          have H' := Aside0.mk H
                          clear H
                          go_wp2_with (first | ((with_reducible refine gate_callee (f := 11) rfl ?_); refine goesL_ (some 41) rfl rfl Try.func11 (by kernel_rfl) rfl #[.slice A0 l0.length c0, .int .i64 a1, .int .i64 x7_3] rfl (by (try simp only [List.map_toArray, List.map_cons, List.map_nil]); first | done | rfl | (simp only [List.length_drop, List.length_take]; rfl)) ?_; (with_reducible refine (order_Above.calls k3 _ _ l0 a1 x7_3 true _ ?side1 ?side2 A22.out).mono ?_); (case side1 => repeat (first | exact (Kd.C_below HR0.out HB.out) | (with_reducible refine Kd.C_alloc ?_ _) | (with_reducible refine Kd.C_drewN ?_ _) | (with_reducible refine Kd.C_drew ?_))); (case side2 => exact HC0.out); rintro e w27 ⟨rfl, hb⟩; refine ⟨_, rfl, ?_⟩; have n0_ := Aside0.mk (Kd.R_below (by (with_reducible repeat (first | apply Kd.R_alloc | apply Kd.R_drewN | apply Kd.R_drew)); exact HO_5.out) hb); have n1_ := Aside0.mk (below_step (by repeat (first | (with_reducible first | exact HB.out | apply below_alloc | apply pw_below_drewN | apply below_drew1) | exact HB.out)) hb); clear HO_5; clear HB; have HO_5 := n0_; have HB := n1_; clear n0_ n1_; (try clear hb); (try clear hb2); (try clear hk); (try clear hi); obtain ⟨Ao28, co28, eo28⟩ := Kd.R_slice HO_5.out; subst eo28) | ((with_reducible refine gate_callee (f := 21) rfl ?_); refine goesL_ (some 46) rfl rfl Try.func21 (by kernel_rfl) rfl #[.slice Ao28 t234.length co28, .int .i64 x7_3] rfl (by (try simp only [List.map_toArray, List.map_cons, List.map_nil]); first | done | rfl | (simp only [List.length_drop, List.length_take]; rfl)) ?_; (with_reducible refine (limelightref03_In.calls k3 _ _ t234 x7_3 true _ ?side1 ?side2 A24.out).mono ?_); (case side1 => repeat (first | exact (Kd.R_reads' HO_5.out).2.2 | (with_reducible refine Kd.C_alloc ?_ _) | (with_reducible refine Kd.C_drewN ?_ _) | (with_reducible refine Kd.C_drew ?_))); (case side2 => exact (Kd.R_reads' HO_5.out).2.1); rintro e w' ⟨rfl, ⟨nd, rfl⟩⟩; refine ⟨_, rfl, ?_⟩))
                          go_roundg k3
                          case measure => have := HJ2.out; have := HJ13.out; have := HK3.out; omega
                          case rel => exact ⟨(wrap64 (x6_3 + 1)), (wrap64 (x7_3 + 1)), (by first | rfl | (simp; done) | (simp [*]; done)), (by first | rfl | (simp; done) | (simp [*]; done)), H', ⟨by have := HJ2.out; have := HJ13.out; have := HK3.out; omega⟩, ⟨by (with_reducible repeat (first | apply Kd.R_alloc | apply Kd.R_drewN | apply Kd.R_drew)); exact HO_5.out⟩, ⟨by repeat (first | (with_reducible first | exact HB.out | apply below_alloc | apply pw_below_drewN | apply below_drew1) | exact HB.out)⟩⟩
                        · rw [if_neg c26] at H
                          have c26b0 : (x7_3 == a1) = false := beq_eq_false_iff_ne.mpr c26
                          have c26b1 : (x7_3 != a1) = true := bne_iff_ne.mpr c26
                          by_cases c29 : 0 ≤ x7_3
                          · rw [if_pos c29] at H
                            have c29b0 : decide (0 ≤ x7_3) = true := decide_eq_true c29
                            clear c29
                            replace H := Option.bind_eq_some_iff.mp H
                            obtain ⟨t242, A300, H⟩ := H
                            replace H : ((limelightref03_Place.f k3 t234 x7_3).bind fun t243 => (if t242 > t243 then (none) else (limelightlaw03_OrderList.l0 k3 l0 a1 t234 (wrap64 (x6_3 + 1)) (wrap64 (x7_3 + 1))))) = some r := H
                            have A30 := Aside0.mk A300
                            clear A300
                            replace H := Option.bind_eq_some_iff.mp H
                            obtain ⟨t243, A310, H⟩ := H
                            replace H : (if t242 > t243 then (none) else (limelightlaw03_OrderList.l0 k3 l0 a1 t234 (wrap64 (x6_3 + 1)) (wrap64 (x7_3 + 1)))) = some r := H
                            have A31 := Aside0.mk A310
                            clear A310
                            by_cases c32 : t242 > t243
                            · rw [if_pos c32] at H
                              exact absurd H (by simp)
                            · rw [if_neg c32] at H
                              have c32b0 : decide (t243 < t242) = false := decide_eq_false c32
                              clear c32
                              have H' := Aside0.mk H
                              clear H
                              go_wp2_with (first | ((with_reducible refine gate_callee (f := 11) rfl ?_); refine goesL_ (some 41) rfl rfl Try.func11 (by kernel_rfl) rfl #[.slice A0 l0.length c0, .int .i64 a1, .int .i64 x7_3] rfl (by (try simp only [List.map_toArray, List.map_cons, List.map_nil]); first | done | rfl | (simp only [List.length_drop, List.length_take]; rfl)) ?_; (with_reducible refine (order_Above.calls k3 _ _ l0 a1 x7_3 true _ ?side1 ?side2 A22.out).mono ?_); (case side1 => repeat (first | exact (Kd.C_below HR0.out HB.out) | (with_reducible refine Kd.C_alloc ?_ _) | (with_reducible refine Kd.C_drewN ?_ _) | (with_reducible refine Kd.C_drew ?_))); (case side2 => exact HC0.out); rintro e w33 ⟨rfl, hb⟩; refine ⟨_, rfl, ?_⟩; have n0_ := Aside0.mk (Kd.R_below (by (with_reducible repeat (first | apply Kd.R_alloc | apply Kd.R_drewN | apply Kd.R_drew)); exact HO_5.out) hb); have n1_ := Aside0.mk (below_step (by repeat (first | (with_reducible first | exact HB.out | apply below_alloc | apply pw_below_drewN | apply below_drew1) | exact HB.out)) hb); clear HO_5; clear HB; have HO_5 := n0_; have HB := n1_; clear n0_ n1_; (try clear hb); (try clear hb2); (try clear hk); (try clear hi); obtain ⟨Ao34, co34, eo34⟩ := Kd.R_slice HO_5.out; subst eo34) | ((with_reducible refine gate_callee (f := 21) rfl ?_); refine goesL_ (some 46) rfl rfl Try.func21 (by kernel_rfl) rfl #[.slice Ao34 t234.length co34, .int .i64 x7_3] rfl (by (try simp only [List.map_toArray, List.map_cons, List.map_nil]); first | done | rfl | (simp only [List.length_drop, List.length_take]; rfl)) ?_; (with_reducible refine (limelightref03_In.calls k3 _ _ t234 x7_3 true _ ?side1 ?side2 A24.out).mono ?_); (case side1 => repeat (first | exact (Kd.R_reads' HO_5.out).2.2 | (with_reducible refine Kd.C_alloc ?_ _) | (with_reducible refine Kd.C_drewN ?_ _) | (with_reducible refine Kd.C_drew ?_))); (case side2 => exact (Kd.R_reads' HO_5.out).2.1); rintro e w' ⟨rfl, ⟨nd, rfl⟩⟩; refine ⟨_, rfl, ?_⟩; have p241 : 0 ≤ (x7_3 : Int) := of_decide_eq_true (by first | (with_reducible assumption) | assumption); have q241 : x7_3 < (l0.length : Int) := of_decide_eq_true (by first | (with_reducible assumption) | assumption); obtain ⟨ad241, A241_3, c241_3, A241_6, c241_6, e241, hx241_0, hx241_1, hx241_2, hx241_3, hx241_4, hx241_5, hx241_6, hl241_3, hi241_3, hl241_6, hi241_6⟩ := at_T38 HR0.out x7_3 p241 q241; cases e241; replace hx241_0 := (HB.out.cell (World.block_lt_of_cell? w _ hx241_0)).trans hx241_0; replace hx241_1 := (HB.out.cell (World.block_lt_of_cell? w _ hx241_1)).trans hx241_1; replace hx241_2 := (HB.out.cell (World.block_lt_of_cell? w _ hx241_2)).trans hx241_2; replace hx241_3 := (HB.out.cell (World.block_lt_of_cell? w _ hx241_3)).trans hx241_3; replace hx241_4 := (HB.out.cell (World.block_lt_of_cell? w _ hx241_4)).trans hx241_4; replace hx241_5 := (HB.out.cell (World.block_lt_of_cell? w _ hx241_5)).trans hx241_5; replace hx241_6 := (HB.out.cell (World.block_lt_of_cell? w _ hx241_6)).trans hx241_6; have HR241_3 := Aside0.mk hi241_3; have HC241_3 := Aside0.mk hl241_3; clear hi241_3 hl241_3; have HR241_6 := Aside0.mk hi241_6; have HC241_6 := Aside0.mk hl241_6; clear hi241_6 hl241_6; replace p241 := eq_true p241; replace q241 := eq_true q241) | (go_at_call 24; (with_reducible refine (limelightref03_Place.calls k3 _ _ t234 ((rd_T38 l0 x7_3).f2) t242 _ ?side1 ?side2 A30.out).mono ?_); (case side1 => repeat (first | exact (Kd.R_reads' HO_5.out).2.2 | (with_reducible refine Kd.C_alloc ?_ _) | (with_reducible refine Kd.C_drewN ?_ _) | (with_reducible refine Kd.C_drew ?_))); (case side2 => exact (Kd.R_reads' HO_5.out).2.1); rintro e w' ⟨rfl, ⟨nd, rfl⟩⟩) | (go_at_call 24; (with_reducible refine (limelightref03_Place.calls k3 _ _ t234 x7_3 t243 _ ?side1 ?side2 A31.out).mono ?_); (case side1 => repeat (first | exact (Kd.R_reads' HO_5.out).2.2 | (with_reducible refine Kd.C_alloc ?_ _) | (with_reducible refine Kd.C_drewN ?_ _) | (with_reducible refine Kd.C_drew ?_))); (case side2 => exact (Kd.R_reads' HO_5.out).2.1); rintro e w' ⟨rfl, ⟨nd, rfl⟩⟩))
                              go_roundg k3
                              case measure => have := HJ2.out; have := HJ13.out; have := HK3.out; omega
                              case rel => exact ⟨(wrap64 (x6_3 + 1)), (wrap64 (x7_3 + 1)), (by first | rfl | (simp; done) | (simp [*]; done)), (by first | rfl | (simp; done) | (simp [*]; done)), H', ⟨by have := HJ2.out; have := HJ13.out; have := HK3.out; omega⟩, ⟨by (with_reducible repeat (first | apply Kd.R_alloc | apply Kd.R_drewN | apply Kd.R_drew)); exact HO_5.out⟩, ⟨by repeat (first | (with_reducible first | exact HB.out | apply below_alloc | apply pw_below_drewN | apply below_drew1) | exact HB.out)⟩⟩
                          · rw [if_neg c29] at H
                            exact absurd H (by simp)
                      · replace c25 := Bool.eq_false_iff.mpr c25
                        subst c25
                        have H1 : (none) = some r := by rw [if_neg (show ¬ (false = true) by decide)] at H; exact H
                        clear H
                        have H := H1
                        clear H1
                        exact absurd H (by simp)
                    · replace c23 := Bool.eq_false_iff.mpr c23
                      subst c23
                      have H1 : (limelightlaw03_OrderList.l0 k3 l0 a1 t234 x6_3 (wrap64 (x7_3 + 1))) = some r := by rw [if_neg (show ¬ (false = true) by decide)] at H; exact H
                      clear H
                      have H := H1
                      clear H1
                      have H' := Aside0.mk H
                      clear H
                      go_wp2_with (first | ((with_reducible refine gate_callee (f := 11) rfl ?_); refine goesL_ (some 41) rfl rfl Try.func11 (by kernel_rfl) rfl #[.slice A0 l0.length c0, .int .i64 a1, .int .i64 x7_3] rfl (by (try simp only [List.map_toArray, List.map_cons, List.map_nil]); first | done | rfl | (simp only [List.length_drop, List.length_take]; rfl)) ?_; (with_reducible refine (order_Above.calls k3 _ _ l0 a1 x7_3 false _ ?side1 ?side2 A22.out).mono ?_); (case side1 => repeat (first | exact (Kd.C_below HR0.out HB.out) | (with_reducible refine Kd.C_alloc ?_ _) | (with_reducible refine Kd.C_drewN ?_ _) | (with_reducible refine Kd.C_drew ?_))); (case side2 => exact HC0.out); rintro e w35 ⟨rfl, hb⟩; refine ⟨_, rfl, ?_⟩; have n0_ := Aside0.mk (Kd.R_below (by (with_reducible repeat (first | apply Kd.R_alloc | apply Kd.R_drewN | apply Kd.R_drew)); exact HO_5.out) hb); have n1_ := Aside0.mk (below_step (by repeat (first | (with_reducible first | exact HB.out | apply below_alloc | apply pw_below_drewN | apply below_drew1) | exact HB.out)) hb); clear HO_5; clear HB; have HO_5 := n0_; have HB := n1_; clear n0_ n1_; (try clear hb); (try clear hb2); (try clear hk); (try clear hi)))
                      go_roundg k3
                      case measure => have := HJ2.out; have := HJ13.out; have := HK3.out; omega
                      case rel => exact ⟨(x6_3), (wrap64 (x7_3 + 1)), (by first | rfl | (simp; done) | (simp [*]; done)), (by first | rfl | (simp; done) | (simp [*]; done)), H', ⟨by have := HJ2.out; have := HJ13.out; have := HK3.out; omega⟩, ⟨by (with_reducible repeat (first | apply Kd.R_alloc | apply Kd.R_drewN | apply Kd.R_drew)); exact HO_5.out⟩, ⟨by repeat (first | (with_reducible first | exact HB.out | apply below_alloc | apply pw_below_drewN | apply below_drew1) | exact HB.out)⟩⟩
                  · rw [if_neg c21] at H
                    have c21b0 : decide (x7_3 < (l0.length : Int)) = false := decide_eq_false c21
                    clear c21
                    by_cases c36 : (t234.length : Int) = x6_3
                    · rw [if_pos c36] at H
                      have c36b0 : ((t234.length : Int) == x6_3) = true := beq_iff_eq.mpr c36
                      have c36b1 : ((t234.length : Int) != x6_3) = false := bne_eq_false_iff_eq.mpr c36
                      clear c36
                      replace H := Option.bind_eq_some_iff.mp H
                      obtain ⟨t238, A370, H⟩ := H
                      replace H : (some t238) = some r := H
                      have A37 := Aside0.mk A370
                      clear A370
                      obtain rfl := Option.some.inj H
                      obtain ⟨Ao38, co38, eo38⟩ := Kd.R_slice HO_5.out
                      subst eo38
                      go_wp2_with (first | (go_at_call 9; (with_reducible refine (limelightlaw03_live.calls k3  t238 _ A37.out).mono ?_); rintro e w39 ⟨rfl, hb⟩; have n0_ := Aside0.mk (Kd.R_below (by (with_reducible repeat (first | apply Kd.R_alloc | apply Kd.R_drewN | apply Kd.R_drew)); exact HO_5.out) hb); have n1_ := Aside0.mk (below_step (by repeat (first | (with_reducible first | exact HB.out | apply below_alloc | apply pw_below_drewN | apply below_drew1) | exact HB.out)) hb); clear HO_5; clear HB; have HO_5 := n0_; have HB := n1_; clear n0_ n1_; (try clear hb); (try clear hb2); (try clear hk); (try clear hi)))
                      go_ret
                      exact ⟨by first | rfl | (simp [errW_none, errW_some] <;> rfl) | (simp [*, errW_none, errW_some] <;> rfl), by repeat (first | (with_reducible first | exact HB.out | apply below_alloc | apply pw_below_drewN | apply below_drew1) | exact HB.out)⟩
                    · rw [if_neg c36] at H
                      exact absurd H (by simp)

end Go.Proofs.Ytiekphenmbigeaa.P
