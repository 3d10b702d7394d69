-- printed by wip/tools/pp.sh (a patched copy of the print's program), for this claim.
import Derived.Test.YtfdhfnjdafaogaaPx0
import Derived.Test.YtfdhfnjdafaogaaPx1
import Derived.Test.YtfdhfnjdafaogaaPx4
import Derived.Test.YtfdhfnjdafaogaaME
import Derived.Test.YtfdhfnjdafaogaaMU
namespace Go.Proofs.Ytfdhfnjdafaogaa.P
open Go.RowKit Go.Proofs.YtfdhfnjdafaogaaW.PrintWords Go.Proofs.YtfdhfnjdafaogaaW.PrintLast Go.Proofs.YtfdhfnjdafaogaaW.PrintMore
attribute [local go_sem] max2_int min2_int max_two min_two max_three min_three max_four min_four   -- for this text's walks alone
set_option linter.unusedVariables false
set_option linter.unusedSimpArgs false

/-! ### limelightlaw06_FlatTells: function 3 -/
def limelightlaw06_FlatTells.f (k : Nat) (l0 : List (S36)) (a1 : Int) (a2 : Int) : Option (Bool) := (limelightref01_Few.f l0).bind fun t200 => (if t200 = true then ((limelightref03_Both.f l0 a1 a2).bind fun t202 => (if t202 = true then ((flat_Kids.f l0 a1).bind fun t215 => ((limelightref06_Kids.f k l0 a1).bind fun t218 => ((limelightref01_Ints.f t215 t218).bind fun t221 => (if t221 = true then ((flat_Parent.f l0 a1).bind fun t222 => ((limelightref06_Parent.f k l0 a1).bind fun t223 => (if t222 = t223 then ((flat_Up.f l0 a1).bind fun t224 => ((limelightref06_Up.f k l0 a1).bind fun t227 => ((limelightref01_Ints.f t224 t227).bind fun t230 => (if t230 = true then ((flat_Has.f l0 a1).bind fun t231 => ((limelightref06_Has.f k l0 a1).bind fun t232 => (if (t231 == t232) = true then ((flat_Above.f l0 a1 a2).bind fun t233 => ((limelightref06_Above.f k l0 a1 a2).bind fun t234 => (if (t233 == t234) = true then ((limelightlaw06_live.f).bind fun t235 => (some t235)) else (none)))) else (none)))) else (none))))) else (none)))) else (none))))) else ((flat_Above.f l0 a1 a2).bind fun t203 => (if t203 = true then (none) else ((limelightref03_Both.f l0 a1 a1).bind fun t204 => (if t204 = true then ((limelightlaw06_live.f).bind fun t205 => (some t205)) else ((flat_Kids.f l0 a1).bind fun t206 => (if (t206.length : Int) = 0 then ((flat_Parent.f l0 a1).bind fun t209 => (if t209 = (-1) then ((flat_Up.f l0 a1).bind fun t210 => (if (t210.length : Int) = 0 then ((flat_Has.f l0 a1).bind fun t213 => (if t213 = true then (none) else ((limelightlaw06_live.f).bind fun t214 => (some t214)))) else (none))) else (none))) else (none))))))))) else ((limelightlaw06_live.f).bind fun t201 => (some t201)))
theorem limelightlaw06_FlatTells.mono : ∀ a0 a1 a2 k, LeO (limelightlaw06_FlatTells.f k a0 a1 a2) (limelightlaw06_FlatTells.f (k + 1) a0 a1 a2) := by
 intro a0 a1 a2 k
 unfold limelightlaw06_FlatTells.f
 repeat' first
   | (with_reducible exact limelightref06_Above.mono _ _ _ _)
   | (with_reducible exact limelightref06_Has.mono _ _ _)
   | (with_reducible exact limelightref06_Kids.mono _ _ _)
   | (with_reducible exact limelightref06_Parent.mono _ _ _)
   | (with_reducible exact limelightref06_Up.mono _ _ _)
   | (with_reducible exact LeO.refl _)
   | (with_reducible exact LeO.none _)
   | (with_reducible refine LeO.ite ?_ ?_)
   | (with_reducible refine LeO.bind ?_ (fun _ => ?_))
   | exact limelightref06_Above.mono _ _ _ _
   | exact limelightref06_Has.mono _ _ _
   | exact limelightref06_Kids.mono _ _ _
   | exact limelightref06_Parent.mono _ _ _
   | exact limelightref06_Up.mono _ _ _
   | exact LeO.none _
   | refine LeO.ite ?_ ?_
   | refine LeO.bind ?_ (fun _ => ?_)
set_option maxHeartbeats 8000000 in
set_option maxRecDepth 100000 in
theorem limelightlaw06_FlatTells.calls (k : Nat) (A0 : Option Addr) (c0 : Nat) (l0 : List (S36)) (a1 : Int) (a2 : Int) (r : Bool) (w : World) (hr0 : Kd.C k36 w A0 l0.length l0) (hc0 : l0.length ≤ c0) (h : limelightlaw06_FlatTells.f k l0 a1 a2 = some r) :
  Calls Try.prog 3 #[.slice A0 l0.length c0, .int .i64 a1, .int .i64 a2] w fun e w' => e = .returned (.bool r) ∧ Below w.heap.size w w' := by
 have HR0 := Aside0.mk hr0
 have HC0 := Aside0.mk hc0
 clear hr0 hc0
 have HB := Aside0.mk (Below.refl w.heap.size w)
 have H : ((limelightref01_Few.f l0).bind fun t200 => (if t200 = true then ((limelightref03_Both.f l0 a1 a2).bind fun t202 => (if t202 = true then ((flat_Kids.f l0 a1).bind fun t215 => ((limelightref06_Kids.f k l0 a1).bind fun t218 => ((limelightref01_Ints.f t215 t218).bind fun t221 => (if t221 = true then ((flat_Parent.f l0 a1).bind fun t222 => ((limelightref06_Parent.f k l0 a1).bind fun t223 => (if t222 = t223 then ((flat_Up.f l0 a1).bind fun t224 => ((limelightref06_Up.f k l0 a1).bind fun t227 => ((limelightref01_Ints.f t224 t227).bind fun t230 => (if t230 = true then ((flat_Has.f l0 a1).bind fun t231 => ((limelightref06_Has.f k l0 a1).bind fun t232 => (if (t231 == t232) = true then ((flat_Above.f l0 a1 a2).bind fun t233 => ((limelightref06_Above.f k l0 a1 a2).bind fun t234 => (if (t233 == t234) = true then ((limelightlaw06_live.f).bind fun t235 => (some t235)) else (none)))) else (none)))) else (none))))) else (none)))) else (none))))) else ((flat_Above.f l0 a1 a2).bind fun t203 => (if t203 = true then (none) else ((limelightref03_Both.f l0 a1 a1).bind fun t204 => (if t204 = true then ((limelightlaw06_live.f).bind fun t205 => (some t205)) else ((flat_Kids.f l0 a1).bind fun t206 => (if (t206.length : Int) = 0 then ((flat_Parent.f l0 a1).bind fun t209 => (if t209 = (-1) then ((flat_Up.f l0 a1).bind fun t210 => (if (t210.length : Int) = 0 then ((flat_Has.f l0 a1).bind fun t213 => (if t213 = true then (none) else ((limelightlaw06_live.f).bind fun t214 => (some t214)))) else (none))) else (none))) else (none))))))))) else ((limelightlaw06_live.f).bind fun t201 => (some t201)))) = some r := h
 clear h
 replace H := Option.bind_eq_some_iff.mp H
 obtain ⟨t200, A40, H⟩ := H
 replace H : (if t200 = true then ((limelightref03_Both.f l0 a1 a2).bind fun t202 => (if t202 = true then ((flat_Kids.f l0 a1).bind fun t215 => ((limelightref06_Kids.f k l0 a1).bind fun t218 => ((limelightref01_Ints.f t215 t218).bind fun t221 => (if t221 = true then ((flat_Parent.f l0 a1).bind fun t222 => ((limelightref06_Parent.f k l0 a1).bind fun t223 => (if t222 = t223 then ((flat_Up.f l0 a1).bind fun t224 => ((limelightref06_Up.f k l0 a1).bind fun t227 => ((limelightref01_Ints.f t224 t227).bind fun t230 => (if t230 = true then ((flat_Has.f l0 a1).bind fun t231 => ((limelightref06_Has.f k l0 a1).bind fun t232 => (if (t231 == t232) = true then ((flat_Above.f l0 a1 a2).bind fun t233 => ((limelightref06_Above.f k l0 a1 a2).bind fun t234 => (if (t233 == t234) = true then ((limelightlaw06_live.f).bind fun t235 => (some t235)) else (none)))) else (none)))) else (none))))) else (none)))) else (none))))) else ((flat_Above.f l0 a1 a2).bind fun t203 => (if t203 = true then (none) else ((limelightref03_Both.f l0 a1 a1).bind fun t204 => (if t204 = true then ((limelightlaw06_live.f).bind fun t205 => (some t205)) else ((flat_Kids.f l0 a1).bind fun t206 => (if (t206.length : Int) = 0 then ((flat_Parent.f l0 a1).bind fun t209 => (if t209 = (-1) then ((flat_Up.f l0 a1).bind fun t210 => (if (t210.length : Int) = 0 then ((flat_Has.f l0 a1).bind fun t213 => (if t213 = true then (none) else ((limelightlaw06_live.f).bind fun t214 => (some t214)))) else (none))) else (none))) else (none))))))))) else ((limelightlaw06_live.f).bind fun t201 => (some t201))) = some r := H
 have A4 := Aside0.mk A40
 clear A40
 by_cases c5 : t200 = true
 ·subst c5
  have H1 : ((limelightref03_Both.f l0 a1 a2).bind fun t202 => (if t202 = true then ((flat_Kids.f l0 a1).bind fun t215 => ((limelightref06_Kids.f k l0 a1).bind fun t218 => ((limelightref01_Ints.f t215 t218).bind fun t221 => (if t221 = true then ((flat_Parent.f l0 a1).bind fun t222 => ((limelightref06_Parent.f k l0 a1).bind fun t223 => (if t222 = t223 then ((flat_Up.f l0 a1).bind fun t224 => ((limelightref06_Up.f k l0 a1).bind fun t227 => ((limelightref01_Ints.f t224 t227).bind fun t230 => (if t230 = true then ((flat_Has.f l0 a1).bind fun t231 => ((limelightref06_Has.f k l0 a1).bind fun t232 => (if (t231 == t232) = true then ((flat_Above.f l0 a1 a2).bind fun t233 => ((limelightref06_Above.f k l0 a1 a2).bind fun t234 => (if (t233 == t234) = true then ((limelightlaw06_live.f).bind fun t235 => (some t235)) else (none)))) else (none)))) else (none))))) else (none)))) else (none))))) else ((flat_Above.f l0 a1 a2).bind fun t203 => (if t203 = true then (none) else ((limelightref03_Both.f l0 a1 a1).bind fun t204 => (if t204 = true then ((limelightlaw06_live.f).bind fun t205 => (some t205)) else ((flat_Kids.f l0 a1).bind fun t206 => (if (t206.length : Int) = 0 then ((flat_Parent.f l0 a1).bind fun t209 => (if t209 = (-1) then ((flat_Up.f l0 a1).bind fun t210 => (if (t210.length : Int) = 0 then ((flat_Has.f l0 a1).bind fun t213 => (if t213 = true then (none) else ((limelightlaw06_live.f).bind fun t214 => (some t214)))) else (none))) else (none))) else (none))))))))) = some r := by rw [if_pos rfl] at H; exact H
  clear H
  have H := H1
  clear H1
  replace H := Option.bind_eq_some_iff.mp H
  obtain ⟨t202, A60, H⟩ := H
  replace H : (if t202 = true then ((flat_Kids.f l0 a1).bind fun t215 => ((limelightref06_Kids.f k l0 a1).bind fun t218 => ((limelightref01_Ints.f t215 t218).bind fun t221 => (if t221 = true then ((flat_Parent.f l0 a1).bind fun t222 => ((limelightref06_Parent.f k l0 a1).bind fun t223 => (if t222 = t223 then ((flat_Up.f l0 a1).bind fun t224 => ((limelightref06_Up.f k l0 a1).bind fun t227 => ((limelightref01_Ints.f t224 t227).bind fun t230 => (if t230 = true then ((flat_Has.f l0 a1).bind fun t231 => ((limelightref06_Has.f k l0 a1).bind fun t232 => (if (t231 == t232) = true then ((flat_Above.f l0 a1 a2).bind fun t233 => ((limelightref06_Above.f k l0 a1 a2).bind fun t234 => (if (t233 == t234) = true then ((limelightlaw06_live.f).bind fun t235 => (some t235)) else (none)))) else (none)))) else (none))))) else (none)))) else (none))))) else ((flat_Above.f l0 a1 a2).bind fun t203 => (if t203 = true then (none) else ((limelightref03_Both.f l0 a1 a1).bind fun t204 => (if t204 = true then ((limelightlaw06_live.f).bind fun t205 => (some t205)) else ((flat_Kids.f l0 a1).bind fun t206 => (if (t206.length : Int) = 0 then ((flat_Parent.f l0 a1).bind fun t209 => (if t209 = (-1) then ((flat_Up.f l0 a1).bind fun t210 => (if (t210.length : Int) = 0 then ((flat_Has.f l0 a1).bind fun t213 => (if t213 = true then (none) else ((limelightlaw06_live.f).bind fun t214 => (some t214)))) else (none))) else (none))) else (none)))))))) = some r := H
  have A6 := Aside0.mk A60
  clear A60
  by_cases c7 : t202 = true
  ·subst c7
   have H1 : ((flat_Kids.f l0 a1).bind fun t215 => ((limelightref06_Kids.f k l0 a1).bind fun t218 => ((limelightref01_Ints.f t215 t218).bind fun t221 => (if t221 = true then ((flat_Parent.f l0 a1).bind fun t222 => ((limelightref06_Parent.f k l0 a1).bind fun t223 => (if t222 = t223 then ((flat_Up.f l0 a1).bind fun t224 => ((limelightref06_Up.f k l0 a1).bind fun t227 => ((limelightref01_Ints.f t224 t227).bind fun t230 => (if t230 = true then ((flat_Has.f l0 a1).bind fun t231 => ((limelightref06_Has.f k l0 a1).bind fun t232 => (if (t231 == t232) = true then ((flat_Above.f l0 a1 a2).bind fun t233 => ((limelightref06_Above.f k l0 a1 a2).bind fun t234 => (if (t233 == t234) = true then ((limelightlaw06_live.f).bind fun t235 => (some t235)) else (none)))) else (none)))) else (none))))) else (none)))) else (none))))) = some r := by rw [if_pos rfl] at H; exact H
   clear H
   have H := H1
   clear H1
   replace H := Option.bind_eq_some_iff.mp H
   obtain ⟨t215, A80, H⟩ := H
   replace H : ((limelightref06_Kids.f k l0 a1).bind fun t218 => ((limelightref01_Ints.f t215 t218).bind fun t221 => (if t221 = true then ((flat_Parent.f l0 a1).bind fun t222 => ((limelightref06_Parent.f k l0 a1).bind fun t223 => (if t222 = t223 then ((flat_Up.f l0 a1).bind fun t224 => ((limelightref06_Up.f k l0 a1).bind fun t227 => ((limelightref01_Ints.f t224 t227).bind fun t230 => (if t230 = true then ((flat_Has.f l0 a1).bind fun t231 => ((limelightref06_Has.f k l0 a1).bind fun t232 => (if (t231 == t232) = true then ((flat_Above.f l0 a1 a2).bind fun t233 => ((limelightref06_Above.f k l0 a1 a2).bind fun t234 => (if (t233 == t234) = true then ((limelightlaw06_live.f).bind fun t235 => (some t235)) else (none)))) else (none)))) else (none))))) else (none)))) else (none)))) = some r := H
   have A8 := Aside0.mk A80
   clear A80
   replace H := Option.bind_eq_some_iff.mp H
   obtain ⟨t218, A90, H⟩ := H
   replace H : ((limelightref01_Ints.f t215 t218).bind fun t221 => (if t221 = true then ((flat_Parent.f l0 a1).bind fun t222 => ((limelightref06_Parent.f k l0 a1).bind fun t223 => (if t222 = t223 then ((flat_Up.f l0 a1).bind fun t224 => ((limelightref06_Up.f k l0 a1).bind fun t227 => ((limelightref01_Ints.f t224 t227).bind fun t230 => (if t230 = true then ((flat_Has.f l0 a1).bind fun t231 => ((limelightref06_Has.f k l0 a1).bind fun t232 => (if (t231 == t232) = true then ((flat_Above.f l0 a1 a2).bind fun t233 => ((limelightref06_Above.f k l0 a1 a2).bind fun t234 => (if (t233 == t234) = true then ((limelightlaw06_live.f).bind fun t235 => (some t235)) else (none)))) else (none)))) else (none))))) else (none)))) else (none))) = some r := H
   have A9 := Aside0.mk A90
   clear A90
   replace H := Option.bind_eq_some_iff.mp H
   obtain ⟨t221, A100, H⟩ := H
   replace H : (if t221 = true then ((flat_Parent.f l0 a1).bind fun t222 => ((limelightref06_Parent.f k l0 a1).bind fun t223 => (if t222 = t223 then ((flat_Up.f l0 a1).bind fun t224 => ((limelightref06_Up.f k l0 a1).bind fun t227 => ((limelightref01_Ints.f t224 t227).bind fun t230 => (if t230 = true then ((flat_Has.f l0 a1).bind fun t231 => ((limelightref06_Has.f k l0 a1).bind fun t232 => (if (t231 == t232) = true then ((flat_Above.f l0 a1 a2).bind fun t233 => ((limelightref06_Above.f k l0 a1 a2).bind fun t234 => (if (t233 == t234) = true then ((limelightlaw06_live.f).bind fun t235 => (some t235)) else (none)))) else (none)))) else (none))))) else (none)))) else (none)) = some r := H
   have A10 := Aside0.mk A100
   clear A100
   by_cases c11 : t221 = true
   ·subst c11
    have H1 : ((flat_Parent.f l0 a1).bind fun t222 => ((limelightref06_Parent.f k l0 a1).bind fun t223 => (if t222 = t223 then ((flat_Up.f l0 a1).bind fun t224 => ((limelightref06_Up.f k l0 a1).bind fun t227 => ((limelightref01_Ints.f t224 t227).bind fun t230 => (if t230 = true then ((flat_Has.f l0 a1).bind fun t231 => ((limelightref06_Has.f k l0 a1).bind fun t232 => (if (t231 == t232) = true then ((flat_Above.f l0 a1 a2).bind fun t233 => ((limelightref06_Above.f k l0 a1 a2).bind fun t234 => (if (t233 == t234) = true then ((limelightlaw06_live.f).bind fun t235 => (some t235)) else (none)))) else (none)))) else (none))))) else (none)))) = some r := by rw [if_pos rfl] at H; exact H
    clear H
    have H := H1
    clear H1
    replace H := Option.bind_eq_some_iff.mp H
    obtain ⟨t222, A120, H⟩ := H
    replace H : ((limelightref06_Parent.f k l0 a1).bind fun t223 => (if t222 = t223 then ((flat_Up.f l0 a1).bind fun t224 => ((limelightref06_Up.f k l0 a1).bind fun t227 => ((limelightref01_Ints.f t224 t227).bind fun t230 => (if t230 = true then ((flat_Has.f l0 a1).bind fun t231 => ((limelightref06_Has.f k l0 a1).bind fun t232 => (if (t231 == t232) = true then ((flat_Above.f l0 a1 a2).bind fun t233 => ((limelightref06_Above.f k l0 a1 a2).bind fun t234 => (if (t233 == t234) = true then ((limelightlaw06_live.f).bind fun t235 => (some t235)) else (none)))) else (none)))) else (none))))) else (none))) = some r := H
    have A12 := Aside0.mk A120
    clear A120
    replace H := Option.bind_eq_some_iff.mp H
    obtain ⟨t223, A130, H⟩ := H
    replace H : (if t222 = t223 then ((flat_Up.f l0 a1).bind fun t224 => ((limelightref06_Up.f k l0 a1).bind fun t227 => ((limelightref01_Ints.f t224 t227).bind fun t230 => (if t230 = true then ((flat_Has.f l0 a1).bind fun t231 => ((limelightref06_Has.f k l0 a1).bind fun t232 => (if (t231 == t232) = true then ((flat_Above.f l0 a1 a2).bind fun t233 => ((limelightref06_Above.f k l0 a1 a2).bind fun t234 => (if (t233 == t234) = true then ((limelightlaw06_live.f).bind fun t235 => (some t235)) else (none)))) else (none)))) else (none))))) else (none)) = some r := H
    have A13 := Aside0.mk A130
    clear A130
    by_cases c14 : t222 = t223
    ·rw [if_pos c14] at H
     have c14b0 : (t222 == t223) = true := beq_iff_eq.mpr c14
     have c14b1 : (t222 != t223) = false := bne_eq_false_iff_eq.mpr c14
     clear c14
     replace H := Option.bind_eq_some_iff.mp H
     obtain ⟨t224, A150, H⟩ := H
     replace H : ((limelightref06_Up.f k l0 a1).bind fun t227 => ((limelightref01_Ints.f t224 t227).bind fun t230 => (if t230 = true then ((flat_Has.f l0 a1).bind fun t231 => ((limelightref06_Has.f k l0 a1).bind fun t232 => (if (t231 == t232) = true then ((flat_Above.f l0 a1 a2).bind fun t233 => ((limelightref06_Above.f k l0 a1 a2).bind fun t234 => (if (t233 == t234) = true then ((limelightlaw06_live.f).bind fun t235 => (some t235)) else (none)))) else (none)))) else (none)))) = some r := H
     have A15 := Aside0.mk A150
     clear A150
     replace H := Option.bind_eq_some_iff.mp H
     obtain ⟨t227, A160, H⟩ := H
     replace H : ((limelightref01_Ints.f t224 t227).bind fun t230 => (if t230 = true then ((flat_Has.f l0 a1).bind fun t231 => ((limelightref06_Has.f k l0 a1).bind fun t232 => (if (t231 == t232) = true then ((flat_Above.f l0 a1 a2).bind fun t233 => ((limelightref06_Above.f k l0 a1 a2).bind fun t234 => (if (t233 == t234) = true then ((limelightlaw06_live.f).bind fun t235 => (some t235)) else (none)))) else (none)))) else (none))) = some r := H
     have A16 := Aside0.mk A160
     clear A160
     replace H := Option.bind_eq_some_iff.mp H
     obtain ⟨t230, A170, H⟩ := H
     replace H : (if t230 = true then ((flat_Has.f l0 a1).bind fun t231 => ((limelightref06_Has.f k l0 a1).bind fun t232 => (if (t231 == t232) = true then ((flat_Above.f l0 a1 a2).bind fun t233 => ((limelightref06_Above.f k l0 a1 a2).bind fun t234 => (if (t233 == t234) = true then ((limelightlaw06_live.f).bind fun t235 => (some t235)) else (none)))) else (none)))) else (none)) = some r := H
     have A17 := Aside0.mk A170
     clear A170
     by_cases c18 : t230 = true
     ·subst c18
      have H1 : ((flat_Has.f l0 a1).bind fun t231 => ((limelightref06_Has.f k l0 a1).bind fun t232 => (if (t231 == t232) = true then ((flat_Above.f l0 a1 a2).bind fun t233 => ((limelightref06_Above.f k l0 a1 a2).bind fun t234 => (if (t233 == t234) = true then ((limelightlaw06_live.f).bind fun t235 => (some t235)) else (none)))) else (none)))) = some r := by rw [if_pos rfl] at H; exact H
      clear H
      have H := H1
      clear H1
      replace H := Option.bind_eq_some_iff.mp H
      obtain ⟨t231, A190, H⟩ := H
      replace H : ((limelightref06_Has.f k l0 a1).bind fun t232 => (if (t231 == t232) = true then ((flat_Above.f l0 a1 a2).bind fun t233 => ((limelightref06_Above.f k l0 a1 a2).bind fun t234 => (if (t233 == t234) = true then ((limelightlaw06_live.f).bind fun t235 => (some t235)) else (none)))) else (none))) = some r := H
      have A19 := Aside0.mk A190
      clear A190
      replace H := Option.bind_eq_some_iff.mp H
      obtain ⟨t232, A200, H⟩ := H
      replace H : (if (t231 == t232) = true then ((flat_Above.f l0 a1 a2).bind fun t233 => ((limelightref06_Above.f k l0 a1 a2).bind fun t234 => (if (t233 == t234) = true then ((limelightlaw06_live.f).bind fun t235 => (some t235)) else (none)))) else (none)) = some r := H
      have A20 := Aside0.mk A200
      clear A200
      by_cases c21 : (t231 == t232) = true
      ·rw [if_pos c21] at H
       have c21b0 : (t231 == t232) = true := c21
       (try (have c21b1 : decide (t231 = t232) = true := by simpa using c21))
       (try (have c21b2 : (t231 == t232) = true := by simpa using c21))
       clear c21
       replace H := Option.bind_eq_some_iff.mp H
       obtain ⟨t233, A220, H⟩ := H
       replace H : ((limelightref06_Above.f k l0 a1 a2).bind fun t234 => (if (t233 == t234) = true then ((limelightlaw06_live.f).bind fun t235 => (some t235)) else (none))) = some r := H
       have A22 := Aside0.mk A220
       clear A220
       replace H := Option.bind_eq_some_iff.mp H
       obtain ⟨t234, A230, H⟩ := H
       replace H : (if (t233 == t234) = true then ((limelightlaw06_live.f).bind fun t235 => (some t235)) else (none)) = some r := H
       have A23 := Aside0.mk A230
       clear A230
       by_cases c24 : (t233 == t234) = true
       ·rw [if_pos c24] at H
        have c24b0 : (t233 == t234) = true := c24
        (try (have c24b1 : decide (t233 = t234) = true := by simpa using c24))
        (try (have c24b2 : (t233 == t234) = true := by simpa using c24))
        clear c24
        replace H := Option.bind_eq_some_iff.mp H
        obtain ⟨t235, A250, H⟩ := H
        replace H : (some t235) = some r := H
        have A25 := Aside0.mk A250
        clear A250
        obtain rfl := Option.some.inj H
        go_enter Try.func3, Try.ntmps3
        go_wp2_with (first | ((with_reducible refine gate_callee (f := 9) rfl ?_); refine goesL_ (some 8) rfl rfl Try.func9 (by kernel_rfl) rfl #[.slice A0 l0.length c0] rfl margs_ ?_; (with_reducible refine (limelightref01_Few.calls _ _ l0 true _ ?side1 ?side2 A4.out).mono ?_); (case side1 => exact kcb_ (HR0.out)); (case side2 => exact HC0.out); rintro e w26 ⟨rfl, hb⟩; refine ⟨_, rfl, ?_⟩; have n0_ := Aside0.mk (below_step bel_ hb); clear HB; have HB := n0_; clear n0_; (try clear hb); (try clear hb2); (try clear hk); (try clear hi)) | ((with_reducible refine gate_callee (f := 11) rfl ?_); refine goesL_ (some 14) rfl rfl Try.func11 (by kernel_rfl) rfl #[.slice A0 l0.length c0, .int .i64 a1, .int .i64 a2] rfl margs_ ?_; (with_reducible refine (limelightref03_Both.calls _ _ l0 a1 a2 true _ ?side1 ?side2 A6.out).mono ?_); (case side1 => exact kcb_ ((Kd.C_below HR0.out HB.out))); (case side2 => exact HC0.out); rintro e w27 ⟨rfl, hb⟩; refine ⟨_, rfl, ?_⟩; have n0_ := Aside0.mk (below_step bel_ hb); clear HB; have HB := n0_; clear n0_; (try clear hb); (try clear hb2); (try clear hk); (try clear hi)) | ((with_reducible refine gate_callee (f := 13) rfl ?_); refine goesL_ (some 58) rfl rfl Try.func13 (by kernel_rfl) rfl #[.slice A0 l0.length c0, .int .i64 a1] rfl margs_ ?_; (with_reducible refine (flat_Kids.calls _ _ l0 a1 t215 _ ?side1 ?side2 A8.out).mono ?_); (case side1 => exact kcb_ ((Kd.C_below HR0.out HB.out))); (case side2 => exact HC0.out); rintro e w28 ⟨v216, rfl, ho0, hb⟩; refine ⟨_, rfl, ?_⟩; have n0_ := Aside0.mk (Kd.R_lower ho0 (below_size bel_)); have n1_ := Aside0.mk (below_step bel_ hb); clear HB; have HO217 := n0_; have HB := n1_; clear n0_ n1_; (try clear hb); (try clear hb2); (try clear hk); (try clear hi); (try clear ho0)) | ((with_reducible refine gate_callee (f := 18) rfl ?_); refine goesL_ (some 61) rfl rfl Try.func18 (by kernel_rfl) rfl #[.slice A0 l0.length c0, .int .i64 a1] rfl margs_ ?_; (with_reducible refine (limelightref06_Kids.calls k (fun k_ => k_ < w.heap.size) _ _ l0 a1 t218 _ ?side1 A9.out).mono ?_); (case side1 => exact Kd.V_mk HC0.out (Kd.F_below (Kd.C_F k36_heap HR0.out) bel_)); rintro e w29 ⟨v219, rfl, ho0, hb⟩; refine ⟨_, rfl, ?_⟩; have n0_ := Aside0.mk (Kd.R_below (kra_ HO217.out) hb); have n1_ := Aside0.mk (Kd.V_lower (Kd.V_mono (ok' := fun k_ => some k_ ≠ (v216 : Value).ownBlock) ho0 (fun k_ hk_ => Or.elim hk_ (fun hs_ => fun e_ => Nat.not_le.2 hs_ (Kd.R_base HO217.out k_ e_.symm)) (fun hn_ => (Kd.fresh' (Kd.R_lt (kra_ HO217.out)) k_ hn_)))) (below_size bel_)); have n2_ := Aside0.mk (below_step bel_ hb); clear HO217; clear HB; have HO217 := n0_; have HO220 := n1_; have HB := n2_; clear n0_ n1_ n2_; (try clear hb); (try clear hb2); (try clear hk); (try clear hi); (try clear ho0); obtain ⟨Ao30, co30, eo30⟩ := Kd.R_slice HO217.out; subst eo30; obtain ⟨Ao31, co31, eo31⟩ := Kd.V_slice HO220.out; subst eo31) | ((with_reducible refine gate_callee (f := 17) rfl ?_); refine goesL_ (some 62) rfl rfl Try.func17 (by kernel_rfl) rfl #[.slice Ao30 t215.length co30, .slice Ao31 t218.length co31] rfl margs_ ?_; (with_reducible refine (limelightref01_Ints.calls _ _ t215 _ _ t218 true _ ?side1 ?side2 ?side3 ?side4 A10.out).mono ?_); (case side1 => exact kcb_ ((Kd.R_reads' HO217.out).2.2)); (case side2 => exact (Kd.R_reads' HO217.out).2.1); (case side3 => exact kcb_ ((Kd.V_reads' HO220.out).2.2)); (case side4 => exact (Kd.V_reads' HO220.out).2.1); rintro e w32 ⟨rfl, hb⟩; refine ⟨_, rfl, ?_⟩; have n0_ := Aside0.mk (Kd.R_below (kra_ HO217.out) hb); have n1_ := Aside0.mk (Kd.V_below (by (with_reducible repeat (first | apply Kd.V_alloc | apply Kd.V_drewN | apply Kd.V_drew)); exact HO220.out) hb); have n2_ := Aside0.mk (below_step bel_ hb); clear HO217; clear HO220; clear HB; have HO217 := n0_; have HO220 := n1_; have HB := n2_; clear n0_ n1_ n2_; (try clear hb); (try clear hb2); (try clear hk); (try clear hi)) | (go_at_call 14; (with_reducible refine (flat_Parent.calls _ _ l0 a1 t222 _ ?side1 ?side2 A12.out).mono ?_); (case side1 => exact kcb_ ((Kd.C_below HR0.out HB.out))); (case side2 => exact HC0.out); rintro e w33 ⟨rfl, hb⟩; have n0_ := Aside0.mk (Kd.R_below (kra_ HO217.out) hb); have n1_ := Aside0.mk (Kd.V_below (by (with_reducible repeat (first | apply Kd.V_alloc | apply Kd.V_drewN | apply Kd.V_drew)); exact HO220.out) hb); have n2_ := Aside0.mk (below_step bel_ hb); clear HO217; clear HO220; clear HB; have HO217 := n0_; have HO220 := n1_; have HB := n2_; clear n0_ n1_ n2_; (try clear hb); (try clear hb2); (try clear hk); (try clear hi)) | (go_at_call 19; (with_reducible refine (limelightref06_Parent.calls k _ _ l0 a1 t223 _ ?side1 ?side2 A13.out).mono ?_); (case side1 => exact kcb_ ((Kd.C_below HR0.out HB.out))); (case side2 => exact HC0.out); rintro e w34 ⟨rfl, hb⟩; have n0_ := Aside0.mk (Kd.R_below (kra_ HO217.out) hb); have n1_ := Aside0.mk (Kd.V_below (by (with_reducible repeat (first | apply Kd.V_alloc | apply Kd.V_drewN | apply Kd.V_drew)); exact HO220.out) hb); have n2_ := Aside0.mk (below_step bel_ hb); clear HO217; clear HO220; clear HB; have HO217 := n0_; have HO220 := n1_; have HB := n2_; clear n0_ n1_ n2_; (try clear hb); (try clear hb2); (try clear hk); (try clear hi)) | (go_at_call 15; (with_reducible refine (flat_Up.calls _ _ l0 a1 t224 _ ?side1 ?side2 A15.out).mono ?_); (case side1 => exact kcb_ ((Kd.C_below HR0.out HB.out))); (case side2 => exact HC0.out); rintro e w35 ⟨v225, rfl, ho0, hb⟩; have n0_ := Aside0.mk (Kd.R_elder' (kra_ HO217.out) (Kd.R_base ho0) hb); have n1_ := Aside0.mk (Kd.V_elder' (by (with_reducible repeat (first | apply Kd.V_alloc | apply Kd.V_drewN | apply Kd.V_drew)); exact HO220.out) (Kd.R_base ho0) hb); have n2_ := Aside0.mk (Kd.R_lower (Kd.R_new' ho0 (Kd.R_lt (kra_ HO217.out))) (below_size bel_)); have n3_ := Aside0.mk (below_step bel_ hb); clear HO217; clear HO220; clear HB; have HO217 := n0_; have HO220 := n1_; have HO226 := n2_; have HB := n3_; clear n0_ n1_ n2_ n3_; (try clear hb); (try clear hb2); (try clear hk); (try clear hi); (try clear ho0)) | (go_at_call 20; (with_reducible refine (limelightref06_Up.calls k _ _ l0 a1 t227 _ ?side1 ?side2 A16.out).mono ?_); (case side1 => exact kcb_ ((Kd.C_below HR0.out HB.out))); (case side2 => exact HC0.out); rintro e w36 ⟨v228, rfl, ho0, hb⟩; have n0_ := Aside0.mk (Kd.R_elder' (kra_ HO217.out) (Kd.R_base ho0) hb); have n1_ := Aside0.mk (Kd.V_elder' (by (with_reducible repeat (first | apply Kd.V_alloc | apply Kd.V_drewN | apply Kd.V_drew)); exact HO220.out) (Kd.R_base ho0) hb); have n2_ := Aside0.mk (Kd.R_elder' (kra_ HO226.out) (Kd.R_base ho0) hb); have n3_ := Aside0.mk (Kd.R_lower (Kd.R_new' (Kd.R_new' ho0 (Kd.R_lt (kra_ HO217.out))) (Kd.R_lt (kra_ HO226.out))) (below_size bel_)); have n4_ := Aside0.mk (below_step bel_ hb); clear HO217; clear HO220; clear HO226; clear HB; have HO217 := n0_; have HO220 := n1_; have HO226 := n2_; have HO229 := n3_; have HB := n4_; clear n0_ n1_ n2_ n3_ n4_; (try clear hb); (try clear hb2); (try clear hk); (try clear hi); (try clear ho0); obtain ⟨Ao37, co37, eo37⟩ := Kd.R_slice HO226.out; subst eo37; obtain ⟨Ao38, co38, eo38⟩ := Kd.R_slice HO229.out; subst eo38) | (go_at_call 17; (with_reducible refine (limelightref01_Ints.calls _ _ t224 _ _ t227 true _ ?side1 ?side2 ?side3 ?side4 A17.out).mono ?_); (case side1 => exact kcb_ ((Kd.R_reads' HO226.out).2.2)); (case side2 => exact (Kd.R_reads' HO226.out).2.1); (case side3 => exact kcb_ ((Kd.R_reads' HO229.out).2.2)); (case side4 => exact (Kd.R_reads' HO229.out).2.1); rintro e w39 ⟨rfl, hb⟩; have n0_ := Aside0.mk (Kd.R_below (kra_ HO217.out) hb); have n1_ := Aside0.mk (Kd.V_below (by (with_reducible repeat (first | apply Kd.V_alloc | apply Kd.V_drewN | apply Kd.V_drew)); exact HO220.out) hb); have n2_ := Aside0.mk (Kd.R_below (kra_ HO226.out) hb); have n3_ := Aside0.mk (Kd.R_below (kra_ HO229.out) hb); have n4_ := Aside0.mk (below_step bel_ hb); clear HO217; clear HO220; clear HO226; clear HO229; clear HB; have HO217 := n0_; have HO220 := n1_; have HO226 := n2_; have HO229 := n3_; have HB := n4_; clear n0_ n1_ n2_ n3_ n4_; (try clear hb); (try clear hb2); (try clear hk); (try clear hi)) | (go_at_call 16; (with_reducible refine (flat_Has.calls _ _ l0 a1 t231 _ ?side1 ?side2 A19.out).mono ?_); (case side1 => exact kcb_ ((Kd.C_below HR0.out HB.out))); (case side2 => exact HC0.out); rintro e w40 ⟨rfl, hb⟩; have n0_ := Aside0.mk (Kd.R_below (kra_ HO217.out) hb); have n1_ := Aside0.mk (Kd.V_below (by (with_reducible repeat (first | apply Kd.V_alloc | apply Kd.V_drewN | apply Kd.V_drew)); exact HO220.out) hb); have n2_ := Aside0.mk (Kd.R_below (kra_ HO226.out) hb); have n3_ := Aside0.mk (Kd.R_below (kra_ HO229.out) hb); have n4_ := Aside0.mk (below_step bel_ hb); clear HO217; clear HO220; clear HO226; clear HO229; clear HB; have HO217 := n0_; have HO220 := n1_; have HO226 := n2_; have HO229 := n3_; have HB := n4_; clear n0_ n1_ n2_ n3_ n4_; (try clear hb); (try clear hb2); (try clear hk); (try clear hi)) | (go_at_call 21; (with_reducible refine (limelightref06_Has.calls k _ _ l0 a1 t232 _ ?side1 ?side2 A20.out).mono ?_); (case side1 => exact kcb_ ((Kd.C_below HR0.out HB.out))); (case side2 => exact HC0.out); rintro e w41 ⟨rfl, hb⟩; have n0_ := Aside0.mk (Kd.R_below (kra_ HO217.out) hb); have n1_ := Aside0.mk (Kd.V_below (by (with_reducible repeat (first | apply Kd.V_alloc | apply Kd.V_drewN | apply Kd.V_drew)); exact HO220.out) hb); have n2_ := Aside0.mk (Kd.R_below (kra_ HO226.out) hb); have n3_ := Aside0.mk (Kd.R_below (kra_ HO229.out) hb); have n4_ := Aside0.mk (below_step bel_ hb); clear HO217; clear HO220; clear HO226; clear HO229; clear HB; have HO217 := n0_; have HO220 := n1_; have HO226 := n2_; have HO229 := n3_; have HB := n4_; clear n0_ n1_ n2_ n3_ n4_; (try clear hb); (try clear hb2); (try clear hk); (try clear hi)) | (go_at_call 12; (with_reducible refine (flat_Above.calls _ _ l0 a1 a2 t233 _ ?side1 ?side2 A22.out).mono ?_); (case side1 => exact kcb_ ((Kd.C_below HR0.out HB.out))); (case side2 => exact HC0.out); rintro e w42 ⟨rfl, hb⟩; have n0_ := Aside0.mk (Kd.R_below (kra_ HO217.out) hb); have n1_ := Aside0.mk (Kd.V_below (by (with_reducible repeat (first | apply Kd.V_alloc | apply Kd.V_drewN | apply Kd.V_drew)); exact HO220.out) hb); have n2_ := Aside0.mk (Kd.R_below (kra_ HO226.out) hb); have n3_ := Aside0.mk (Kd.R_below (kra_ HO229.out) hb); have n4_ := Aside0.mk (below_step bel_ hb); clear HO217; clear HO220; clear HO226; clear HO229; clear HB; have HO217 := n0_; have HO220 := n1_; have HO226 := n2_; have HO229 := n3_; have HB := n4_; clear n0_ n1_ n2_ n3_ n4_; (try clear hb); (try clear hb2); (try clear hk); (try clear hi)) | (go_at_call 22; (with_reducible refine (limelightref06_Above.calls k _ _ l0 a1 a2 t234 _ ?side1 ?side2 A23.out).mono ?_); (case side1 => exact kcb_ ((Kd.C_below HR0.out HB.out))); (case side2 => exact HC0.out); rintro e w43 ⟨rfl, hb⟩; have n0_ := Aside0.mk (Kd.R_below (kra_ HO217.out) hb); have n1_ := Aside0.mk (Kd.V_below (by (with_reducible repeat (first | apply Kd.V_alloc | apply Kd.V_drewN | apply Kd.V_drew)); exact HO220.out) hb); have n2_ := Aside0.mk (Kd.R_below (kra_ HO226.out) hb); have n3_ := Aside0.mk (Kd.R_below (kra_ HO229.out) hb); have n4_ := Aside0.mk (below_step bel_ hb); clear HO217; clear HO220; clear HO226; clear HO229; clear HB; have HO217 := n0_; have HO220 := n1_; have HO226 := n2_; have HO229 := n3_; have HB := n4_; clear n0_ n1_ n2_ n3_ n4_; (try clear hb); (try clear hb2); (try clear hk); (try clear hi)) | (go_at_call 10; (with_reducible refine (limelightlaw06_live.calls  t235 _ A25.out).mono ?_); rintro e w44 ⟨rfl, hb⟩; have n0_ := Aside0.mk (Kd.R_below (kra_ HO217.out) hb); have n1_ := Aside0.mk (Kd.V_below (by (with_reducible repeat (first | apply Kd.V_alloc | apply Kd.V_drewN | apply Kd.V_drew)); exact HO220.out) hb); have n2_ := Aside0.mk (Kd.R_below (kra_ HO226.out) hb); have n3_ := Aside0.mk (Kd.R_below (kra_ HO229.out) hb); have n4_ := Aside0.mk (below_step bel_ hb); clear HO217; clear HO220; clear HO226; clear HO229; clear HB; have HO217 := n0_; have HO220 := n1_; have HO226 := n2_; have HO229 := n3_; have HB := n4_; clear n0_ n1_ n2_ n3_ n4_; (try clear hb); (try clear hb2); (try clear hk); (try clear hi)))
        go_ret
        exact ⟨by first | rfl | (simp [errW_none, errW_some] <;> rfl) | (simp [*, errW_none, errW_some] <;> rfl), bel_⟩
       ·rw [if_neg c24] at H
        exact absurd H (by simp)
      ·rw [if_neg c21] at H
       exact absurd H (by simp)
     ·replace c18 := Bool.eq_false_iff.mpr c18
      subst c18
      have H1 : (none) = some r := by rw [if_neg (show ¬ (false = true) by decide)] at H; exact H
      clear H
      have H := H1
      clear H1
      exact absurd H (by simp)
    ·rw [if_neg c14] at H
     exact absurd H (by simp)
   ·replace c11 := Bool.eq_false_iff.mpr c11
    subst c11
    have H1 : (none) = some r := by rw [if_neg (show ¬ (false = true) by decide)] at H; exact H
    clear H
    have H := H1
    clear H1
    exact absurd H (by simp)
  ·replace c7 := Bool.eq_false_iff.mpr c7
   subst c7
   have H1 : ((flat_Above.f l0 a1 a2).bind fun t203 => (if t203 = true then (none) else ((limelightref03_Both.f l0 a1 a1).bind fun t204 => (if t204 = true then ((limelightlaw06_live.f).bind fun t205 => (some t205)) else ((flat_Kids.f l0 a1).bind fun t206 => (if (t206.length : Int) = 0 then ((flat_Parent.f l0 a1).bind fun t209 => (if t209 = (-1) then ((flat_Up.f l0 a1).bind fun t210 => (if (t210.length : Int) = 0 then ((flat_Has.f l0 a1).bind fun t213 => (if t213 = true then (none) else ((limelightlaw06_live.f).bind fun t214 => (some t214)))) else (none))) else (none))) else (none))))))) = some r := by rw [if_neg (show ¬ (false = true) by decide)] at H; exact H
   clear H
   have H := H1
   clear H1
   replace H := Option.bind_eq_some_iff.mp H
   obtain ⟨t203, A450, H⟩ := H
   replace H : (if t203 = true then (none) else ((limelightref03_Both.f l0 a1 a1).bind fun t204 => (if t204 = true then ((limelightlaw06_live.f).bind fun t205 => (some t205)) else ((flat_Kids.f l0 a1).bind fun t206 => (if (t206.length : Int) = 0 then ((flat_Parent.f l0 a1).bind fun t209 => (if t209 = (-1) then ((flat_Up.f l0 a1).bind fun t210 => (if (t210.length : Int) = 0 then ((flat_Has.f l0 a1).bind fun t213 => (if t213 = true then (none) else ((limelightlaw06_live.f).bind fun t214 => (some t214)))) else (none))) else (none))) else (none)))))) = some r := H
   have A45 := Aside0.mk A450
   clear A450
   by_cases c46 : t203 = true
   ·subst c46
    have H1 : (none) = some r := by rw [if_pos rfl] at H; exact H
    clear H
    have H := H1
    clear H1
    exact absurd H (by simp)
   ·replace c46 := Bool.eq_false_iff.mpr c46
    subst c46
    have H1 : ((limelightref03_Both.f l0 a1 a1).bind fun t204 => (if t204 = true then ((limelightlaw06_live.f).bind fun t205 => (some t205)) else ((flat_Kids.f l0 a1).bind fun t206 => (if (t206.length : Int) = 0 then ((flat_Parent.f l0 a1).bind fun t209 => (if t209 = (-1) then ((flat_Up.f l0 a1).bind fun t210 => (if (t210.length : Int) = 0 then ((flat_Has.f l0 a1).bind fun t213 => (if t213 = true then (none) else ((limelightlaw06_live.f).bind fun t214 => (some t214)))) else (none))) else (none))) else (none))))) = some r := by rw [if_neg (show ¬ (false = true) by decide)] at H; exact H
    clear H
    have H := H1
    clear H1
    replace H := Option.bind_eq_some_iff.mp H
    obtain ⟨t204, A470, H⟩ := H
    replace H : (if t204 = true then ((limelightlaw06_live.f).bind fun t205 => (some t205)) else ((flat_Kids.f l0 a1).bind fun t206 => (if (t206.length : Int) = 0 then ((flat_Parent.f l0 a1).bind fun t209 => (if t209 = (-1) then ((flat_Up.f l0 a1).bind fun t210 => (if (t210.length : Int) = 0 then ((flat_Has.f l0 a1).bind fun t213 => (if t213 = true then (none) else ((limelightlaw06_live.f).bind fun t214 => (some t214)))) else (none))) else (none))) else (none)))) = some r := H
    have A47 := Aside0.mk A470
    clear A470
    by_cases c48 : t204 = true
    ·subst c48
     have H1 : ((limelightlaw06_live.f).bind fun t205 => (some t205)) = some r := by rw [if_pos rfl] at H; exact H
     clear H
     have H := H1
     clear H1
     replace H := Option.bind_eq_some_iff.mp H
     obtain ⟨t205, A490, H⟩ := H
     replace H : (some t205) = some r := H
     have A49 := Aside0.mk A490
     clear A490
     obtain rfl := Option.some.inj H
     go_enter Try.func3, Try.ntmps3
     go_wp2_with (first | ((with_reducible refine gate_callee (f := 9) rfl ?_); refine goesL_ (some 8) rfl rfl Try.func9 (by kernel_rfl) rfl #[.slice A0 l0.length c0] rfl margs_ ?_; (with_reducible refine (limelightref01_Few.calls _ _ l0 true _ ?side1 ?side2 A4.out).mono ?_); (case side1 => exact kcb_ (HR0.out)); (case side2 => exact HC0.out); rintro e w50 ⟨rfl, hb⟩; refine ⟨_, rfl, ?_⟩; have n0_ := Aside0.mk (below_step bel_ hb); clear HB; have HB := n0_; clear n0_; (try clear hb); (try clear hb2); (try clear hk); (try clear hi)) | ((with_reducible refine gate_callee (f := 11) rfl ?_); refine goesL_ (some 14) rfl rfl Try.func11 (by kernel_rfl) rfl #[.slice A0 l0.length c0, .int .i64 a1, .int .i64 a2] rfl margs_ ?_; (with_reducible refine (limelightref03_Both.calls _ _ l0 a1 a2 false _ ?side1 ?side2 A6.out).mono ?_); (case side1 => exact kcb_ ((Kd.C_below HR0.out HB.out))); (case side2 => exact HC0.out); rintro e w51 ⟨rfl, hb⟩; refine ⟨_, rfl, ?_⟩; have n0_ := Aside0.mk (below_step bel_ hb); clear HB; have HB := n0_; clear n0_; (try clear hb); (try clear hb2); (try clear hk); (try clear hi)) | ((with_reducible refine gate_callee (f := 12) rfl ?_); refine goesL_ (some 19) rfl rfl Try.func12 (by kernel_rfl) rfl #[.slice A0 l0.length c0, .int .i64 a1, .int .i64 a2] rfl margs_ ?_; (with_reducible refine (flat_Above.calls _ _ l0 a1 a2 false _ ?side1 ?side2 A45.out).mono ?_); (case side1 => exact kcb_ ((Kd.C_below HR0.out HB.out))); (case side2 => exact HC0.out); rintro e w52 ⟨rfl, hb⟩; refine ⟨_, rfl, ?_⟩; have n0_ := Aside0.mk (below_step bel_ hb); clear HB; have HB := n0_; clear n0_; (try clear hb); (try clear hb2); (try clear hk); (try clear hi)) | (go_at_call 11; (with_reducible refine (limelightref03_Both.calls _ _ l0 a1 a1 true _ ?side1 ?side2 A47.out).mono ?_); (case side1 => exact kcb_ ((Kd.C_below HR0.out HB.out))); (case side2 => exact HC0.out); rintro e w53 ⟨rfl, hb⟩; have n0_ := Aside0.mk (below_step bel_ hb); clear HB; have HB := n0_; clear n0_; (try clear hb); (try clear hb2); (try clear hk); (try clear hi)) | (go_at_call 10; (with_reducible refine (limelightlaw06_live.calls  t205 _ A49.out).mono ?_); rintro e w54 ⟨rfl, hb⟩; have n0_ := Aside0.mk (below_step bel_ hb); clear HB; have HB := n0_; clear n0_; (try clear hb); (try clear hb2); (try clear hk); (try clear hi)))
     go_ret
     exact ⟨by first | rfl | (simp [errW_none, errW_some] <;> rfl) | (simp [*, errW_none, errW_some] <;> rfl), bel_⟩
    ·replace c48 := Bool.eq_false_iff.mpr c48
     subst c48
     have H1 : ((flat_Kids.f l0 a1).bind fun t206 => (if (t206.length : Int) = 0 then ((flat_Parent.f l0 a1).bind fun t209 => (if t209 = (-1) then ((flat_Up.f l0 a1).bind fun t210 => (if (t210.length : Int) = 0 then ((flat_Has.f l0 a1).bind fun t213 => (if t213 = true then (none) else ((limelightlaw06_live.f).bind fun t214 => (some t214)))) else (none))) else (none))) else (none))) = some r := by rw [if_neg (show ¬ (false = true) by decide)] at H; exact H
     clear H
     have H := H1
     clear H1
     replace H := Option.bind_eq_some_iff.mp H
     obtain ⟨t206, A550, H⟩ := H
     replace H : (if (t206.length : Int) = 0 then ((flat_Parent.f l0 a1).bind fun t209 => (if t209 = (-1) then ((flat_Up.f l0 a1).bind fun t210 => (if (t210.length : Int) = 0 then ((flat_Has.f l0 a1).bind fun t213 => (if t213 = true then (none) else ((limelightlaw06_live.f).bind fun t214 => (some t214)))) else (none))) else (none))) else (none)) = some r := H
     have A55 := Aside0.mk A550
     clear A550
     by_cases c56 : (t206.length : Int) = 0
     ·rw [if_pos c56] at H
      have c56b0 : ((t206.length : Int) == 0) = true := beq_iff_eq.mpr c56
      have c56b1 : ((t206.length : Int) != 0) = false := bne_eq_false_iff_eq.mpr c56
      clear c56
      replace H := Option.bind_eq_some_iff.mp H
      obtain ⟨t209, A570, H⟩ := H
      replace H : (if t209 = (-1) then ((flat_Up.f l0 a1).bind fun t210 => (if (t210.length : Int) = 0 then ((flat_Has.f l0 a1).bind fun t213 => (if t213 = true then (none) else ((limelightlaw06_live.f).bind fun t214 => (some t214)))) else (none))) else (none)) = some r := H
      have A57 := Aside0.mk A570
      clear A570
      by_cases c58 : t209 = (-1)
      ·rw [if_pos c58] at H
       have c58b0 : (t209 == (-1)) = true := beq_iff_eq.mpr c58
       have c58b1 : (t209 != (-1)) = false := bne_eq_false_iff_eq.mpr c58
       clear c58
       replace H := Option.bind_eq_some_iff.mp H
       obtain ⟨t210, A590, H⟩ := H
       replace H : (if (t210.length : Int) = 0 then ((flat_Has.f l0 a1).bind fun t213 => (if t213 = true then (none) else ((limelightlaw06_live.f).bind fun t214 => (some t214)))) else (none)) = some r := H
       have A59 := Aside0.mk A590
       clear A590
       by_cases c60 : (t210.length : Int) = 0
       ·rw [if_pos c60] at H
        have c60b0 : ((t210.length : Int) == 0) = true := beq_iff_eq.mpr c60
        have c60b1 : ((t210.length : Int) != 0) = false := bne_eq_false_iff_eq.mpr c60
        clear c60
        replace H := Option.bind_eq_some_iff.mp H
        obtain ⟨t213, A610, H⟩ := H
        replace H : (if t213 = true then (none) else ((limelightlaw06_live.f).bind fun t214 => (some t214))) = some r := H
        have A61 := Aside0.mk A610
        clear A610
        by_cases c62 : t213 = true
        ·subst c62
         have H1 : (none) = some r := by rw [if_pos rfl] at H; exact H
         clear H
         have H := H1
         clear H1
         exact absurd H (by simp)
        ·replace c62 := Bool.eq_false_iff.mpr c62
         subst c62
         have H1 : ((limelightlaw06_live.f).bind fun t214 => (some t214)) = some r := by rw [if_neg (show ¬ (false = true) by decide)] at H; exact H
         clear H
         have H := H1
         clear H1
         replace H := Option.bind_eq_some_iff.mp H
         obtain ⟨t214, A630, H⟩ := H
         replace H : (some t214) = some r := H
         have A63 := Aside0.mk A630
         clear A630
         obtain rfl := Option.some.inj H
         go_enter Try.func3, Try.ntmps3
         go_wp2_with (first | ((with_reducible refine gate_callee (f := 9) rfl ?_); refine goesL_ (some 8) rfl rfl Try.func9 (by kernel_rfl) rfl #[.slice A0 l0.length c0] rfl margs_ ?_; (with_reducible refine (limelightref01_Few.calls _ _ l0 true _ ?side1 ?side2 A4.out).mono ?_); (case side1 => exact kcb_ (HR0.out)); (case side2 => exact HC0.out); rintro e w64 ⟨rfl, hb⟩; refine ⟨_, rfl, ?_⟩; have n0_ := Aside0.mk (below_step bel_ hb); clear HB; have HB := n0_; clear n0_; (try clear hb); (try clear hb2); (try clear hk); (try clear hi)) | ((with_reducible refine gate_callee (f := 11) rfl ?_); refine goesL_ (some 14) rfl rfl Try.func11 (by kernel_rfl) rfl #[.slice A0 l0.length c0, .int .i64 a1, .int .i64 a2] rfl margs_ ?_; (with_reducible refine (limelightref03_Both.calls _ _ l0 a1 a2 false _ ?side1 ?side2 A6.out).mono ?_); (case side1 => exact kcb_ ((Kd.C_below HR0.out HB.out))); (case side2 => exact HC0.out); rintro e w65 ⟨rfl, hb⟩; refine ⟨_, rfl, ?_⟩; have n0_ := Aside0.mk (below_step bel_ hb); clear HB; have HB := n0_; clear n0_; (try clear hb); (try clear hb2); (try clear hk); (try clear hi)) | ((with_reducible refine gate_callee (f := 12) rfl ?_); refine goesL_ (some 19) rfl rfl Try.func12 (by kernel_rfl) rfl #[.slice A0 l0.length c0, .int .i64 a1, .int .i64 a2] rfl margs_ ?_; (with_reducible refine (flat_Above.calls _ _ l0 a1 a2 false _ ?side1 ?side2 A45.out).mono ?_); (case side1 => exact kcb_ ((Kd.C_below HR0.out HB.out))); (case side2 => exact HC0.out); rintro e w66 ⟨rfl, hb⟩; refine ⟨_, rfl, ?_⟩; have n0_ := Aside0.mk (below_step bel_ hb); clear HB; have HB := n0_; clear n0_; (try clear hb); (try clear hb2); (try clear hk); (try clear hi)) | (go_at_call 11; (with_reducible refine (limelightref03_Both.calls _ _ l0 a1 a1 false _ ?side1 ?side2 A47.out).mono ?_); (case side1 => exact kcb_ ((Kd.C_below HR0.out HB.out))); (case side2 => exact HC0.out); rintro e w67 ⟨rfl, hb⟩; have n0_ := Aside0.mk (below_step bel_ hb); clear HB; have HB := n0_; clear n0_; (try clear hb); (try clear hb2); (try clear hk); (try clear hi)) | (go_at_call 13; (with_reducible refine (flat_Kids.calls _ _ l0 a1 t206 _ ?side1 ?side2 A55.out).mono ?_); (case side1 => exact kcb_ ((Kd.C_below HR0.out HB.out))); (case side2 => exact HC0.out); rintro e w68 ⟨v207, rfl, ho0, hb⟩; have n0_ := Aside0.mk (Kd.R_lower ho0 (below_size bel_)); have n1_ := Aside0.mk (below_step bel_ hb); clear HB; have HO208 := n0_; have HB := n1_; clear n0_ n1_; (try clear hb); (try clear hb2); (try clear hk); (try clear hi); (try clear ho0); obtain ⟨Ao69, co69, eo69⟩ := Kd.R_slice HO208.out; subst eo69) | (go_at_call 14; (with_reducible refine (flat_Parent.calls _ _ l0 a1 t209 _ ?side1 ?side2 A57.out).mono ?_); (case side1 => exact kcb_ ((Kd.C_below HR0.out HB.out))); (case side2 => exact HC0.out); rintro e w70 ⟨rfl, hb⟩; have n0_ := Aside0.mk (Kd.R_below (kra_ HO208.out) hb); have n1_ := Aside0.mk (below_step bel_ hb); clear HO208; clear HB; have HO208 := n0_; have HB := n1_; clear n0_ n1_; (try clear hb); (try clear hb2); (try clear hk); (try clear hi)) | (go_at_call 15; (with_reducible refine (flat_Up.calls _ _ l0 a1 t210 _ ?side1 ?side2 A59.out).mono ?_); (case side1 => exact kcb_ ((Kd.C_below HR0.out HB.out))); (case side2 => exact HC0.out); rintro e w71 ⟨v211, rfl, ho0, hb⟩; have n0_ := Aside0.mk (Kd.R_elder' (kra_ HO208.out) (Kd.R_base ho0) hb); have n1_ := Aside0.mk (Kd.R_lower (Kd.R_new' ho0 (Kd.R_lt (kra_ HO208.out))) (below_size bel_)); have n2_ := Aside0.mk (below_step bel_ hb); clear HO208; clear HB; have HO208 := n0_; have HO212 := n1_; have HB := n2_; clear n0_ n1_ n2_; (try clear hb); (try clear hb2); (try clear hk); (try clear hi); (try clear ho0); obtain ⟨Ao72, co72, eo72⟩ := Kd.R_slice HO212.out; subst eo72) | (go_at_call 16; (with_reducible refine (flat_Has.calls _ _ l0 a1 false _ ?side1 ?side2 A61.out).mono ?_); (case side1 => exact kcb_ ((Kd.C_below HR0.out HB.out))); (case side2 => exact HC0.out); rintro e w73 ⟨rfl, hb⟩; have n0_ := Aside0.mk (Kd.R_below (kra_ HO208.out) hb); have n1_ := Aside0.mk (Kd.R_below (kra_ HO212.out) hb); have n2_ := Aside0.mk (below_step bel_ hb); clear HO208; clear HO212; clear HB; have HO208 := n0_; have HO212 := n1_; have HB := n2_; clear n0_ n1_ n2_; (try clear hb); (try clear hb2); (try clear hk); (try clear hi)) | (go_at_call 10; (with_reducible refine (limelightlaw06_live.calls  t214 _ A63.out).mono ?_); rintro e w74 ⟨rfl, hb⟩; have n0_ := Aside0.mk (Kd.R_below (kra_ HO208.out) hb); have n1_ := Aside0.mk (Kd.R_below (kra_ HO212.out) hb); have n2_ := Aside0.mk (below_step bel_ hb); clear HO208; clear HO212; clear HB; have HO208 := n0_; have HO212 := n1_; have HB := n2_; clear n0_ n1_ n2_; (try clear hb); (try clear hb2); (try clear hk); (try clear hi)))
         go_ret
         exact ⟨by first | rfl | (simp [errW_none, errW_some] <;> rfl) | (simp [*, errW_none, errW_some] <;> rfl), bel_⟩
       ·rw [if_neg c60] at H
        exact absurd H (by simp)
      ·rw [if_neg c58] at H
       exact absurd H (by simp)
     ·rw [if_neg c56] at H
      exact absurd H (by simp)
 ·replace c5 := Bool.eq_false_iff.mpr c5
  subst c5
  have H1 : ((limelightlaw06_live.f).bind fun t201 => (some t201)) = some r := by rw [if_neg (show ¬ (false = true) by decide)] at H; exact H
  clear H
  have H := H1
  clear H1
  replace H := Option.bind_eq_some_iff.mp H
  obtain ⟨t201, A750, H⟩ := H
  replace H : (some t201) = some r := H
  have A75 := Aside0.mk A750
  clear A750
  obtain rfl := Option.some.inj H
  go_enter Try.func3, Try.ntmps3
  go_wp2_with (first | ((with_reducible refine gate_callee (f := 9) rfl ?_); refine goesL_ (some 8) rfl rfl Try.func9 (by kernel_rfl) rfl #[.slice A0 l0.length c0] rfl margs_ ?_; (with_reducible refine (limelightref01_Few.calls _ _ l0 false _ ?side1 ?side2 A4.out).mono ?_); (case side1 => exact kcb_ (HR0.out)); (case side2 => exact HC0.out); rintro e w76 ⟨rfl, hb⟩; refine ⟨_, rfl, ?_⟩; have n0_ := Aside0.mk (below_step bel_ hb); clear HB; have HB := n0_; clear n0_; (try clear hb); (try clear hb2); (try clear hk); (try clear hi)) | ((with_reducible refine gate_callee (f := 10) rfl ?_); refine goesL_ (some 10) rfl rfl Try.func10 (by kernel_rfl) rfl #[] rfl margs_ ?_; (with_reducible refine (limelightlaw06_live.calls  t201 _ A75.out).mono ?_); rintro e w77 ⟨rfl, hb⟩; refine ⟨_, rfl, ?_⟩; have n0_ := Aside0.mk (below_step bel_ hb); clear HB; have HB := n0_; clear n0_; (try clear hb); (try clear hb2); (try clear hk); (try clear hi)))
  go_ret
  exact ⟨by first | rfl | (simp [errW_none, errW_some] <;> rfl) | (simp [*, errW_none, errW_some] <;> rfl), bel_⟩

-- GIVEN: function 24 (flat_List): MU

end Go.Proofs.Ytfdhfnjdafaogaa.P
