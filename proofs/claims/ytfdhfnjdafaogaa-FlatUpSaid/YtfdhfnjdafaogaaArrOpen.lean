/- What a claim's reading of an array of three numbers tells of its value. No conditions. -/
import Derived.Test.YtfdhfnjdafaogaaMA
namespace Go.Proofs.Lime
open Go.RowKit Go.ChangeShapes Go.WideShapes
set_option linter.unusedVariables false
set_option linter.unusedSimpArgs false
theorem open_arr3 {H : Type} {enc : TypeId × Value → H} {w : World} {base b0 : Nat} {r : Reach} {spare : Nat → Bool} {held : Bool} {v : Value} {D : DataW H} {ps : List MemPlace} (hval : Value.okWide Try.prog w r b0 38 v) (h : DataW.Trod enc Try.prog w base spare held 38 v D ps) :
    ∃ x y z : Int, v = .agg #[.int .i64 x, .int .i64 y, .int .i64 z] := by
  have hu : Try.prog.underlying 38 = some (.array 3 3) := Try.underlying38
  have c1n : Try.prog.cellsOf 3 = 1 := by kernel_rfl
  simp only [Value.okWide, hu] at hval
  obtain ⟨cs, rfl, hcs, _⟩ := hval
  obtain ⟨fuel, hf⟩ := h
  obtain ⟨xs, m, _, _, hl, hxl, hx⟩ := DataW.trod_array hu hf
  have hl3 : cs.toList.length = 3 := by
    have := hl.trans (show Try.prog.cellsOf 38 = 3 by kernel_rfl)
    simpa [Value.cells] using this
  obtain ⟨l⟩ := cs
  simp only [Value.cells] at hx hl3
  match l, hl3 with
  | [c0, c1, c2], _ =>
    have g0 := hx 0 (by omega)
    have g1 := hx 1 (by omega)
    have g2 := hx 2 (by omega)
    rw [List.getElem?_eq_getElem (by omega), c1n] at g0 g1 g2
    simp only [Nat.zero_mul, Nat.one_mul, List.drop_succ_cons, List.drop_zero, List.take_succ_cons, List.take_zero] at g0 g1 g2
    obtain ⟨m0, e0, _, _⟩ := DataW.trod_int Try.underlying3 g0
    obtain ⟨m1, e1, _, _⟩ := DataW.trod_int Try.underlying3 g1
    obtain ⟨m2, e2, _, _⟩ := DataW.trod_int Try.underlying3 g2
    simp only [List.cons.injEq, and_true] at e0 e1 e2
    subst e0 e1 e2
    exact ⟨m0, m1, m2, rfl⟩
end Go.Proofs.Lime
