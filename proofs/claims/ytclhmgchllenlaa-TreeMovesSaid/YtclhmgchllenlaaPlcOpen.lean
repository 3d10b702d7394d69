/- What a claim's reading of a place tells of its cells. No conditions. -/
import Derived.Test.YtclhmgchllenlaaMA
namespace Go.Proofs.Lime
open Go.RowKit Go.ChangeShapes Go.WideShapes
set_option linter.unusedVariables false
set_option linter.unusedSimpArgs false
structure PlV where
  parent : Int
  child : Int
  before : Int
def PlV.cells (e : PlV) : List Value := [.int .i64 e.parent, .int .i64 e.child, .int .i64 e.before]
def plK : Kd PlV := Kd.flat 3 PlV.cells (fun _ => rfl) (fun x u hu => by
  simp only [PlV.cells, List.mem_cons, List.not_mem_nil, or_false] at hu
  rcases hu with rfl | rfl | rfl <;> rfl)
theorem open_plc : Opens plK (fun _ => True) 33 := by
  intro H enc w base spare held fuel cs x h
  have hl : cs.length = 3 := by
    obtain ⟨_, _, _, _, hl, _⟩ := DataW.trod_struct Try.underlying33 h
    exact hl.trans (by kernel_rfl)
  match cs, hl with
  | [c0, c1, c2], _ =>
    have c1n : Try.prog.cellsOf 3 = 1 := by kernel_rfl
    obtain ⟨n0, y0, f0⟩ := open_field Try.underlying33 h 0 _ rfl
    obtain ⟨n1, y1, f1⟩ := open_field Try.underlying33 h 1 _ rfl
    obtain ⟨n2, y2, f2⟩ := open_field Try.underlying33 h 2 _ rfl
    simp only [List.getElem_toArray, List.getElem_cons_succ, List.getElem_cons_zero, c1n, List.drop_succ_cons, List.drop_zero, List.take_succ_cons, List.take_zero] at f0 f1 f2
    obtain ⟨m0, e0, _, _⟩ := DataW.trod_int Try.underlying3 f0
    obtain ⟨m1, e1, _, _⟩ := DataW.trod_int Try.underlying3 f1
    obtain ⟨m2, e2, _, _⟩ := DataW.trod_int Try.underlying3 f2
    simp only [List.cons.injEq, and_true] at e0 e1 e2
    subst e0 e1 e2
    exact ⟨⟨m0, m1, m2⟩, rfl, trivial⟩
end Go.Proofs.Lime
