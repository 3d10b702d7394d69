/- What a claim's reading of an event tells of its cells. No conditions. -/
import Derived.Test.YtaggmjnpocndkaaGreatMA
namespace Go.Proofs.Lime
open Go.RowKit Go.ChangeShapes Go.WideShapes
set_option linter.unusedVariables false
set_option linter.unusedSimpArgs false
structure EvV where
  type : Int
  target : Int
  related : Int
  bubbles : Bool
  cancel : Bool
  composed : Bool
def EvV.cells (e : EvV) : List Value := [.int .i64 e.type, .int .i64 e.target, .int .i64 e.related, .bool e.bubbles, .bool e.cancel, .bool e.composed]
def evvK : Kd EvV := Kd.flat 6 EvV.cells (fun _ => rfl) (fun x u hu => by
  simp only [EvV.cells, List.mem_cons, List.not_mem_nil, or_false] at hu
  rcases hu with rfl | rfl | rfl | rfl | rfl | rfl <;> rfl)
theorem open_evv : Opens evvK (fun _ => True) 25 := by
  intro H enc w base spare held fuel cs x h
  have hl : cs.length = 6 := by
    obtain ⟨_, _, _, _, hl, _⟩ := DataW.trod_struct Tryz.underlying25 h
    exact hl.trans (by kernel_rfl)
  match cs, hl with
  | [c0, c1, c2, c3, c4, c5], _ =>
    have c1n : Tryz.prog.cellsOf 3 = 1 := by kernel_rfl
    have c1b : Tryz.prog.cellsOf 4 = 1 := by kernel_rfl
    obtain ⟨n0, y0, f0⟩ := open_field Tryz.underlying25 h 0 _ rfl
    obtain ⟨n1, y1, f1⟩ := open_field Tryz.underlying25 h 1 _ rfl
    obtain ⟨n2, y2, f2⟩ := open_field Tryz.underlying25 h 2 _ rfl
    obtain ⟨n3, y3, f3⟩ := open_field Tryz.underlying25 h 3 _ rfl
    obtain ⟨n4, y4, f4⟩ := open_field Tryz.underlying25 h 4 _ rfl
    obtain ⟨n5, y5, f5⟩ := open_field Tryz.underlying25 h 5 _ rfl
    simp only [List.getElem_toArray, List.getElem_cons_succ, List.getElem_cons_zero, c1n, c1b, List.drop_succ_cons, List.drop_zero, List.take_succ_cons, List.take_zero] at f0 f1 f2 f3 f4 f5
    obtain ⟨m0, e0, _, _⟩ := DataW.trod_int Tryz.underlying3 f0
    obtain ⟨m1, e1, _, _⟩ := DataW.trod_int Tryz.underlying3 f1
    obtain ⟨m2, e2, _, _⟩ := DataW.trod_int Tryz.underlying3 f2
    obtain ⟨m3, e3, _⟩ := DataW.trod_bool Tryz.underlying4 f3
    obtain ⟨m4, e4, _⟩ := DataW.trod_bool Tryz.underlying4 f4
    obtain ⟨m5, e5, _⟩ := DataW.trod_bool Tryz.underlying4 f5
    simp only [List.cons.injEq, and_true] at e0 e1 e2 e3 e4 e5
    subst e0 e1 e2 e3 e4 e5
    exact ⟨⟨m0, m1, m2, m3, m4, m5⟩, rfl, trivial⟩
end Go.Proofs.Lime
