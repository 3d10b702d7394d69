/- What a claim's reading of those who watch tells of the cells. No conditions. -/
import Derived.Test.YtpklhnggbhkmiaaMA
import Derived.Test.YtpklhnggbhkmiaaWT
namespace Go.Proofs.Lime
open Go.RowKit Go.ChangeShapes Go.WideShapes
set_option linter.unusedVariables false
set_option linter.unusedSimpArgs false
theorem open_kint : Opens intK (fun n => (Lit.int .i64 n).wf = true) 3 := by
  intro H enc w base spare held fuel cs x h
  obtain ⟨n, rfl, _, hw⟩ := DataW.trod_int Try.underlying3 h
  exact ⟨n, rfl, hw⟩
structure Wt where
  g : List (List Int)
  a : Int
  x : Bool
def wtK : Kd Wt where
  sz := 3
  K := fun S w y cs => ∃ v, cs = [v, .int .i64 y.a, .bool y.x] ∧ Row intsK S w v y.g
  len := fun h => by obtain ⟨v, rfl, _⟩ := h; rfl
  one := fun h u hu => by
    obtain ⟨v, rfl, hr⟩ := h
    simp only [List.mem_cons, List.not_mem_nil, or_false] at hu
    rcases hu with rfl | rfl | rfl
    · exact hr.one
    · rfl
    · rfl
  move := fun {S w w1 x cs} hm h => by
    obtain ⟨v, rfl, hr⟩ := h
    refine ⟨v, rfl, hr.form, fun j hj => ?_⟩
    obtain ⟨b, o, c, cs, rfl, hS, hb, hk, hc⟩ := hr.get j hj
    refine ⟨b, o, c, cs, rfl, hS, ?_, intsK.move hm hk, fun i u hi => (World.cell?_of_block (w := w) (a := ⟨b, o + j * intsK.sz + i, none⟩) (hm b hS)).trans (hc i u hi)⟩
    have := hm b hS
    rw [Array.getElem?_eq_getElem hb] at this
    exact (Array.getElem?_eq_some_iff.1 this).1
  mono := fun hS h => by obtain ⟨v, rfl, hr⟩ := h; exact ⟨v, rfl, hr.mono hS⟩
  bound := fun h => by obtain ⟨v, rfl, hr⟩ := h; exact ⟨v, rfl, hr.bound⟩
theorem open_ints2 : Opens intsK (fun _ => True) 22 := by
  intro H enc w base spare held fuel cs x h
  obtain ⟨v, xs, e, hr, _⟩ := open_row open_kint Try.underlying22 (by kernel_rfl) (by decide) h
  exact ⟨xs, ⟨v, e, hr⟩, trivial⟩
theorem open_wt : Opens wtK (fun _ => True) 33 := by
  intro H enc w base spare held fuel cs x h
  have hl : cs.length = 3 := by
    obtain ⟨_, _, _, _, hl, _⟩ := DataW.trod_struct Try.underlying33 h
    exact hl.trans (by kernel_rfl)
  match cs, hl with
  | [c0, c1, c2], _ =>
    have c1n : Try.prog.cellsOf 3 = 1 := by kernel_rfl
    have c1b : Try.prog.cellsOf 4 = 1 := by kernel_rfl
    have c1s : Try.prog.cellsOf 24 = 1 := by kernel_rfl
    obtain ⟨n0, y0, f0⟩ := open_field Try.underlying33 h 0 _ rfl
    obtain ⟨n1, y1, f1⟩ := open_field Try.underlying33 h 1 _ rfl
    obtain ⟨n2, y2, f2⟩ := open_field Try.underlying33 h 2 _ rfl
    simp only [List.getElem_toArray, List.getElem_cons_succ, List.getElem_cons_zero, c1n, c1b, c1s, List.drop_succ_cons, List.drop_zero, List.take_succ_cons, List.take_zero] at f0 f1 f2
    obtain ⟨v, G, e0, hr, _⟩ := open_row open_ints2 Try.underlying24 (by kernel_rfl) (by decide) f0
    obtain ⟨m1, e1, _, _⟩ := DataW.trod_int Try.underlying3 f1
    obtain ⟨m2, e2, _⟩ := DataW.trod_bool Try.underlying4 f2
    simp only [List.cons.injEq, and_true] at e0 e1 e2
    subst e0 e1 e2
    exact ⟨⟨G, m1, m2⟩, ⟨_, rfl, hr⟩, trivial⟩
end Go.Proofs.Lime
namespace Go.Proofs.Ytpklhnggbhkmiaa.P
open Go.RowKit Go.Proofs.YtpklhnggbhkmiaaW.PrintWords
theorem C_lists {S : Nat → Prop} {w : World} {A : Option Addr} {n c : Nat} {G : List (List Int)} (h : Lime.Row Lime.intsK S w (.slice A n c) G) : Kd.C (Kd.slice 3 (Kd.int .i64)) w A n G ∧ n ≤ c ∧ n = G.length := by
  have := C_of_row (d := Kd.slice 3 (Kd.int .i64)) id rfl (fun x cs h => by
    obtain ⟨v, rfl, hr⟩ := h
    obtain ⟨A', c', rfl, hc, hm⟩ := hr.form
    exact ⟨A', c', rfl, hc, (C_ints hr).1⟩) h
  rwa [List.map_id] at this
end Go.Proofs.Ytpklhnggbhkmiaa.P
