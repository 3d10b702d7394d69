/- Listeners: how one lies in cells, and what is asked of lists of them, in plain words. No conditions. -/
import Derived.Test.YtkmmdjfacdkiiaaLib
import Derived.Laws.StructEq
namespace Go.Proofs.Lime
open Go.RowKit
set_option linter.unusedVariables false
set_option linter.unusedSimpArgs false

structure Hear where
  node : Int
  type : Int
  cap : Bool
  once : Bool
  prog : Int
def Hear.cells (h : Hear) : List Value := [.int .i64 h.node, .int .i64 h.type, .bool h.cap, .bool h.once, .int .i64 h.prog]
abbrev Hear.val (h : Hear) : Value := .agg #[.int .i64 h.node, .int .i64 h.type, .bool h.cap, .bool h.once, .int .i64 h.prog]
def hearK : Kd Hear := Kd.flat 5 Hear.cells (fun _ => rfl) (fun x u hu => by
  simp only [Hear.cells, List.mem_cons, List.not_mem_nil, or_false] at hu
  rcases hu with rfl | rfl | rfl | rfl | rfl <;> rfl)

theorem hear_K (T : Nat → Prop) (W : World) (x : Hear) : hearK.K T W x x.cells := rfl
theorem hear_box {T : Nat → Prop} {W : World} (x : Hear) {B : Nat} (hB : W.heap[B]? = some (.cells #[.int .i64 x.node, .int .i64 x.type, .bool x.cap, .bool x.once, .int .i64 x.prog] 24 (0, 0))) (hT : T B) : Row hearK T W (.slice (some ⟨B, 0, none⟩) 1 1) [x] := Row.box (cs := x.cells) hB hT (hear_K T W x)
/-- Are two one? -/
def Hear.one (a b : Hear) : Bool := a.node == b.node && (a.type == b.type && (a.cap == b.cap && a.prog == b.prog))
def Hear.same (a b : Hear) : Bool := a.node == b.node && (a.type == b.type && (a.cap == b.cap && (a.once == b.once && a.prog == b.prog)))
def Hear.may (h : Hear) : Bool := decide (0 ≤ h.node) && (decide (h.node ≤ 63) && (decide (0 ≤ h.type) && (decide (h.type ≤ 8) && (decide (0 ≤ h.prog) && decide (h.prog ≤ 63)))))
/-- Where the first is of which p holds (the first of the list has number k); below 0: there is none. -/
def idxFrom {α : Type} (p : α → Bool) : Int → List α → Int
  | _, [] => -1
  | k, x :: xs => if p x then k else idxFrom p (k + 1) xs
abbrev idx {α : Type} (p : α → Bool) (xs : List α) : Int := idxFrom p 0 xs
theorem idxFrom_hit {α : Type} {p : α → Bool} {k : Int} {xs : List α} {n : Nat} (h : n < xs.length) (hp : p xs[n] = true) : idxFrom p k (xs.drop n) = k := by
  rw [List.drop_eq_getElem_cons h, idxFrom, if_pos hp]
theorem idxFrom_miss {α : Type} {p : α → Bool} {k : Int} {xs : List α} {n : Nat} (h : n < xs.length) (hp : p xs[n] = false) : idxFrom p k (xs.drop n) = idxFrom p (k + 1) (xs.drop (n + 1)) := by
  rw [List.drop_eq_getElem_cons h, idxFrom, hp]; rfl
theorem idxFrom_end {α : Type} {p : α → Bool} {k : Int} {xs : List α} {n : Nat} (h : ¬ n < xs.length) : idxFrom p k (xs.drop n) = -1 := by
  rw [List.drop_eq_nil_of_le (by omega)]; rfl

theorem hear_at {S : Nat → Prop} {w : World} {A : Option Addr} {n c : Nat} {xs : List Hear} (h : Row hearK S w (.slice A n c) xs) (k : Nat) (hk : k < xs.length) :
    ∃ b o, A = some ⟨b, o, none⟩ ∧ S b ∧ b < w.heap.size ∧ w.cell? ⟨b, o + k * 5, none⟩ = some (.int .i64 xs[k].node) ∧ w.cell? ⟨b, o + k * 5 + 1, none⟩ = some (.int .i64 xs[k].type) ∧ w.cell? ⟨b, o + k * 5 + 2, none⟩ = some (.bool xs[k].cap) ∧ w.cell? ⟨b, o + k * 5 + 3, none⟩ = some (.bool xs[k].once) ∧ w.cell? ⟨b, o + k * 5 + 4, none⟩ = some (.int .i64 xs[k].prog) := by
  obtain ⟨b, o, c', cs, e, hS, hb, hK, hc⟩ := h.get k hk
  injection e with e1 e2 e3
  have hK' : cs = Hear.cells xs[k] := hK
  subst hK'
  exact ⟨b, o, e1, hS, hb, hc 0 _ rfl, hc 1 _ rfl, hc 2 _ rfl, hc 3 _ rfl, hc 4 _ rfl⟩

theorem eqf_last {P : Program} {d : Nat} {xs ys : Array Value} {f : Field} {a b : Value} {r : Bool} {w : World} (hn : (f.name == "_") = false) (ha : (part f.type xs f.offset).run P w = .ok a w) (hb : (part f.type ys f.offset).run P w = .ok b w) (he : (Op.equalIn d f.type a b).run P w = .ok r w) : (Op.eqFields d xs ys [f]).run P w = .ok r w := by
  have hn' : f.name ≠ "_" := by simpa using hn
  simp only [Op.eqFields, if_pos hn', Sem.run_bind, ha, hb, he, Result.andThen_ok]
  cases r <;> simp
theorem eqf_cons {P : Program} {d : Nat} {xs ys : Array Value} {f : Field} {fs : List Field} {a b : Value} {r s : Bool} {w : World} (hn : (f.name == "_") = false) (ha : (part f.type xs f.offset).run P w = .ok a w) (hb : (part f.type ys f.offset).run P w = .ok b w) (he : (Op.equalIn d f.type a b).run P w = .ok r w) (hr : (Op.eqFields d xs ys fs).run P w = .ok s w) : (Op.eqFields d xs ys (f :: fs)).run P w = .ok (r && s) w := by
  have hn' : f.name ≠ "_" := by simpa using hn
  rw [Op.eqFields]
  simp only [if_pos hn', Sem.run_bind, ha, hb, he, Result.andThen_ok]
  cases r
  · simp
  · simpa using hr
theorem eqA_of {P : Program} {d : Nat} {xs ys : Array Value} {r : Bool} {w : World} {t : TypeId} {fs : Array Field} (hu : P.underlying t = some (.struct fs)) (hp : P.stoodInHeld t = false) (h : (Op.eqFields d xs ys fs.toList).run P w = .ok r w) : (Op.equalIn (d + 1) t (.agg xs) (.agg ys)).run P w = .ok r w := by
  have hf : P.fieldsOf t = fs := by simp [Program.fieldsOf, hu]
  rw [run_equalIn_struct (P := P) w d t xs ys (by rw [hf]; exact hu) hp, hf]
  exact h
/-- '==' of two listeners. -/
theorem eqHear (d : Nat) (w : World) (x0 y0 : Int) (x1 y1 : Int) (x2 y2 : Bool) (x3 y3 : Bool) (x4 y4 : Int) :
    (Op.equalIn (d + 2) 24 (.agg #[.int .i64 x0, .int .i64 x1, .bool x2, .bool x3, .int .i64 x4]) (.agg #[.int .i64 y0, .int .i64 y1, .bool y2, .bool y3, .int .i64 y4])).run Try.prog w = .ok (x0 == y0 && (x1 == y1 && (x2 == y2 && (x3 == y3 && (x4 == y4))))) w := by
  refine eqA_of Try.underlying24 (by kernel_rfl) ?_
  refine eqf_cons (by rfl) (by go_simp; rfl) (by go_simp; rfl) (by go_simp) ?_
  refine eqf_cons (by rfl) (by go_simp; rfl) (by go_simp; rfl) (by go_simp) ?_
  refine eqf_cons (by rfl) (by go_simp; rfl) (by go_simp; rfl) (by go_simp) ?_
  refine eqf_cons (by rfl) (by go_simp; rfl) (by go_simp; rfl) (by go_simp) ?_
  exact eqf_last (by rfl) (by go_simp; rfl) (by go_simp; rfl) (by go_simp)
theorem infoHear : (Try.prog.info? 24).map (fun i => (i.zero, i.size, i.bytes)) = some (some (.agg #[(.int .i64 0), (.int .i64 0), (.bool false), (.bool false), (.int .i64 0)]), 5, 32) := by kernel_rfl

/-- The same fields alike: '==' where Once was made alike first. -/
theorem one_once (x h : Hear) : (x.node == h.node && (x.type == h.type && (x.cap == h.cap && (h.once == h.once && x.prog == h.prog)))) = x.one h := by
  simp [Hear.one]

abbrev Any : Nat → Prop := fun _ => True
/-- What a call hands back: a list, and a number; nothing that was there has turned. -/
def RowNum {α : Type} (d : Kd α) (xs : List α) (k : Int) (w : World) (e : Ending) (w' : World) : Prop := ∃ v, e = .returned (.tuple #[v, .int .i64 k]) ∧ Row d Any w' v xs ∧ Stp w w'
/-- A list in memory of the call's own. -/
def OwnRet {α : Type} (d : Kd α) (t : TypeId) (xs : List α) (w : World) (e : Ending) (w' : World) : Prop := ∃ v, e = .returned v ∧ Own d t (w.heap.size ≤ ·) w' v xs ∧ Stp w w'

/-- Those that hear something. -/
def hearFor (l : List Hear) (node type : Int) (cap : Bool) : List Hear := l.filter fun h => h.node == node && (h.type == type && h.cap == cap)
theorem hearFor_step {xs : List Hear} {k : Nat} (h : k < xs.length) (node type : Int) (cap : Bool) : hearFor (xs.drop k) node type cap = (if (xs[k].node == node && (xs[k].type == type && xs[k].cap == cap)) then [xs[k]] else []) ++ hearFor (xs.drop (k + 1)) node type cap := by
  rw [List.drop_eq_getElem_cons h]
  simp only [hearFor, List.filter_cons]
  split <;> simp
/-- From the k-th on, where those ahead are 'pre': may one not be, or is one with an elder one? -/
def badFrom : List Hear → List Hear → Bool
  | _, [] => false
  | pre, x :: r => !x.may || (pre.any (·.one x) || badFrom (pre ++ [x]) r)
def hearCheck (l : List Hear) (nodes : Int) : Int := if l.length > 64 || badFrom [] l then 1 else if l.any (fun h => decide (nodes ≤ h.node)) then 2 else 0
def hearAdd (l : List Hear) (h : Hear) : List Hear := if h.may && (decide (idx (·.one h) l < 0) && decide (l.length < 64)) then l ++ [h] else l
def hearAddErr (l : List Hear) (h : Hear) : Int := if !h.may then 1 else if 0 ≤ idx (·.one h) l then 0 else if 64 ≤ l.length then 4 else 0
theorem badFrom_step {l : List Hear} {k : Nat} (h : k < l.length) : badFrom (l.take k) (l.drop k) = (!l[k].may || ((l.take k).any (·.one l[k]) || badFrom (l.take (k + 1)) (l.drop (k + 1)))) := by
  rw [List.drop_eq_getElem_cons h, badFrom, List.take_succ_eq_append_getElem h]
theorem rowNum_of {α : Type} {d : Kd α} {xs xs' : List α} {k k' : Int} {w w' : World} {v : Value} (hx : xs = xs') (hk : k = k') (hr : Row d Any w' v xs') (hs : Stp w w') : RowNum d xs k w (.returned (.tuple #[v, .int .i64 k'])) w' :=
  ⟨v, by rw [hk], by rw [hx]; exact hr, hs⟩
theorem hearAdd_1 {l : List Hear} {h : Hear} (h1 : (!h.may) = true) : hearAdd l h = l ∧ hearAddErr l h = 1 := by
  have : h.may = false := by simpa using h1
  simp [hearAdd, hearAddErr, this]
theorem hearAdd_2 {l : List Hear} {h : Hear} (h1 : (!h.may) = false) (h2 : 0 ≤ idx (·.one h) l) : hearAdd l h = l ∧ hearAddErr l h = 0 := by
  have : h.may = true := by simpa using h1
  have h3 : ¬ idx (·.one h) l < 0 := by omega
  simp only [hearAdd, hearAddErr, this]
  simp [h2, h3]
theorem hearAdd_3 {l : List Hear} {h : Hear} (h1 : (!h.may) = false) (h2 : idx (·.one h) l < 0) (h4 : 64 ≤ (l.length : Int)) : hearAdd l h = l ∧ hearAddErr l h = 4 := by
  have : h.may = true := by simpa using h1
  have h3 : ¬ 0 ≤ idx (·.one h) l := by omega
  have h5 : ¬ l.length < 64 := by omega
  have h6 : 64 ≤ l.length := by omega
  simp only [hearAdd, hearAddErr, this]
  simp [h2, h3, h5, h6]
theorem hearAdd_4 {l : List Hear} {h : Hear} (h1 : (!h.may) = false) (h2 : idx (·.one h) l < 0) (h4 : (l.length : Int) < 64) : hearAdd l h = l ++ [h] ∧ hearAddErr l h = 0 := by
  have : h.may = true := by simpa using h1
  have h3 : ¬ 0 ≤ idx (·.one h) l := by omega
  have h5 : l.length < 64 := by omega
  have h6 : ¬ 64 ≤ l.length := by omega
  simp only [hearAdd, hearAddErr, this]
  simp [h2, h3, h5, h6]
def hearDrop (l : List Hear) (h : Hear) : List Hear := if h.may && decide (0 ≤ idx (·.one h) l) then l.eraseIdx (idx (·.one h) l).toNat else l
def hearDropErr (l : List Hear) (h : Hear) : Int := if !h.may then 1 else if 0 ≤ idx (·.one h) l then 0 else 9
def hearSame (a b : List Hear) : Bool := a.length == b.length && (a.zip b).all fun p => p.1.same p.2
end Go.Proofs.Lime
