/- Listeners: how one lies in cells, and what is asked of lists of them, in plain words. No conditions. Walks: where a listener stands; those that hear something. Walks of the document's functions on listeners; may a listener be. Walks: lists of listeners held against each other, copied, added to. Walks: may listeners be. Cells written one behind the other; clear. No conditions. A listener taken out of a row of the call's own, in place. Conditions: the index lies in the row. Walks: a listener dropped. -/
import Derived.Test.YtaggmjnpocndkaaGreatMA
import Derived.Laws.StructEq
namespace Go.Proofs.Lime
open Go.RowKit
set_option linter.unusedVariables false
set_option linter.unusedSimpArgs false

structure Hear where
  node : Int
  type : Int
  cap : Bool
  once : Bool
  prog : Int
def Hear.cells (h : Hear) : List Value := [.int .i64 h.node, .int .i64 h.type, .bool h.cap, .bool h.once, .int .i64 h.prog]
abbrev Hear.val (h : Hear) : Value := .agg #[.int .i64 h.node, .int .i64 h.type, .bool h.cap, .bool h.once, .int .i64 h.prog]
def hearK : Kd Hear := Kd.flat 5 Hear.cells (fun _ => rfl) (fun x u hu => by
  simp only [Hear.cells, List.mem_cons, List.not_mem_nil, or_false] at hu
  rcases hu with rfl | rfl | rfl | rfl | rfl <;> rfl)

theorem hear_K (T : Nat → Prop) (W : World) (x : Hear) : hearK.K T W x x.cells := rfl
theorem hear_box {T : Nat → Prop} {W : World} (x : Hear) {B : Nat} (hB : W.heap[B]? = some (.cells #[.int .i64 x.node, .int .i64 x.type, .bool x.cap, .bool x.once, .int .i64 x.prog] 35 (0, 0))) (hT : T B) : Row hearK T W (.slice (some ⟨B, 0, none⟩) 1 1) [x] := Row.box (cs := x.cells) hB hT (hear_K T W x)
/-- Are two one? -/
def Hear.one (a b : Hear) : Bool := a.node == b.node && (a.type == b.type && (a.cap == b.cap && a.prog == b.prog))
def Hear.same (a b : Hear) : Bool := a.node == b.node && (a.type == b.type && (a.cap == b.cap && (a.once == b.once && a.prog == b.prog)))
def Hear.may (h : Hear) : Bool := decide (0 ≤ h.node) && (decide (h.node ≤ 63) && (decide (0 ≤ h.type) && (decide (h.type ≤ 8) && (decide (0 ≤ h.prog) && decide (h.prog ≤ 63)))))
theorem hear_at {S : Nat → Prop} {w : World} {A : Option Addr} {n c : Nat} {xs : List Hear} (h : Row hearK S w (.slice A n c) xs) (k : Nat) (hk : k < xs.length) :
    ∃ b o, A = some ⟨b, o, none⟩ ∧ S b ∧ b < w.heap.size ∧ w.cell? ⟨b, o + k * 5, none⟩ = some (.int .i64 xs[k].node) ∧ w.cell? ⟨b, o + k * 5 + 1, none⟩ = some (.int .i64 xs[k].type) ∧ w.cell? ⟨b, o + k * 5 + 2, none⟩ = some (.bool xs[k].cap) ∧ w.cell? ⟨b, o + k * 5 + 3, none⟩ = some (.bool xs[k].once) ∧ w.cell? ⟨b, o + k * 5 + 4, none⟩ = some (.int .i64 xs[k].prog) := by
  obtain ⟨b, o, c', cs, e, hS, hb, hK, hc⟩ := h.get k hk
  injection e with e1 e2 e3
  have hK' : cs = Hear.cells xs[k] := hK
  subst hK'
  exact ⟨b, o, e1, hS, hb, hc 0 _ rfl, hc 1 _ rfl, hc 2 _ rfl, hc 3 _ rfl, hc 4 _ rfl⟩

theorem eqf_last {P : Program} {d : Nat} {xs ys : Array Value} {f : Field} {a b : Value} {r : Bool} {w : World} (hn : (f.name == "_") = false) (ha : (part f.type xs f.offset).run P w = .ok a w) (hb : (part f.type ys f.offset).run P w = .ok b w) (he : (Op.equalIn d f.type a b).run P w = .ok r w) : (Op.eqFields d xs ys [f]).run P w = .ok r w := by
  have hn' : f.name ≠ "_" := by simpa using hn
  simp only [Op.eqFields, if_pos hn', Sem.run_bind, ha, hb, he, Result.andThen_ok]
  cases r <;> simp
theorem eqf_cons {P : Program} {d : Nat} {xs ys : Array Value} {f : Field} {fs : List Field} {a b : Value} {r s : Bool} {w : World} (hn : (f.name == "_") = false) (ha : (part f.type xs f.offset).run P w = .ok a w) (hb : (part f.type ys f.offset).run P w = .ok b w) (he : (Op.equalIn d f.type a b).run P w = .ok r w) (hr : (Op.eqFields d xs ys fs).run P w = .ok s w) : (Op.eqFields d xs ys (f :: fs)).run P w = .ok (r && s) w := by
  have hn' : f.name ≠ "_" := by simpa using hn
  rw [Op.eqFields]
  simp only [if_pos hn', Sem.run_bind, ha, hb, he, Result.andThen_ok]
  cases r
  · simp
  · simpa using hr
theorem eqA_of {P : Program} {d : Nat} {xs ys : Array Value} {r : Bool} {w : World} {t : TypeId} {fs : Array Field} (hu : P.underlying t = some (.struct fs)) (hp : P.stoodInHeld t = false) (h : (Op.eqFields d xs ys fs.toList).run P w = .ok r w) : (Op.equalIn (d + 1) t (.agg xs) (.agg ys)).run P w = .ok r w := by
  have hf : P.fieldsOf t = fs := by simp [Program.fieldsOf, hu]
  rw [run_equalIn_struct (P := P) w d t xs ys (by rw [hf]; exact hu) hp, hf]
  exact h
/-- '==' of two listeners. -/
theorem eqHear (d : Nat) (w : World) (x0 y0 : Int) (x1 y1 : Int) (x2 y2 : Bool) (x3 y3 : Bool) (x4 y4 : Int) :
    (Op.equalIn (d + 2) 35 (.agg #[.int .i64 x0, .int .i64 x1, .bool x2, .bool x3, .int .i64 x4]) (.agg #[.int .i64 y0, .int .i64 y1, .bool y2, .bool y3, .int .i64 y4])).run Tryz.prog w = .ok (x0 == y0 && (x1 == y1 && (x2 == y2 && (x3 == y3 && (x4 == y4))))) w := by
  refine eqA_of Tryz.underlying35 (by kernel_rfl) ?_
  refine eqf_cons (by rfl) (by go_simp; rfl) (by go_simp; rfl) (by go_simp) ?_
  refine eqf_cons (by rfl) (by go_simp; rfl) (by go_simp; rfl) (by go_simp) ?_
  refine eqf_cons (by rfl) (by go_simp; rfl) (by go_simp; rfl) (by go_simp) ?_
  refine eqf_cons (by rfl) (by go_simp; rfl) (by go_simp; rfl) (by go_simp) ?_
  exact eqf_last (by rfl) (by go_simp; rfl) (by go_simp; rfl) (by go_simp)
theorem infoHear : (Tryz.prog.info? 35).map (fun i => (i.zero, i.size, i.bytes)) = some (some (.agg #[(.int .i64 0), (.int .i64 0), (.bool false), (.bool false), (.int .i64 0)]), 5, 32) := by kernel_rfl

/-- The same fields alike: '==' where Once was made alike first. -/
theorem one_once (x h : Hear) : (x.node == h.node && (x.type == h.type && (x.cap == h.cap && (h.once == h.once && x.prog == h.prog)))) = x.one h := by
  simp [Hear.one]

abbrev Any : Nat → Prop := fun _ => True
/-- What a call hands back: a list, and a number; nothing that was there has turned. -/
def RowNum {α : Type} (d : Kd α) (xs : List α) (k : Int) (w : World) (e : Ending) (w' : World) : Prop := ∃ v, e = .returned (.tuple #[v, .int .i64 k]) ∧ Row d Any w' v xs ∧ Stp w w'
/-- A list in memory of the call's own. -/
def OwnRet {α : Type} (d : Kd α) (t : TypeId) (xs : List α) (w : World) (e : Ending) (w' : World) : Prop := ∃ v, e = .returned v ∧ Own d t (w.heap.size ≤ ·) w' v xs ∧ Stp w w'

/-- Those that hear something. -/
def hearFor (l : List Hear) (node type : Int) (cap : Bool) : List Hear := l.filter fun h => h.node == node && (h.type == type && h.cap == cap)
theorem hearFor_step {xs : List Hear} {k : Nat} (h : k < xs.length) (node type : Int) (cap : Bool) : hearFor (xs.drop k) node type cap = (if (xs[k].node == node && (xs[k].type == type && xs[k].cap == cap)) then [xs[k]] else []) ++ hearFor (xs.drop (k + 1)) node type cap := by
  rw [List.drop_eq_getElem_cons h]
  simp only [hearFor, List.filter_cons]
  split <;> simp
/-- From the k-th on, where those ahead are 'pre': may one not be, or is one with an elder one? -/
def badFrom : List Hear → List Hear → Bool
  | _, [] => false
  | pre, x :: r => !x.may || (pre.any (·.one x) || badFrom (pre ++ [x]) r)
def hearCheck (l : List Hear) (nodes : Int) : Int := if l.length > 64 || badFrom [] l then 1 else if l.any (fun h => decide (nodes ≤ h.node)) then 2 else 0
def hearAdd (l : List Hear) (h : Hear) : List Hear := if h.may && (decide (idx (·.one h) l < 0) && decide (l.length < 64)) then l ++ [h] else l
def hearAddErr (l : List Hear) (h : Hear) : Int := if !h.may then 1 else if 0 ≤ idx (·.one h) l then 0 else if 64 ≤ l.length then 4 else 0
theorem badFrom_step {l : List Hear} {k : Nat} (h : k < l.length) : badFrom (l.take k) (l.drop k) = (!l[k].may || ((l.take k).any (·.one l[k]) || badFrom (l.take (k + 1)) (l.drop (k + 1)))) := by
  rw [List.drop_eq_getElem_cons h, badFrom, List.take_succ_eq_append_getElem h]
theorem rowNum_of {α : Type} {d : Kd α} {xs xs' : List α} {k k' : Int} {w w' : World} {v : Value} (hx : xs = xs') (hk : k = k') (hr : Row d Any w' v xs') (hs : Stp w w') : RowNum d xs k w (.returned (.tuple #[v, .int .i64 k'])) w' :=
  ⟨v, by rw [hk], by rw [hx]; exact hr, hs⟩
theorem hearAdd_1 {l : List Hear} {h : Hear} (h1 : (!h.may) = true) : hearAdd l h = l ∧ hearAddErr l h = 1 := by
  have : h.may = false := by simpa using h1
  simp [hearAdd, hearAddErr, this]
theorem hearAdd_2 {l : List Hear} {h : Hear} (h1 : (!h.may) = false) (h2 : 0 ≤ idx (·.one h) l) : hearAdd l h = l ∧ hearAddErr l h = 0 := by
  have : h.may = true := by simpa using h1
  have h3 : ¬ idx (·.one h) l < 0 := by omega
  simp only [hearAdd, hearAddErr, this]
  simp [h2, h3]
theorem hearAdd_3 {l : List Hear} {h : Hear} (h1 : (!h.may) = false) (h2 : idx (·.one h) l < 0) (h4 : 64 ≤ (l.length : Int)) : hearAdd l h = l ∧ hearAddErr l h = 4 := by
  have : h.may = true := by simpa using h1
  have h3 : ¬ 0 ≤ idx (·.one h) l := by omega
  have h5 : ¬ l.length < 64 := by omega
  have h6 : 64 ≤ l.length := by omega
  simp only [hearAdd, hearAddErr, this]
  simp [h2, h3, h5, h6]
theorem hearAdd_4 {l : List Hear} {h : Hear} (h1 : (!h.may) = false) (h2 : idx (·.one h) l < 0) (h4 : (l.length : Int) < 64) : hearAdd l h = l ++ [h] ∧ hearAddErr l h = 0 := by
  have : h.may = true := by simpa using h1
  have h3 : ¬ 0 ≤ idx (·.one h) l := by omega
  have h5 : l.length < 64 := by omega
  have h6 : ¬ 64 ≤ l.length := by omega
  simp only [hearAdd, hearAddErr, this]
  simp [h2, h3, h5, h6]
def hearDrop (l : List Hear) (h : Hear) : List Hear := if h.may && decide (0 ≤ idx (·.one h) l) then l.eraseIdx (idx (·.one h) l).toNat else l
def hearDropErr (l : List Hear) (h : Hear) : Int := if !h.may then 1 else if 0 ≤ idx (·.one h) l then 0 else 9
def hearSame (a b : List Hear) : Bool := a.length == b.length && (a.zip b).all fun p => p.1.same p.2
end Go.Proofs.Lime
namespace Go.Proofs.Lime.H
open Go.RowKit
set_option linter.unusedVariables false
set_option linter.unusedSimpArgs false

/-- What is asked of a predicate on listeners. -/
def HearPred (g : Nat) (lb : Array Value) (p : Hear → Bool) (w : World) : Prop :=
  ∀ (W : World) (x : Hear), Stp w W → Calls Tryz.prog g (#[x.val] ++ lb) W fun e w' => e = .returned (.bool (p x)) ∧ Stp W w'

set_option maxHeartbeats 1000000 in
theorem indexFunc_c {S : Nat → Prop} {w : World} {v : Value} {xs : List Hear} (h : Row hearK S w v xs) (p : Hear → Bool) (g : Nat) (lb : Array Value)
    (eg : ∀ args w, (callFunc g args).run Tryz.prog w = .ok (.enter g args) w) (hp : HearPred g lb p w) :
    Calls Tryz.prog 39 #[v, .func (.func g) #[] lb] w fun e w' => e = .returned (.int .i64 (idx p xs)) ∧ Stp w w' := by
  obtain ⟨A, c, rfl, hc, hm⟩ := h.form
  go_enter Tryz.func39, Tryz.ntmps39
  go_wp2
  go_loopg [5, 8] xs.length (fun gg _ s8 wr => ∃ k : Nat, k ≤ xs.length ∧ xs.length - k ≤ gg ∧ s8 = .int .i64 k ∧ Stp w wr ∧ Aside (idxFrom p k (xs.drop k) = idx p xs))
  case atStart => exact ⟨0, Nat.zero_le _, by omega, rfl, Stp.refl w, rfl⟩
  case round =>
    obtain ⟨k, hk, hg, rfl, hb, A1⟩ := hrel
    by_cases hlt : k < xs.length
    · have hltz : (k : Int) < (xs.length : Int) := by omega
      obtain ⟨b, o, rfl, hS, hbw, x0, x1, x2, x3, x4⟩ := hear_at (h.stp hb) k hlt
      have hcall := hp wr xs[k] hb
      generalize hy : xs[k] = y at x0 x1 x2 x3 x4 hcall
      have B : Aside (xs[k] = y) := hy
      clear hy h hp
      cases hq : p y with
      | true =>
        rw [hq] at hcall
        go_wp2_with (go_at_fn g; refine hcall.mono ?_; rintro e w' ⟨rfl, hb'⟩)
        go_ret
        exact ⟨ret_int (by rw [← A1.out, idxFrom_hit hlt (by rw [B.out]; exact hq)]), hb.trans hb'⟩
      | false =>
        rw [hq] at hcall
        go_wp2_with (go_at_fn g; refine hcall.mono ?_; rintro e w' ⟨rfl, hb'⟩)
        go_roundg (xs.length - (k + 1))
        case measure => omega
        case rel => exact ⟨k + 1, by omega, by omega, by go_num, hb.trans hb', (idxFrom_miss hlt (by rw [B.out]; exact hq)).symm.trans A1.out⟩
    · have hltz : ¬ (k : Int) < (xs.length : Int) := by omega
      go_wp2
      go_ret
      exact ⟨ret_int (by rw [← A1.out, idxFrom_end hlt]), hb⟩

theorem containsFunc_c {S : Nat → Prop} {w : World} {v : Value} {xs : List Hear} (h : Row hearK S w v xs) (p : Hear → Bool) (g : Nat) (lb : Array Value)
    (eg : ∀ args w, (callFunc g args).run Tryz.prog w = .ok (.enter g args) w) (hp : HearPred g lb p w) :
    Calls Tryz.prog 36 #[v, .func (.func g) #[] lb] w fun e w' => e = .returned (.bool (xs.any p)) ∧ Stp w w' := by
  rw [← idx_any]
  go_enter Tryz.func36, Tryz.ntmps36
  go_wp2_with (go_at_call 39; refine (indexFunc_c h p g lb eg hp).mono ?_; rintro e w' ⟨rfl, hb'⟩)
  go_ret
  exact ⟨rfl, hb'⟩

section
attribute [local go_sem high] eqHear
theorem at1_c (h x : Hear) (B : Nat) (w : World) (h0 : w.cell? ⟨B, 0, none⟩ = some (.int .i64 h.node)) (h1 : w.cell? ⟨B, 1, none⟩ = some (.int .i64 h.type)) (h2 : w.cell? ⟨B, 2, none⟩ = some (.bool h.cap)) (h3 : w.cell? ⟨B, 3, none⟩ = some (.bool h.once)) (h4 : w.cell? ⟨B, 4, none⟩ = some (.int .i64 h.prog)) :
    Calls Tryz.prog 40 #[x.val, .pointer (some ⟨B, 0, none⟩)] w fun e w' => e = .returned (.bool (x.one h)) ∧ Stp w w' := by
  have hB : B < w.heap.size := World.block_lt_of_cell? w _ h0
  go_enter Tryz.func40, Tryz.ntmps40
  go_wp2
  go_ret
  exact ⟨rfl, by (exact Lime.stp_)⟩
end
theorem at_c {S : Nat → Prop} {w : World} {v : Value} {xs : List Hear} (hr : Row hearK S w v xs) (h : Hear) :
    Calls Tryz.prog 23 #[v, h.val] w fun e w' => e = .returned (.int .i64 (idx (·.one h) xs)) ∧ Stp w w' := by
  have e1 := (enters_of Tryz.func40 (by kernel_rfl) rfl)
  have hr' := hr.stp ((Stp.refl w).alloc (.cells #[.int .i64 h.node, .int .i64 h.type, .bool h.cap, .bool h.once, .int .i64 h.prog] 35))
  clear hr
  go_enter Tryz.func23, Tryz.ntmps23
  go_wp2_with (go_at_call 39; refine (indexFunc_c hr' (·.one h) _ _ e1 ?_).mono ?_; (intro W x hW; refine at1_c h x _ W (hW.cell ?_) (hW.cell ?_) (hW.cell ?_) (hW.cell ?_) (hW.cell ?_) <;> go_simp); rintro e w' ⟨rfl, hb'⟩)
  go_ret
  exact ⟨rfl, ((Stp.refl w).alloc _).trans hb'⟩

set_option maxHeartbeats 1000000 in
theorem for_c {S : Nat → Prop} {w : World} {v : Value} {xs : List Hear} (hr : Row hearK S w v xs) (hl : xs.length ≤ 1000) (node type : Int) (cap : Bool) :
    Calls Tryz.prog 21 #[v, .int .i64 node, .int .i64 type, .bool cap] w (OwnRet hearK 35 (hearFor xs node type cap) w) := by
  obtain ⟨A, c, rfl, hc, hm⟩ := hr.form
  go_enter Tryz.func21, Tryz.ntmps21
  go_wp2
  go_loopg [9, 14] xs.length (fun gg s9 s14 wr => ∃ (k : Nat) (out : List Hear), k ≤ xs.length ∧ xs.length - k ≤ gg ∧ s14 = .int .i64 k ∧ Aside (out.length ≤ k) ∧ Stp w wr ∧ Own hearK 35 (w.heap.size ≤ ·) wr s9 out ∧ Aside (out ++ hearFor (xs.drop k) node type cap = hearFor xs node type cap))
  case atStart => exact ⟨0, [], Nat.zero_le _, by omega, rfl, Nat.zero_le _, Stp.refl w, Own.nil _ _ _ _, rfl⟩
  case round =>
    obtain ⟨k, out, hk, hg, rfl, hol, hb, hO, A1⟩ := hrel
    by_cases hlt : k < xs.length
    · have hltz : (k : Int) < (xs.length : Int) := by omega
      obtain ⟨b, o, rfl, hS, hbw, x0, x1, x2, x3, x4⟩ := hear_at (hr.stp hb) k hlt
      generalize hy : xs[k] = y at x0 x1 x2 x3 x4
      have B : Aside (xs[k] = y) := hy
      clear hy hr
      have hle := hol.out
      go_wp2_with ((at_builtin; refine wpl_append1 (d := hearK) (S := (w.heap.size ≤ ·)) (T := fun _ => False) rfl (.tmp 34) (.tmp 36) 26 35 _ 32 rfl Tryz.underlying26 infoHear rfl (by decide) (by decide) u9 out y _ rfl (by first | (go_simp; done) | (go_simp; rfl)) (by show _ = Hear.cells y; simp [Hear.cells, *]) (fun _ h _ => h.elim) (hO.stp Lime.stp_) (fun k hk => Nat.le_trans (Stp.size Lime.stp_) hk) (by omega) ?_; intro v1 w1 ho hg2; have hb2 : Stp w w1 := Stp.grown Lime.stp_ hg2 hO.blk))
      · go_roundg (xs.length - (k + 1))
        case measure => omega
        case rel => exact ⟨k + 1, out ++ [y], by omega, by omega, by go_num, by show (out ++ [y]).length ≤ k + 1; simp; omega, hb2, ho, by show out ++ [y] ++ _ = _; rw [← A1.out, hearFor_step hlt, B.out, if_pos (by simp [*])]; simp⟩
      all_goals
        go_roundg (xs.length - (k + 1))
        case measure => omega
        case rel => exact ⟨k + 1, out, by omega, by omega, by go_num, by show out.length ≤ k + 1; omega, by (exact Lime.stp_), hO.stp Lime.stp_, by show out ++ _ = _; rw [← A1.out, hearFor_step hlt, B.out, if_neg (by simp [*])]; simp⟩
    · have hltz : ¬ (k : Int) < (xs.length : Int) := by omega
      go_wp2
      go_ret
      exact ⟨_, rfl, by rw [← A1.out, List.drop_eq_nil_of_le (by omega)]; simpa [hearFor] using hO, hb⟩
end Go.Proofs.Lime.H
namespace Go.Proofs.Lime.H
open Go.RowKit
set_option linter.unusedVariables false
set_option linter.unusedSimpArgs false

theorem may_c (h : Hear) (w : World) : Calls Tryz.prog 22 #[h.val] w fun e w' => e = .returned (.bool h.may) ∧ Stp w w' := by
  go_enter Tryz.func22, Tryz.ntmps22
  go_wp2
  all_goals
    go_ret
    exact ⟨by first | (simp [Hear.may, *]; done) | (simp [Hear.may, *]; omega), by (exact Lime.stp_)⟩
theorem rmay_c (h : Hear) (w : World) : Calls Tryz.prog 30 #[h.val] w fun e w' => e = .returned (.bool h.may) ∧ Stp w w' := by
  go_enter Tryz.func30, Tryz.ntmps30
  go_wp2
  all_goals
    go_ret
    exact ⟨by first | (simp [Hear.may, *]; done) | (simp [Hear.may, *]; omega), by (exact Lime.stp_)⟩
theorem rone_c (a b : Hear) (w : World) : Calls Tryz.prog 44 #[a.val, b.val] w fun e w' => e = .returned (.bool (a.one b)) ∧ Stp w w' := by
  go_enter Tryz.func44, Tryz.ntmps44
  go_wp2
  all_goals
    go_ret
    exact ⟨by first | (simp [Hear.one, *]; done) | (simp [Hear.one, *]; omega), by (exact Lime.stp_)⟩
set_option maxHeartbeats 1000000 in
theorem rplace_c {S : Nat → Prop} {w : World} {v : Value} {xs : List Hear} (hr : Row hearK S w v xs) (h : Hear) :
    Calls Tryz.prog 31 #[v, h.val] w fun e w' => e = .returned (.int .i64 (idx (·.one h) xs)) ∧ Stp w w' := by
  obtain ⟨A, c, rfl, hc, hm⟩ := hr.form
  have hr' := hr.stp ((Stp.refl w).alloc (.cells #[.int .i64 h.node, .int .i64 h.type, .bool h.cap, .bool h.once, .int .i64 h.prog] 35))
  clear hr
  go_enter Tryz.func31, Tryz.ntmps31
  go_wp2
  obtain ⟨w0, hw0, hb0, hz0, gc⟩ := box_named w #[.int .i64 h.node, .int .i64 h.type, .bool h.cap, .bool h.once, .int .i64 h.prog] 35
  rw [hw0] at hr' ⊢
  have g0 := gc 0 _ rfl
  have g1 := gc 1 _ rfl
  have g2 := gc 2 _ rfl
  have g3 := gc 3 _ rfl
  have g4 := gc 4 _ rfl
  clear hw0 gc hz0
  go_loopg [5] xs.length (fun gg s5 wr => ∃ k : Nat, k ≤ xs.length ∧ xs.length - k ≤ gg ∧ s5 = .int .i64 k ∧ Stp w0 wr ∧ Aside (idxFrom (·.one h) k (xs.drop k) = idx (·.one h) xs))
  case atStart => exact ⟨0, Nat.zero_le _, by omega, rfl, Stp.refl w0, rfl⟩
  case round =>
    obtain ⟨k, hk, hg, rfl, hb, A1⟩ := hrel
    by_cases hlt : k < xs.length
    · have hltz : (k : Int) < (xs.length : Int) := by omega
      obtain ⟨b, o, rfl, hS, hbw, x0, x1, x2, x3, x4⟩ := hear_at (hr'.stp hb) k hlt
      replace g0 := hb.cell g0
      replace g1 := hb.cell g1
      replace g2 := hb.cell g2
      replace g3 := hb.cell g3
      replace g4 := hb.cell g4
      generalize hy : xs[k] = y at x0 x1 x2 x3 x4
      have B : Aside (xs[k] = y) := hy
      clear hy hr'
      have hcall := fun W => rone_c y h W
      cases hq : y.one h with
      | true =>
        rw [hq] at hcall
        go_wp2
        (first | (go_region_held3 (fun W => W.cell? ⟨b, o + k * 5, none⟩ = some (.int .i64 y.node) ∧ W.cell? ⟨b, o + k * 5 + 1, none⟩ = some (.int .i64 y.type) ∧ W.cell? ⟨b, o + k * 5 + 2, none⟩ = some (.bool y.cap) ∧ W.cell? ⟨b, o + k * 5 + 3, none⟩ = some (.bool y.once) ∧ W.cell? ⟨b, o + k * 5 + 4, none⟩ = some (.int .i64 y.prog) ∧ W.cell? ⟨w.heap.size, 0, none⟩ = some (.int .i64 h.node) ∧ W.cell? ⟨w.heap.size, 1, none⟩ = some (.int .i64 h.type) ∧ W.cell? ⟨w.heap.size, 2, none⟩ = some (.bool h.cap) ∧ W.cell? ⟨w.heap.size, 3, none⟩ = some (.bool h.once) ∧ W.cell? ⟨w.heap.size, 4, none⟩ = some (.int .i64 h.prog)) (exact ⟨Stp.cell Lime.stp_ x0, Stp.cell Lime.stp_ x1, Stp.cell Lime.stp_ x2, Stp.cell Lime.stp_ x3, Stp.cell Lime.stp_ x4, Stp.cell Lime.stp_ g0, Stp.cell Lime.stp_ g1, Stp.cell Lime.stp_ g2, Stp.cell Lime.stp_ g3, Stp.cell Lime.stp_ g4⟩) (first | (go_at_call 44; refine (hcall _).mono ?_; rintro e w' ⟨rfl, hb2⟩))) | fail)
        go_wp2
        go_ret
        exact ⟨ret_int (by rw [← A1.out, idxFrom_hit hlt (by rw [B.out]; exact hq)]), hb0.trans (hb.trans hb2.of_drew)⟩
      | false =>
        rw [hq] at hcall
        go_wp2
        (first | (go_region_held3 (fun W => W.cell? ⟨b, o + k * 5, none⟩ = some (.int .i64 y.node) ∧ W.cell? ⟨b, o + k * 5 + 1, none⟩ = some (.int .i64 y.type) ∧ W.cell? ⟨b, o + k * 5 + 2, none⟩ = some (.bool y.cap) ∧ W.cell? ⟨b, o + k * 5 + 3, none⟩ = some (.bool y.once) ∧ W.cell? ⟨b, o + k * 5 + 4, none⟩ = some (.int .i64 y.prog) ∧ W.cell? ⟨w.heap.size, 0, none⟩ = some (.int .i64 h.node) ∧ W.cell? ⟨w.heap.size, 1, none⟩ = some (.int .i64 h.type) ∧ W.cell? ⟨w.heap.size, 2, none⟩ = some (.bool h.cap) ∧ W.cell? ⟨w.heap.size, 3, none⟩ = some (.bool h.once) ∧ W.cell? ⟨w.heap.size, 4, none⟩ = some (.int .i64 h.prog)) (exact ⟨Stp.cell Lime.stp_ x0, Stp.cell Lime.stp_ x1, Stp.cell Lime.stp_ x2, Stp.cell Lime.stp_ x3, Stp.cell Lime.stp_ x4, Stp.cell Lime.stp_ g0, Stp.cell Lime.stp_ g1, Stp.cell Lime.stp_ g2, Stp.cell Lime.stp_ g3, Stp.cell Lime.stp_ g4⟩) (first | (go_at_call 44; refine (hcall _).mono ?_; rintro e w' ⟨rfl, hb2⟩))) | fail)
        go_wp2
        go_roundg (xs.length - (k + 1))
        case measure => omega
        case rel => exact ⟨k + 1, by omega, by omega, by go_num, hb.trans hb2.of_drew, (idxFrom_miss hlt (by rw [B.out]; exact hq)).symm.trans A1.out⟩
    · have hltz : ¬ (k : Int) < (xs.length : Int) := by omega
      go_wp2
      go_ret
      exact ⟨ret_int (by rw [← A1.out, idxFrom_end hlt]), hb0.trans hb⟩
set_option maxHeartbeats 1000000 in
theorem rfor_c {S : Nat → Prop} {w : World} {v : Value} {xs : List Hear} (hr : Row hearK S w v xs) (hl : xs.length ≤ 1000) (node type : Int) (cap : Bool) :
    Calls Tryz.prog 28 #[v, .int .i64 node, .int .i64 type, .bool cap] w (OwnRet hearK 35 (hearFor xs node type cap) w) := by
  obtain ⟨A, c, rfl, hc, hm⟩ := hr.form
  go_enter Tryz.func28, Tryz.ntmps28
  go_wp2
  go_loopg [9, 10] xs.length (fun gg s9 s14 wr => ∃ (k : Nat) (out : List Hear), k ≤ xs.length ∧ xs.length - k ≤ gg ∧ s14 = .int .i64 k ∧ Aside (out.length ≤ k) ∧ Stp w wr ∧ Own hearK 35 (w.heap.size ≤ ·) wr s9 out ∧ Aside (out ++ hearFor (xs.drop k) node type cap = hearFor xs node type cap))
  case atStart => exact ⟨0, [], Nat.zero_le _, by omega, rfl, Nat.zero_le _, Stp.refl w, Own.nil _ _ _ _, rfl⟩
  case round =>
    obtain ⟨k, out, hk, hg, rfl, hol, hb, hO, A1⟩ := hrel
    by_cases hlt : k < xs.length
    · have hltz : (k : Int) < (xs.length : Int) := by omega
      obtain ⟨b, o, rfl, hS, hbw, x0, x1, x2, x3, x4⟩ := hear_at (hr.stp hb) k hlt
      generalize hy : xs[k] = y at x0 x1 x2 x3 x4
      have B : Aside (xs[k] = y) := hy
      clear hy hr
      have hle := hol.out
      go_wp2_with ((at_builtin; refine wpl_append1 (d := hearK) (S := (w.heap.size ≤ ·)) (T := fun _ => False) rfl (.tmp 42) (.tmp 47) 26 35 _ 32 rfl Tryz.underlying26 infoHear rfl (by decide) (by decide) u9 out y _ rfl (by first | (go_simp; done) | (go_simp; rfl)) (by show _ = Hear.cells y; simp [Hear.cells, *]) (fun _ h _ => h.elim) (hO.stp Lime.stp_) (fun k hk => Nat.le_trans (Stp.size Lime.stp_) hk) (by omega) ?_; intro v1 w1 ho hg2; have hb2 : Stp w w1 := Stp.grown Lime.stp_ hg2 hO.blk))
      · go_roundg (xs.length - (k + 1))
        case measure => omega
        case rel => exact ⟨k + 1, out ++ [y], by omega, by omega, by go_num, by show (out ++ [y]).length ≤ k + 1; simp; omega, hb2, ho, by show out ++ [y] ++ _ = _; rw [← A1.out, hearFor_step hlt, B.out, if_pos (by simp [*])]; simp⟩
      all_goals
        go_roundg (xs.length - (k + 1))
        case measure => omega
        case rel => exact ⟨k + 1, out, by omega, by omega, by go_num, by show out.length ≤ k + 1; omega, by (exact Lime.stp_), hO.stp Lime.stp_, by show out ++ _ = _; rw [← A1.out, hearFor_step hlt, B.out, if_neg (by simp [*])]; simp⟩
    · have hltz : ¬ (k : Int) < (xs.length : Int) := by omega
      go_wp2
      go_ret
      exact ⟨_, rfl, by rw [← A1.out, List.drop_eq_nil_of_le (by omega)]; simpa [hearFor] using hO, hb⟩
end Go.Proofs.Lime.H
namespace Go.Proofs.Lime.H
open Go.RowKit
set_option linter.unusedVariables false
set_option linter.unusedSimpArgs false

/-- From the n-th on: are both alike? -/
def sameFrom : List Hear → List Hear → Bool
  | a :: l, b :: r => a.same b && sameFrom l r
  | _, _ => true

theorem sameFrom_step {xs ys : List Hear} {k : Nat} (h : k < xs.length) (h2 : k < ys.length) : sameFrom (xs.drop k) (ys.drop k) = (xs[k].same ys[k] && sameFrom (xs.drop (k + 1)) (ys.drop (k + 1))) := by
  rw [List.drop_eq_getElem_cons h, List.drop_eq_getElem_cons h2, sameFrom]
theorem five_no {a b c d e : Bool} (h : (!a) = true ∨ (!b) = true ∨ (!c) = true ∨ (!d) = true ∨ (!e) = true) : (a && (b && (c && (d && e)))) = false := by
  cases a <;> cases b <;> cases c <;> cases d <;> cases e <;> simp_all
theorem five_yes {a b c d e : Bool} (h : (!a) = false ∧ (!b) = false ∧ (!c) = false ∧ (!d) = false ∧ (!e) = false) : (a && (b && (c && (d && e)))) = true := by
  cases a <;> cases b <;> cases c <;> cases d <;> cases e <;> simp_all
section
attribute [local go_sem high] eqHear
end

theorem clone_c {S : Nat → Prop} {w : World} {v : Value} {xs : List Hear} (hr : Row hearK S w v xs) (hl : xs.length ≤ 1000) :
    Calls Tryz.prog 25 #[v] w (OwnRet hearK 35 xs w) := by
  obtain ⟨A, c, rfl, hc, hm⟩ := hr.form
  have hnil := fun (w : World) (a : Option Addr) (n c : Nat) => Lib.run_eql_slice_nil (P := Tryz.prog) w 26 35 a n c 0 0 Tryz.underlying26
  have hr' := hr.stp ((Stp.refl w).alloc (.cells #[] 35))
  cases A with
  | none =>
    have h0 : xs = [] := by
      cases xs with
      | nil => rfl
      | cons y ys => obtain ⟨b, o, c, cs, e, _⟩ := hr.get 0 (by simp); injection e with e; cases e
    subst h0
    clear hr hr'
    go_enter Tryz.func25, Tryz.ntmps25
    go_wp2
    go_ret
    exact ⟨_, rfl, Own.nil _ _ _ _, Stp.refl w⟩
  | some a =>
    clear hr
    go_enter Tryz.func25, Tryz.ntmps25
    go_wp2_with (at_builtin; refine wpl_appendrow (d := hearK) (S := (w.heap.size ≤ ·)) (T' := fun _ => False) rfl (.tmp 5) (.tmp 6) 26 35 _ 32 rfl Tryz.underlying26 infoHear rfl (by decide) (by decide) _ [] _ xs rfl rfl hr' (fun _ _ h => h) (fun _ h _ => h.elim) (Own.fresh _ _ _ w (Nat.le_refl _)) (fun k hk => Nat.le_trans (Stp.size Lime.stp_) hk) (by simp; omega) ?_; intro v1 w1 ho hg2; have hb2 : Stp w w1 := Stp.grown Lime.stp_ hg2 (Own.fresh hearK 35 (w.heap.size ≤ ·) w (Nat.le_refl _)).blk)
    go_ret
    exact ⟨_, rfl, ho, hb2⟩

end Go.Proofs.Lime.H
namespace Go.Proofs.Lime.H
open Go.RowKit
set_option linter.unusedVariables false
set_option linter.unusedSimpArgs false

theorem hearCheck_64 {l : List Hear} {n : Int} (h : 64 < l.length) : hearCheck l n = 1 := by simp [hearCheck, h]
theorem hearCheck_bad {l : List Hear} {n : Int} (h : badFrom [] l = true) : hearCheck l n = 1 := by simp [hearCheck, h]
theorem hearCheck_ok {l : List Hear} {n : Int} (h : ¬ 64 < l.length) (hb : badFrom [] l = false) : hearCheck l n = if l.any (fun h => decide (n ≤ h.node)) then 2 else 0 := by simp [hearCheck, h, hb]

theorem one_refl (x : Hear) : x.one x = true := by simp [Hear.one]
theorem place_lt {l : List Hear} {k : Nat} (h : k < l.length) : decide (idx (·.one l[k]) l < k) = (l.take k).any (·.one l[k]) := by
  have h1 : l.any (·.one l[k]) = true := List.any_eq_true.2 ⟨l[k], List.getElem_mem h, one_refl _⟩
  have := idx_lt (·.one l[k]) l 0 k (by omega) h1
  simpa using this

end Go.Proofs.Lime.H
namespace Go.Proofs.Lime
open Go.RowKit
set_option linter.unusedVariables false
set_option linter.unusedSimpArgs false

theorem blk_set {w : World} {g : Nat} {t : TypeId} {cs : Array Value} (h : w.heap[g]? = some (.cells cs t (0, 0))) (i : Nat) (u : Value) : (w.setCell ⟨g, i, none⟩ u).heap[g]? = some (.cells (cs.setIfInBounds i u) t (0, 0)) := by
  simp [World.setCell, Array.getElem?_modify, h]
theorem setCells_far {g : Nat} : ∀ (vs : List Value) (o : Nat) {w : World} (k : Nat), k ≠ g → (w.setCells g o vs).heap[k]? = w.heap[k]?
  | [], _, _, _, _ => rfl
  | v :: r, o, w, k, hk => by
    rw [World.setCells, setCells_far r (o + 1) k hk]
    exact Below.heap_setCell w ⟨g, o, none⟩ v k hk
theorem setCells_same (g : Nat) : ∀ (vs : List Value) (o : Nat) (w : World), (w.setCells g o vs).os = w.os ∧ (w.setCells g o vs).tape = w.tape ∧ (w.setCells g o vs).output = w.output ∧ (w.setCells g o vs).heap.size = w.heap.size
  | [], _, _ => ⟨rfl, rfl, rfl, rfl⟩
  | v :: r, o, w => by
    obtain ⟨h1, h2, h3, h4⟩ := setCells_same g r (o + 1) (w.setCell ⟨g, o, none⟩ v)
    rw [World.setCells]
    exact ⟨h1, h2, h3, by rw [h4]; simp [World.setCell]⟩
theorem setCells_row {g : Nat} {e : TypeId} : ∀ (vs : List Value) (o : Nat) (w : World) (cur : Array Value), w.heap[g]? = some (.cells cur e (0, 0)) → o + vs.length ≤ cur.size →
    ∃ cur', (w.setCells g o vs).heap[g]? = some (.cells cur' e (0, 0)) ∧ cur'.size = cur.size ∧ cur'.toList = cur.toList.take o ++ vs ++ cur.toList.drop (o + vs.length)
  | [], o, w, cur, h, _ => ⟨cur, h, rfl, by simp⟩
  | v :: r, o, w, cur, h, hl => by
    have h2 := blk_set h o v
    simp only [List.length_cons] at hl
    obtain ⟨cur', h3, h4, h5⟩ := setCells_row r (o + 1) (w.setCell ⟨g, o, none⟩ v) _ h2 (by simp; omega)
    refine ⟨cur', h3, by rw [h4]; simp, ?_⟩
    rw [h5, Array.toList_setIfInBounds]
    have ho : o < cur.toList.length := by rw [Array.length_toList]; omega
    rw [List.take_set, List.drop_set_of_lt (by omega)]
    simp only [List.length_cons]
    rw [show o + 1 + r.length = o + (r.length + 1) by omega]
    congr 1
    rw [List.take_succ_eq_append_getElem ho, List.set_append_right _ _ (by rw [List.length_take]; omega)]
    have ho' : o < cur.size := by omega
    simp [Nat.min_eq_left (Nat.le_of_lt ho')]
theorem setCells_grown (g o : Nat) (vs : List Value) (w : World) : w.grownBy (w.setCells g o vs) (some g) :=
  have h := setCells_same g vs o w
  ⟨h.1, h.2.1, h.2.2.1, by rw [h.2.2.2]; exact Nat.le_refl _, fun k _ hk => setCells_far vs o k (fun e => hk (by rw [e]))⟩

/-- clear of a slice in memory. -/
theorem run_clear_some {P : Program} {t ty e : TypeId} (ht : P.underlying t = some (.slice e)) {z : Value} {W : World} (hz : ∀ w, (zeroValue e).run P w = .ok z w) (b o n c : Nat) (hn : 0 < n) (zs : List Value) (hzs : (Builtin.zeroCells z.cells n).toList = zs)
    (hc : ∀ j, j < zs.length → (W.cell? ⟨b, o + j, none⟩).isSome = true) (hf : ∀ j, j < zs.length → W.frozen? ⟨b, o + j, none⟩ = false) (h1 : ∀ v ∈ zs, v.oneCell' = true) :
    (Builtin.clear_ #[t] ty #[.slice (some ⟨b, o, none⟩) n c]).run P W = .ok (.tuple #[]) (W.setCells b o zs) := by
  have hst := run_storeCells_cells (P := P) b o zs 0 W (by simpa using hc) (by simpa using hf) h1
  simp only [Nat.add_zero] at hst
  obtain ⟨m, rfl⟩ : ∃ m, n = m + 1 := ⟨n - 1, by omega⟩
  simp [Builtin.clear_, run_underlying ht, hz, hzs, hst]

theorem wpl_clear {P : Program} {ops : Array Oper} {rest : List Oper} {o : Oper} {a : Act} {Q : Exit → Act → World → Prop} {W w2 : World} (hgd : o.guard = none) (x : Operand) (t : TypeId)
    (ho : o.op = .call { callee := .builtin .clear, args := #[x], argTypes := #[t] }) (v : Value) (hx : a.eval x = v) (hr : (Builtin.clear_ #[t] o.type #[v]).run P W = .ok (.tuple #[]) w2)
    (h : wpList P ops Q rest (a.put o.dst (.tuple #[])) w2) : wpList P ops Q (o :: rest) a W := by
  refine wpList_plain hgd fun K hK => ?_
  unfold Oper.wp execOp
  simp only [ho, resolve, invoke, builtin, Sem.run_bind, Sem.run_pure, Result.andThen_ok, List.map_toArray, List.map_cons, List.map_nil, hx, hr]
  exact hK _ _ h

end Go.Proofs.Lime
namespace Go.Proofs.Lime.H
open Go.RowKit
set_option linter.unusedVariables false
set_option linter.unusedSimpArgs false

/-- The cells of listeners, one behind the other. -/
def flatHear (xs : List Hear) : List Value := xs.flatMap Hear.cells
theorem flatHear_length (xs : List Hear) : (flatHear xs).length = xs.length * 5 := by
  induction xs with
  | nil => rfl
  | cons x xs ih => simp only [flatHear, List.flatMap_cons, List.length_append, List.length_cons] at ih ⊢; rw [ih]; simp [Hear.cells]; omega
theorem flatHear_get (xs : List Hear) : ∀ j (hj : j < xs.length) i, i < 5 → (flatHear xs)[j * 5 + i]? = (xs[j].cells)[i]? := by
  induction xs with
  | nil => intro j hj; simp at hj
  | cons x xs ih =>
    intro j hj i hi
    cases j with
    | zero => simp only [flatHear, List.flatMap_cons, Nat.zero_mul, Nat.zero_add, List.getElem_cons_zero]; rw [List.getElem?_append_left (by simp [Hear.cells]; omega)]
    | succ j =>
      simp only [flatHear, List.flatMap_cons]
      rw [List.getElem?_append_right (by simp [Hear.cells]; omega)]
      have := ih j (by simpa using hj) i hi
      rw [show (j + 1) * 5 + i - x.cells.length = j * 5 + i by simp [Hear.cells]; omega]
      simpa [flatHear] using this
theorem flatHear_take (xs : List Hear) (i : Nat) : flatHear (xs.take i) = (flatHear xs).take (i * 5) := by
  induction xs generalizing i with
  | nil => simp [flatHear]
  | cons x xs ih =>
    cases i with
    | zero => simp [flatHear]
    | succ i =>
      simp only [List.take_succ_cons, flatHear, List.flatMap_cons] at ih ⊢
      rw [ih, List.take_append, show (i + 1) * 5 - x.cells.length = i * 5 by simp [Hear.cells]; omega, List.take_of_length_le (l := x.cells) (by simp [Hear.cells]; omega)]
theorem flatHear_drop (xs : List Hear) (i : Nat) : flatHear (xs.drop i) = (flatHear xs).drop (i * 5) := by
  induction xs generalizing i with
  | nil => simp [flatHear]
  | cons x xs ih =>
    cases i with
    | zero => simp [flatHear]
    | succ i =>
      simp only [List.drop_succ_cons, flatHear, List.flatMap_cons] at ih ⊢
      rw [ih, List.drop_append, show (i + 1) * 5 - x.cells.length = i * 5 by simp [Hear.cells]; omega, List.drop_eq_nil_of_le (show x.cells.length ≤ (i + 1) * 5 by simp [Hear.cells]; omega), List.nil_append]

theorem own_flat {e : TypeId} {S : Nat → Prop} {w : World} {v : Value} {xs : List Hear} (h : Own hearK e S w v xs) : w.ownsRow 0 e 5 v xs.length (flatHear xs) := by
  obtain ⟨hb, inner, ho, he⟩ := h
  have : inner = flatHear xs := by
    apply List.ext_getElem?
    intro k
    have hil : inner.length = xs.length * 5 := ho.1
    by_cases hk : k < xs.length * 5
    · obtain ⟨cs, hK, hc⟩ := he (k / 5) (by omega)
      have hK' : cs = Hear.cells xs[k / 5] := hK
      subst hK'
      have h1 : k % 5 < (xs[k / 5].cells).length := by simp [Hear.cells]; omega
      have h2 := hc (k % 5) _ (List.getElem?_eq_getElem h1)
      have h3 := flatHear_get xs (k / 5) (by omega) (k % 5) (by omega)
      have e1 : k / 5 * hearK.sz + k % 5 = k := by show k / 5 * 5 + k % 5 = k; omega
      have e2 : k / 5 * 5 + k % 5 = k := by omega
      rw [e1] at h2
      rw [e2] at h3
      rw [h2, h3, List.getElem?_eq_getElem h1]
    · rw [List.getElem?_eq_none (by omega), List.getElem?_eq_none (by rw [flatHear_length]; omega)]
  rw [← this]
  exact ho
theorem own_of_flat {e : TypeId} {S : Nat → Prop} {w : World} {v : Value} {xs : List Hear} (h : w.ownsRow 0 e 5 v xs.length (flatHear xs)) (hS : ∀ k, v.ownBlock = some k → S k) : Own hearK e S w v xs :=
  ⟨hS, flatHear xs, h, fun j hj => ⟨_, rfl, fun i u hi => by
    have h1 : i < 5 := (List.getElem?_eq_some_iff.1 hi).1
    exact (flatHear_get xs j hj i h1).trans hi⟩⟩

/-- Listeners written out, in a block. -/
theorem hear_lit (xs : List Hear) {T : Nat → Prop} {W : World} {B : Nat} {e : TypeId} (hB : W.heap[B]? = some (.cells (flatHear xs).toArray e (0, 0))) (hT : T B) (hl : xs.length ≤ 9223372036854775807) : Row hearK T W (.slice (some ⟨B, 0, none⟩) xs.length xs.length) xs :=
  ⟨⟨_, _, rfl, Nat.le_refl _, hl⟩, fun j hj => ⟨B, 0, _, _, rfl, hT, (Array.getElem?_eq_some_iff.1 hB).1, rfl, fun i u hi => by
    have h1 : i < 5 := (List.getElem?_eq_some_iff.1 hi).1
    simp only [World.cell?, hB]
    have := flatHear_get xs j hj i h1
    rw [hi] at this
    simpa [hearK, Kd.flat] using this⟩⟩
set_option maxRecDepth 10000 in
set_option maxHeartbeats 2000000 in
theorem delete_c {S : Nat → Prop} {w : World} {v : Value} {xs : List Hear} (ho : Own hearK 35 S w v xs) (i : Nat) (hi : i < xs.length) :
    Calls Tryz.prog 24 #[v, .int .i64 i, .int .i64 ((i : Int) + 1)] w fun e w' => ∃ v', e = .returned v' ∧ Own hearK 35 S w' v' (xs.eraseIdx i) ∧ w.grownBy w' v.ownBlock := by
  have hof := own_flat ho
  have hS := ho.blk
  clear ho
  obtain ⟨hfl, hv⟩ := hof
  rcases hv with ⟨_, h0⟩ | ⟨g, cap, cur, rfl, _, hg, hnc, hcm, hcs, htake⟩
  · omega
  simp only [maxLen] at hcm
  obtain ⟨i0, hi0, hzz⟩ := Option.map_eq_some_iff.1 infoHear
  simp only [Prod.mk.injEq] at hzz
  obtain ⟨hz0, hz1, hz2⟩ := hzz
  clear hz0 hz2
  have hn := flatHear_length xs
  -- what is moved
  obtain ⟨mv, hmv⟩ : ∃ mv, mv = flatHear (xs.drop (i + 1)) := ⟨_, rfl⟩
  have hml : mv.length = (xs.length - (i + 1)) * 5 := by rw [hmv, flatHear_length, List.length_drop]
  have hm5 : ∀ u ∈ mv, u.oneCell' = true := by
    rw [hmv]
    intro u hu
    obtain ⟨x, _, hx⟩ := List.mem_flatMap.1 hu
    exact hearK.one (S := Any) (w := w) (x := x) rfl u hx
  have hcell : ∀ k u, (flatHear xs)[k]? = some u → w.cell? ⟨g, k, none⟩ = some u := fun k u hu => by
    rw [← htake, List.getElem?_take] at hu
    split at hu
    · simp only [World.cell?, hg]; simpa using hu
    · cases hu
  obtain ⟨A, hA, hnews⟩ : ∃ A : Addr, (if cap = i + 1 then some (⟨g, 0, none⟩ : Addr) else some ⟨g, (i + 1) * 5, none⟩) = some A ∧ ∀ j u, mv[j]? = some u → w.drew.cell? (A.add j) = some u := by
    by_cases h : cap = i + 1
    · refine ⟨⟨g, 0, none⟩, by simp [h], fun j u hu => ?_⟩
      have := (List.getElem?_eq_some_iff.1 hu).1
      rw [hml] at this
      omega
    · refine ⟨⟨g, (i + 1) * 5, none⟩, by simp [h], fun j u hu => ?_⟩
      rw [Addr.add_lit]
      refine hcell _ _ ?_
      rw [← hu, hmv, flatHear_drop, List.getElem?_drop]
  have hthere : ∀ k, k < cap * 5 → (w.cell? ⟨g, k, none⟩).isSome = true ∧ w.frozen? ⟨g, k, none⟩ = false := fun k hk => by
    refine ⟨?_, by simp [World.frozen?, hg]⟩
    simp only [World.cell?, hg]
    rw [← hcs] at hk
    simp [hk]
  obtain ⟨cur1, hg1, hs1, hl1⟩ := setCells_row (e := 35) mv (i * 5) w.drew cur hg (by rw [hml]; omega)
  obtain ⟨w1, hw1⟩ : ∃ w1, w.drew.setCells g (i * 5) mv = w1 := ⟨_, rfl⟩
  rw [hw1] at hg1
  have hgr1 : w.grownBy w1 (some g) := by
    have := setCells_grown g (i * 5) mv w.drew
    rw [hw1] at this
    exact ⟨this.os, this.tape, this.output, this.size, this.block⟩
  have hw1' := Lib.hid hw1
  obtain ⟨zs, hzs⟩ : ∃ zs, (Builtin.zeroCells (Value.agg #[.int .i64 0, .int .i64 0, .bool false, .bool false, .int .i64 0]).cells 1).toList = zs := ⟨_, rfl⟩
  have hzs5 : (Builtin.zeroCells (Value.agg #[.int .i64 0, .int .i64 0, .bool false, .bool false, .int .i64 0]).cells 1).toList = (⟨0, 0, false, false, 0⟩ : Hear).cells := by kernel_rfl
  have hzl : zs.length = 5 := by rw [← hzs, hzs5]; rfl
  have hz5 : ∀ u ∈ zs, u.oneCell' = true := by rw [← hzs, hzs5]; exact hearK.one (S := Any) (w := w) (x := ⟨0, 0, false, false, 0⟩) rfl
  obtain ⟨cur2, hg2, hs2, hl2⟩ := setCells_row (e := 35) zs ((xs.length - 1) * 5) w1 cur1 hg1 (by rw [hzl, hs1, hcs]; omega)
  have hgr2 := setCells_grown g ((xs.length - 1) * 5) zs w1
  have hthere1 : ∀ k, k < cap * 5 → (w1.cell? ⟨g, k, none⟩).isSome = true ∧ w1.frozen? ⟨g, k, none⟩ = false := fun k hk => by
    refine ⟨?_, by simp [World.frozen?, hg1]⟩
    simp only [World.cell?, hg1]
    rw [← hcs, ← hs1] at hk
    simp [hk]
  have hclear := run_clear_some (P := Tryz.prog) (t := 26) (ty := 0) Tryz.underlying26 (W := w1) Tryz.zeroValue35 g ((xs.length - 1) * 5) 1 (cap - (xs.length - 1)) (by omega) zs hzs (fun j hj => (hthere1 _ (by omega)).1) (fun j hj => (hthere1 _ (by omega)).2) hz5
  have hend : (w1.setCells g ((xs.length - 1) * 5) zs).ownsRow 0 35 5 (.slice (some ⟨g, 0, none⟩) (xs.length - 1) cap) (xs.eraseIdx i).length (flatHear (xs.eraseIdx i)) := by
    have he : (xs.eraseIdx i).length = xs.length - 1 := List.length_eraseIdx_of_lt hi
    refine ⟨by rw [flatHear_length], .inr ⟨g, cap, cur2, by rw [he], Nat.zero_le _, hg2, by omega, by simp only [maxLen]; omega, by rw [hs2, hs1, hcs], ?_⟩⟩
    rw [he, hl2, List.append_assoc, List.take_append_of_le_length (by rw [List.length_take, show cur1.toList.length = cur1.size from Array.length_toList, hs1, hcs]; omega), List.take_take, Nat.min_self, hl1]
    have e1 : (cur.toList.take (i * 5)).length = i * 5 := by rw [List.length_take, show cur.toList.length = cur.size from Array.length_toList, hcs]; omega
    rw [List.take_append_of_le_length (by rw [List.length_append, e1, hml]; omega), List.take_of_length_le (by rw [List.length_append, e1, hml]; omega)]
    have e2 : xs.eraseIdx i = xs.take i ++ xs.drop (i + 1) := List.eraseIdx_eq_take_drop_succ ..
    rw [e2]
    simp only [flatHear, List.flatMap_append] at hmv htake ⊢
    rw [hmv]
    congr 1
    have := flatHear_take xs i
    simp only [flatHear] at this
    rw [this, ← htake, List.take_take, Nat.min_eq_left (by omega)]
  have hgr : w.grownBy (w1.setCells g ((xs.length - 1) * 5) zs) (some g) := hgr1.trans hgr2
  obtain ⟨w2, hw2⟩ : ∃ w2, w1.setCells g ((xs.length - 1) * 5) zs = w2 := ⟨_, rfl⟩
  rw [hw2] at hclear hend hgr
  have s1 := Lib.hid hml
  have s2 := Lib.hid hm5
  have s3 : Hid (∀ j, j < mv.length → (w.drew.cell? ⟨g, 0 + i * 5 + j, none⟩).isSome = true ∧ w.drew.frozen? ⟨g, 0 + i * 5 + j, none⟩ = false) := fun j hj => by
    rw [hml] at hj
    rw [Nat.zero_add]
    exact hthere _ (by omega)
  have s4 := Lib.hid hnews
  have s5 := Lib.hid hi0
  have s6 := Lib.hid hend
  have s7 := Lib.hid hclear
  clear hml hm5 hnews hi0 hend hclear hw1 hw2 hthere hthere1 hcell hg hg1 hg2 hl1 hl2 hs1 hs2 htake hfl hn hzs hzl hz5 hgr1 hgr2 hmv hcs
  have hA' := hA
  have h1 : (i : Int) + 1 ≤ (xs.length : Int) := by omega
  have h2 : (xs.length : Int) ≤ (cap : Int) := by omega
  have h3 : (0 : Int) ≤ (i : Int) := by omega
  have h4 : (i : Int) ≤ (cap : Int) := by omega
  have h5 : (0 : Int) ≤ (i : Int) + 1 := by omega
  have h6 : (i : Int) + 1 ≤ (cap : Int) := by omega
  have h7 : ((i : Int) + 1).toNat = i + 1 := by omega
  have h8 : ((i : Int) == (i : Int) + 1) = false := by simp; omega
  have h9 : ((xs.length - 1 : Nat) : Int) ≤ (xs.length : Int) := by omega
  have h10 : xs.length - (xs.length - 1) = 1 := by omega
  go_enter Tryz.func24, Tryz.ntmps24
  go_wp2
  go_region_law (refine step_append_room rfl (.tmp 22) (.tmp 25) 26 rfl 35 i0 5 Tryz.underlying26 s5.out hz1 g 0 i cap (by simp [Act.eval, Act.put]) A (xs.length - (i + 1)) (cap - (i + 1)) mv (by simp [Act.eval, Act.put]) s1.out s4.out s2.out (by omega) s3.out ?_)
  rw [show i + (xs.length - (i + 1)) = xs.length - 1 by omega]
  (try rw [Nat.zero_add])
  rw [hw1'.out]
  have hcl := s7.out
  go_wp2
  go_ret
  exact ⟨_, rfl, own_of_flat (by have := s6.out; rwa [List.length_eraseIdx_of_lt hi] at this ⊢) hS, hgr⟩
end Go.Proofs.Lime.H
namespace Go.Proofs.Lime.H
open Go.RowKit
set_option linter.unusedVariables false
set_option linter.unusedSimpArgs false

theorem hearDrop_1 {l : List Hear} {h : Hear} (h1 : (!h.may) = true) : hearDrop l h = l ∧ hearDropErr l h = 1 := by
  have : h.may = false := by simpa using h1
  simp [hearDrop, hearDropErr, this]
theorem hearDrop_2 {l : List Hear} {h : Hear} (h1 : (!h.may) = false) (h2 : idx (·.one h) l < 0) : hearDrop l h = l ∧ hearDropErr l h = 9 := by
  have : h.may = true := by simpa using h1
  have h3 : ¬ 0 ≤ idx (·.one h) l := by omega
  simp only [hearDrop, hearDropErr, this]
  simp [h3]
theorem hearDrop_3 {l : List Hear} {h : Hear} (h1 : (!h.may) = false) {i : Nat} (h2 : idx (·.one h) l = i) : hearDrop l h = l.eraseIdx i ∧ hearDropErr l h = 0 := by
  have : h.may = true := by simpa using h1
  have h3 : 0 ≤ idx (·.one h) l := by omega
  simp only [hearDrop, hearDropErr, this]
  simp [h2]

set_option maxHeartbeats 1000000 in
theorem drop_c {S : Nat → Prop} {w : World} {v : Value} {xs : List Hear} (hr : Row hearK S w v xs) (hl : xs.length ≤ 1000) (h : Hear) :
    Calls Tryz.prog 14 #[v, h.val] w (RowNum hearK (hearDrop xs h) (hearDropErr xs h) w) := by
  obtain ⟨A, c, rfl, hc, hm⟩ := hr.form
  by_cases hix : 0 ≤ idx (·.one h) xs
  · obtain ⟨i, hi, hil, _⟩ := idx_nat hix
    have hi' := Lib.hid hi
    have ca := fun W (hW : Stp w W) => at_c (hr.stp hW) h
    rw [hi] at ca
    clear hi hix
    have g1 : ¬ (i : Int) < 0 := by omega
    go_enter Tryz.func14, Tryz.ntmps14
    go_wp2_with (first | (go_at_call 22; refine (may_c h _).mono ?_; rintro e w1 ⟨rfl, hb1⟩; obtain ⟨hc1, hf1⟩ := hb1.bc; have hz1 := hb1.size; (try simp only [World.size_alloc] at hz1 hc1 hf1)) | (go_at_call 23; refine (ca _ Lime.stp_).mono ?_; rintro e w2 ⟨rfl, hb2⟩; clear ca) | (go_at_call 25; refine (clone_c (hr.stp Lime.stp_) hl).mono ?_; rintro e w3 ⟨v3, rfl, ho3, hb3⟩) | (go_at_call 24; refine (delete_c ho3 i hil).mono ?_; rintro e w4 ⟨v4, rfl, ho4, hg4⟩))
    · go_ret2
      exact rowNum_of (hearDrop_1 ‹_›).1 (hearDrop_1 ‹_›).2 ((hr.mono fun _ _ => trivial).stp Lime.stp_) Lime.stp_
    · go_ret2
      have hb4 : Stp w w4 := Stp.grown Lime.stp_ hg4 (fun k hk => Nat.le_trans (Stp.size Lime.stp_) (ho3.blk k hk))
      exact rowNum_of (hearDrop_3 ‹_› hi'.out).1 (hearDrop_3 ‹_› hi'.out).2 (ho4.reads.mono fun _ _ => trivial) hb4
  · have hix' : idx (·.one h) xs < 0 := by omega
    go_enter Tryz.func14, Tryz.ntmps14
    go_wp2_with (first | (go_at_call 22; refine (may_c h _).mono ?_; rintro e w1 ⟨rfl, hb1⟩; obtain ⟨hc1, hf1⟩ := hb1.bc; have hz1 := hb1.size; (try simp only [World.size_alloc] at hz1 hc1 hf1)) | (go_at_call 23; refine (at_c (hr.stp Lime.stp_) h).mono ?_; rintro e w2 ⟨rfl, hb2⟩; obtain ⟨hc2, hf2⟩ := hb2.bc; have hz2 := hb2.size; (try simp only [World.size_alloc] at hz2 hc2 hf2)))
    · go_ret2
      exact rowNum_of (hearDrop_1 ‹_›).1 (hearDrop_1 ‹_›).2 ((hr.mono fun _ _ => trivial).stp Lime.stp_) Lime.stp_
    · go_ret2
      exact rowNum_of (hearDrop_2 ‹_› hix').1 (hearDrop_2 ‹_› hix').2 ((hr.mono fun _ _ => trivial).stp Lime.stp_) Lime.stp_

theorem erase_snoc {α : Type} (l : List α) (x : α) (i : Nat) : (l ++ [x]).eraseIdx i = l.eraseIdx i ++ (if l.length = i then [] else [x]) ∨ l.length < i := by
  by_cases h : i < l.length
  · left; rw [List.eraseIdx_append_of_lt_length h, if_neg (by omega)]
  · by_cases h2 : l.length = i
    · left; subst h2; rw [if_pos rfl, List.eraseIdx_append_of_length_le (by omega), List.eraseIdx_of_length_le (l := l) (by omega)]; simp
    · right; omega
set_option maxHeartbeats 1000000 in
theorem rdrop_c {S : Nat → Prop} {w : World} {v : Value} {xs : List Hear} (hr : Row hearK S w v xs) (hl : xs.length ≤ 1000) (h : Hear) :
    Calls Tryz.prog 17 #[v, h.val] w (RowNum hearK (hearDrop xs h) (hearDropErr xs h) w) := by
  obtain ⟨A, c, rfl, hc, hm⟩ := hr.form
  by_cases hix : 0 ≤ idx (·.one h) xs
  · obtain ⟨i, hi, hil, _⟩ := idx_nat hix
    have hi' := Lib.hid hi
    have ca := fun W (hW : Stp w W) => rplace_c (hr.stp hW) h
    rw [hi] at ca
    clear hi hix
    have g1 : ¬ (i : Int) < 0 := by omega
    go_enter Tryz.func17, Tryz.ntmps17
    go_wp2_with (first | (go_at_call 30; refine (rmay_c h _).mono ?_; rintro e w1 ⟨rfl, hb1⟩; obtain ⟨hc1, hf1⟩ := hb1.bc; have hz1 := hb1.size; (try simp only [World.size_alloc] at hz1 hc1 hf1)) | (go_at_call 31; refine (ca _ Lime.stp_).mono ?_; rintro e w2 ⟨rfl, hb2⟩; clear ca))
    · go_ret2
      exact rowNum_of (hearDrop_1 ‹_›).1 (hearDrop_1 ‹_›).2 ((hr.mono fun _ _ => trivial).stp Lime.stp_) Lime.stp_
    · have hmay := Lib.hid ‹(!h.may) = false›
      go_loopg [7, 8] xs.length (fun gg s7 s8 wr => ∃ (k : Nat) (out : List Hear), k ≤ xs.length ∧ xs.length - k ≤ gg ∧ s8 = .int .i64 k ∧ Stp w wr ∧ Own hearK 35 (w.heap.size ≤ ·) wr s7 out ∧ Aside (out = (xs.take k).eraseIdx i))
      case atStart => exact ⟨0, [], Nat.zero_le _, by omega, rfl, by (exact Lime.stp_), Own.nil _ _ _ _, by simp [Aside]⟩
      case round =>
        obtain ⟨k, out, hk, hg, rfl, hb, hO, A1⟩ := hrel
        by_cases hlt : k < xs.length
        · have hltz : (k : Int) < (xs.length : Int) := by omega
          obtain ⟨b, o, rfl, hS, hbw, x0, x1, x2, x3, x4⟩ := hear_at (hr.stp hb) k hlt
          have hT := Lib.hid (List.take_succ_eq_append_getElem hlt)
          generalize hy : xs[k] = y at x0 x1 x2 x3 x4 hT
          clear hy
          have hol : out.length ≤ 1000 := by rw [A1.out]; have := List.length_eraseIdx_le (xs.take k) i; have := List.length_take_le k xs; omega
          by_cases hki : k = i
          · have hq : ((k : Int) != (i : Int)) = false := by simp [hki]
            have HK := Lib.hid hki
            clear hki
            go_wp2
            go_roundg (xs.length - (k + 1))
            case measure => omega
            case rel =>
              refine ⟨k + 1, out, by omega, by omega, by go_num, by (exact Lime.stp_), hO.stp Lime.stp_, ?_⟩
              have h1 := HK.out
              show out = _
              rw [A1.out, hT.out]
              rcases erase_snoc (xs.take k) y i with h2 | h2
              · rw [h2, if_pos (by rw [List.length_take]; omega)]; simp
              · rw [List.length_take] at h2; omega
          · have hq : ((k : Int) != (i : Int)) = true := by simp; omega
            go_wp2_with ((at_builtin; refine wpl_append1 (d := hearK) (S := (w.heap.size ≤ ·)) (T := fun _ => False) rfl (.tmp 28) (.tmp 33) 26 35 _ 32 rfl Tryz.underlying26 infoHear rfl (by decide) (by decide) u7 out y _ rfl (by first | (go_simp; done) | (go_simp; rfl)) (by show _ = Hear.cells y; simp [Hear.cells, *]) (fun _ h _ => h.elim) (hO.stp Lime.stp_) (fun k hk => Nat.le_trans (Stp.size Lime.stp_) hk) (by omega) ?_; intro v1 w1 ho hg2; have hb2 : Stp w w1 := Stp.grown Lime.stp_ hg2 hO.blk))
            go_roundg (xs.length - (k + 1))
            case measure => omega
            case rel =>
              refine ⟨k + 1, out ++ [y], by omega, by omega, by go_num, hb2, ho, ?_⟩
              show out ++ [y] = _
              rw [A1.out, hT.out]
              rcases erase_snoc (xs.take k) y i with h2 | h2
              · rw [h2, if_neg (by rw [List.length_take]; omega)]
              · rw [List.length_take] at h2
                rw [List.eraseIdx_of_length_le (by rw [List.length_take]; omega), List.eraseIdx_of_length_le (by rw [List.length_append, List.length_take]; simp; omega)]
        · have hltz : ¬ (k : Int) < (xs.length : Int) := by omega
          go_wp2
          go_ret2
          refine rowNum_of (hearDrop_3 hmay.out hi'.out).1 (hearDrop_3 hmay.out hi'.out).2 ?_ Lime.stp_
          rw [show xs = xs.take k from (List.take_of_length_le (by omega)).symm, ← A1.out]
          exact hO.reads.mono fun _ _ => trivial
  · have hix' : idx (·.one h) xs < 0 := by omega
    go_enter Tryz.func17, Tryz.ntmps17
    go_wp2_with (first | (go_at_call 30; refine (rmay_c h _).mono ?_; rintro e w1 ⟨rfl, hb1⟩; obtain ⟨hc1, hf1⟩ := hb1.bc; have hz1 := hb1.size; (try simp only [World.size_alloc] at hz1 hc1 hf1)) | (go_at_call 31; refine (rplace_c (hr.stp Lime.stp_) h).mono ?_; rintro e w2 ⟨rfl, hb2⟩; obtain ⟨hc2, hf2⟩ := hb2.bc; have hz2 := hb2.size; (try simp only [World.size_alloc] at hz2 hc2 hf2)))
    · go_ret2
      exact rowNum_of (hearDrop_1 ‹_›).1 (hearDrop_1 ‹_›).2 ((hr.mono fun _ _ => trivial).stp Lime.stp_) Lime.stp_
    · go_ret2
      exact rowNum_of (hearDrop_2 ‹_› hix').1 (hearDrop_2 ‹_› hix').2 ((hr.mono fun _ _ => trivial).stp Lime.stp_) Lime.stp_
end Go.Proofs.Lime.H
