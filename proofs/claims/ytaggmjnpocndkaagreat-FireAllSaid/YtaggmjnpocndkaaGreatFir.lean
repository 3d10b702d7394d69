/- Walks: a run; whether somebody listens still; who is called next. -/
import Derived.Test.YtaggmjnpocndkaaGreatMH
import Derived.Test.YtaggmjnpocndkaaGreatMW
import Derived.Deep.Cut
namespace Go.Proofs.Lime
open Go.RowKit
set_option linter.unusedVariables false
set_option linter.unusedSimpArgs false
attribute [local go_sem] Oper.semAt_some

theorem inB {w : World} {B : Nat} {cs : Array Value} {t : TypeId} (h : w.heap[B]? = some (.cells cs t (0, 0))) (i : Nat) (u : Value) (hu : cs[i]? = some u) : w.cell? ⟨B, i, none⟩ = some u ∧ w.frozen? ⟨B, i, none⟩ = false := by
  refine ⟨by simp only [World.cell?, h]; simpa using hu, ?_⟩
  simp only [World.frozen?, h, Bool.and_eq_false_iff, decide_eq_false_iff_not]
  right; omega
theorem setB {w : World} {B : Nat} {cs : Array Value} {t : TypeId} {fz : Nat × Nat} (h : w.heap[B]? = some (.cells cs t fz)) (i : Nat) (u : Value) : (w.setCell ⟨B, i, none⟩ u).heap[B]? = some (.cells (cs.setIfInBounds i u) t fz) := by
  unfold World.setCell
  simp only [Array.getElem?_modify, h]
  simp
def Cal.cells (c : Cal) : List Value := [.int .i64 c.hear.node, .int .i64 c.hear.type, .bool c.hear.cap, .bool c.hear.once, .int .i64 c.hear.prog, .int .i64 c.vis.stop.node, .int .i64 c.vis.stop.target, .int .i64 c.vis.stop.related, .int .i64 c.vis.phase, .bool c.vis.cap]
abbrev Cal.arr (c : Cal) : Array Value := #[.int .i64 c.hear.node, .int .i64 c.hear.type, .bool c.hear.cap, .bool c.hear.once, .int .i64 c.hear.prog, .int .i64 c.vis.stop.node, .int .i64 c.vis.stop.target, .int .i64 c.vis.stop.related, .int .i64 c.vis.phase, .bool c.vis.cap]
def calK : Kd Cal := Kd.flat 10 Cal.cells (fun _ => rfl) (fun x u hu => by
  simp only [Cal.cells, List.mem_cons, List.not_mem_nil, or_false] at hu
  rcases hu with rfl | rfl | rfl | rfl | rfl | rfl | rfl | rfl | rfl | rfl <;> rfl)
def cal0 : Cal := ⟨⟨0, 0, false, false, 0⟩, ⟨⟨0, 0, 0⟩, 0, false⟩⟩
section
attribute [local go_sem high] eqHear
theorem there1_c (h x : Hear) (B : Nat) (w : World) (h0 : w.cell? ⟨B, 0, none⟩ = some (.int .i64 h.node)) (h1 : w.cell? ⟨B, 1, none⟩ = some (.int .i64 h.type)) (h2 : w.cell? ⟨B, 2, none⟩ = some (.bool h.cap)) (h3 : w.cell? ⟨B, 3, none⟩ = some (.bool h.once)) (h4 : w.cell? ⟨B, 4, none⟩ = some (.int .i64 h.prog)) :
    Calls Tryz.prog 37 #[x.val, .pointer (some ⟨B, 0, none⟩)] w fun e w' => e = .returned (.bool (x.one h)) ∧ Stp w w' := by
  have hB : B < w.heap.size := World.block_lt_of_cell? w _ h0
  go_enter Tryz.func37, Tryz.ntmps37
  go_wp2
  go_ret
  exact ⟨rfl, by (exact Lime.stp_)⟩
end
theorem there_c {S : Nat → Prop} {w : World} {v : Value} {xs : List Hear} (hr : Row hearK S w v xs) (h : Hear) :
    Calls Tryz.prog 20 #[v, h.val] w fun e w' => e = .returned (.bool (xs.any (·.one h))) ∧ Stp w w' := by
  have e1 := (enters_of Tryz.func37 (by kernel_rfl) rfl)
  have hr' := hr.stp ((Stp.refl w).alloc (.cells #[.int .i64 h.node, .int .i64 h.type, .bool h.cap, .bool h.once, .int .i64 h.prog] 35))
  clear hr
  go_enter Tryz.func20, Tryz.ntmps20
  go_wp2_with (go_at_call 36; refine (H.containsFunc_c hr' (·.one h) _ _ e1 ?_).mono ?_; (intro W x hW; refine there1_c h x _ W (hW.cell ?_) (hW.cell ?_) (hW.cell ?_) (hW.cell ?_) (hW.cell ?_) <;> go_simp); rintro e w' ⟨rfl, hb'⟩)
  go_ret
  exact ⟨rfl, ((Stp.refl w).alloc _).trans hb'⟩

/-- A run's cells. -/
abbrev runA (et tg re : Int) (bub can comp : Bool) (sv : Value) (v : Vis) (st : Value) (sp cd : Bool) : Array Value :=
  #[.int .i64 et, .int .i64 tg, .int .i64 re, .bool bub, .bool can, .bool comp, sv, .int .i64 v.stop.node, .int .i64 v.stop.target, .int .i64 v.stop.related, .int .i64 v.phase, .bool v.cap, st, .bool sp, .bool cd]
/-- A run under way, in block B; what its slices lead to lies in S. -/
structure RunAt (S : Nat → Prop) (B : Nat) (W : World) (et tg re : Int) (bub can comp : Bool) (vs : List Vis) (v : Vis) (tk : List Hear) (sp cd : Bool) : Prop where mk ::
  cells : ∃ sv st, W.heap[B]? = some (.cells (runA et tg re bub can comp sv v st sp cd) 70 (0, 0)) ∧ Row visK S W sv vs ∧ Row hearK S W st tk
section
variable {S : Nat → Prop} {B : Nat} {W W2 : World} {et tg re : Int} {bub can comp : Bool} {vs : List Vis} {v : Vis} {tk : List Hear} {sp cd : Bool}
theorem RunAt.kpt {O : Nat → Prop} (h : RunAt S B W et tg re bub can comp vs v tk sp cd) (hk : Kpt O W W2) (hB : ¬ O B) (hO : ∀ k, S k → k < W.heap.size → ¬ O k) : RunAt S B W2 et tg re bub can comp vs v tk sp cd := by
  obtain ⟨sv, st, h1, h2, h3⟩ := h.cells
  exact ⟨sv, st, (hk.block B (Array.getElem?_eq_some_iff.1 h1).1 hB).trans h1, h2.kpt hk hO, h3.kpt hk hO⟩
theorem RunAt.stp (h : RunAt S B W et tg re bub can comp vs v tk sp cd) (hk : Stp W W2) : RunAt S B W2 et tg re bub can comp vs v tk sp cd := h.kpt (O := fun _ => False) (Kpt.of_stp hk) id (fun _ _ _ => id)
theorem RunAt.mono {S' : Nat → Prop} (h : RunAt S B W et tg re bub can comp vs v tk sp cd) (hS : ∀ k, S k → S' k) : RunAt S' B W et tg re bub can comp vs v tk sp cd := by
  obtain ⟨sv, st, h1, h2, h3⟩ := h.cells
  exact ⟨sv, st, h1, h2.mono hS, h3.mono hS⟩
theorem RunAt.bound (h : RunAt S B W et tg re bub can comp vs v tk sp cd) : RunAt (fun k => S k ∧ k < W.heap.size) B W et tg re bub can comp vs v tk sp cd := by
  obtain ⟨sv, st, h1, h2, h3⟩ := h.cells
  exact ⟨sv, st, h1, h2.bound, h3.bound⟩
end
/-- A list's first is gone. -/
theorem Row.tail {α : Type} {d : Kd α} {S : Nat → Prop} {w : World} {A : Option Addr} {n c : Nat} {x : α} {xs : List α} (h : Row d S w (.slice A n c) (x :: xs)) :
    ∃ b o, A = some ⟨b, o, none⟩ ∧ n = xs.length + 1 ∧ Row d S w (.slice (some ⟨b, o + d.sz, none⟩) xs.length (c - 1)) xs := by
  obtain ⟨A', c', e, h1, h2⟩ := h.form
  injection e with e1 e2 e3
  subst e1 e2 e3
  simp only [List.length_cons] at h1 h2
  obtain ⟨b, o, c', cs, e, hS, hb, hK, hc⟩ := h.get 0 (by simp)
  injection e with e1 e2 e3
  subst e1
  refine ⟨b, o, rfl, by simp, ⟨⟨_, _, rfl, by omega, by omega⟩, fun j hj => ?_⟩⟩
  obtain ⟨b', o', c'', cs', e, hS', hb', hK', hc'⟩ := h.get (j + 1) (by simp; omega)
  injection e with e1 e2 e3
  injection e1 with e1
  injection e1 with e1 e4 e5
  subst e1 e4
  refine ⟨b, o + d.sz, _, cs', rfl, hS, hb, by simpa using hK', fun i u hi => ?_⟩
  have := hc' i u hi
  rw [Nat.succ_mul] at this
  rw [show o + d.sz + j * d.sz + i = o + (j * d.sz + d.sz) + i by omega]
  exact this
theorem Row.rest {α : Type} {d : Kd α} {S : Nat → Prop} {w : World} {b o n c : Nat} {x : α} {xs : List α} (h : Row d S w (.slice (some ⟨b, o, none⟩) n c) (x :: xs)) :
    Row d S w (.slice (if c = 1 then some ⟨b, o, none⟩ else some ⟨b, o + d.sz, none⟩) xs.length (c - 1)) xs := by
  obtain ⟨b', o', e, _, h2⟩ := h.tail
  injection e with e
  injection e with e1 e2
  subst e1 e2
  split
  · rename_i hc
    obtain ⟨A', c', e, h3, h4⟩ := h.form
    injection e with _ _ e3
    subst e3
    have h0 : xs.length = 0 := by simp at h3; omega
    exact ⟨⟨_, _, rfl, by omega, by omega⟩, fun j hj => by omega⟩
  · exact h2
theorem results_cell_row_tmp {P : Program} {fn : Func} {p u : Tmp} {ty : TypeId} (h : fn.results = #[.cell p ty, .tmp u]) (tmps : Array Value) (w : World) (g : Nat) (t : TypeId) (cs : Array Value) (fr : Nat × Nat) (d : TypeDesc) (uv : Value)
    (hp : tmps.getD p undef = .pointer (some ⟨g, 0, none⟩)) (hg : w.heap[g]? = some (.cells cs t fr))
    (hu : P.underlying ty = some d) (hd : (match d with | .struct _ | .array _ _ => true | _ => false) = true) (hi : (P.info? ty).map (·.size) = some cs.size) (huv : tmps.getD u undef = uv) :
    (results fn tmps).run P w = .ok (.tuple #[.agg cs, uv]) w := by
  rw [results_cell_tmp h, hp, huv]
  simp [asAddr, run_loadVar_row w g t ty cs fr d hg hu hd hi]
section
variable {w : World} {B : Nat} {t : TypeId} {x0 x1 x2 x3 x4 x5 x6 x7 x8 x9 a0 a1 a2 a3 a4 a5 a6 a7 a8 a9 : Value}
theorem put5 (h : w.heap[B]? = some (.cells #[x0, x1, x2, x3, x4] t (0, 0))) : (((((w.setCell ⟨B, 0, none⟩ a0).setCell ⟨B, 1, none⟩ a1).setCell ⟨B, 2, none⟩ a2).setCell ⟨B, 3, none⟩ a3).setCell ⟨B, 4, none⟩ a4).heap[B]? = some (.cells #[a0, a1, a2, a3, a4] t (0, 0)) := setB (setB (setB (setB (setB h 0 a0) 1 a1) 2 a2) 3 a3) 4 a4
theorem put10 (h : w.heap[B]? = some (.cells #[x0, x1, x2, x3, x4, x5, x6, x7, x8, x9] t (0, 0))) : ((((((((((w.setCell ⟨B, 0, none⟩ a0).setCell ⟨B, 1, none⟩ a1).setCell ⟨B, 2, none⟩ a2).setCell ⟨B, 3, none⟩ a3).setCell ⟨B, 4, none⟩ a4).setCell ⟨B, 5, none⟩ a5).setCell ⟨B, 6, none⟩ a6).setCell ⟨B, 7, none⟩ a7).setCell ⟨B, 8, none⟩ a8).setCell ⟨B, 9, none⟩ a9).heap[B]? = some (.cells #[a0, a1, a2, a3, a4, a5, a6, a7, a8, a9] t (0, 0)) := by
  have h0 : (w.setCell ⟨B, 0, none⟩ a0).heap[B]? = some (.cells #[a0, x1, x2, x3, x4, x5, x6, x7, x8, x9] t (0, 0)) := setB h 0 a0
  have h1 : ((w.setCell ⟨B, 0, none⟩ a0).setCell ⟨B, 1, none⟩ a1).heap[B]? = some (.cells #[a0, a1, x2, x3, x4, x5, x6, x7, x8, x9] t (0, 0)) := setB h0 1 a1
  have h2 : (((w.setCell ⟨B, 0, none⟩ a0).setCell ⟨B, 1, none⟩ a1).setCell ⟨B, 2, none⟩ a2).heap[B]? = some (.cells #[a0, a1, a2, x3, x4, x5, x6, x7, x8, x9] t (0, 0)) := setB h1 2 a2
  have h3 : ((((w.setCell ⟨B, 0, none⟩ a0).setCell ⟨B, 1, none⟩ a1).setCell ⟨B, 2, none⟩ a2).setCell ⟨B, 3, none⟩ a3).heap[B]? = some (.cells #[a0, a1, a2, a3, x4, x5, x6, x7, x8, x9] t (0, 0)) := setB h2 3 a3
  have h4 : (((((w.setCell ⟨B, 0, none⟩ a0).setCell ⟨B, 1, none⟩ a1).setCell ⟨B, 2, none⟩ a2).setCell ⟨B, 3, none⟩ a3).setCell ⟨B, 4, none⟩ a4).heap[B]? = some (.cells #[a0, a1, a2, a3, a4, x5, x6, x7, x8, x9] t (0, 0)) := setB h3 4 a4
  have h5 : ((((((w.setCell ⟨B, 0, none⟩ a0).setCell ⟨B, 1, none⟩ a1).setCell ⟨B, 2, none⟩ a2).setCell ⟨B, 3, none⟩ a3).setCell ⟨B, 4, none⟩ a4).setCell ⟨B, 5, none⟩ a5).heap[B]? = some (.cells #[a0, a1, a2, a3, a4, a5, x6, x7, x8, x9] t (0, 0)) := setB h4 5 a5
  have h6 : (((((((w.setCell ⟨B, 0, none⟩ a0).setCell ⟨B, 1, none⟩ a1).setCell ⟨B, 2, none⟩ a2).setCell ⟨B, 3, none⟩ a3).setCell ⟨B, 4, none⟩ a4).setCell ⟨B, 5, none⟩ a5).setCell ⟨B, 6, none⟩ a6).heap[B]? = some (.cells #[a0, a1, a2, a3, a4, a5, a6, x7, x8, x9] t (0, 0)) := setB h5 6 a6
  have h7 : ((((((((w.setCell ⟨B, 0, none⟩ a0).setCell ⟨B, 1, none⟩ a1).setCell ⟨B, 2, none⟩ a2).setCell ⟨B, 3, none⟩ a3).setCell ⟨B, 4, none⟩ a4).setCell ⟨B, 5, none⟩ a5).setCell ⟨B, 6, none⟩ a6).setCell ⟨B, 7, none⟩ a7).heap[B]? = some (.cells #[a0, a1, a2, a3, a4, a5, a6, a7, x8, x9] t (0, 0)) := setB h6 7 a7
  have h8 : (((((((((w.setCell ⟨B, 0, none⟩ a0).setCell ⟨B, 1, none⟩ a1).setCell ⟨B, 2, none⟩ a2).setCell ⟨B, 3, none⟩ a3).setCell ⟨B, 4, none⟩ a4).setCell ⟨B, 5, none⟩ a5).setCell ⟨B, 6, none⟩ a6).setCell ⟨B, 7, none⟩ a7).setCell ⟨B, 8, none⟩ a8).heap[B]? = some (.cells #[a0, a1, a2, a3, a4, a5, a6, a7, a8, x9] t (0, 0)) := setB h7 8 a8
  exact setB h8 9 a9
theorem kpt5 : Kpt (fun k => k = B) w (((((w.setCell ⟨B, 0, none⟩ a0).setCell ⟨B, 1, none⟩ a1).setCell ⟨B, 2, none⟩ a2).setCell ⟨B, 3, none⟩ a3).setCell ⟨B, 4, none⟩ a4) := kpt_store (kpt_store (kpt_store (kpt_store (kpt_store (Kpt.refl _ _) rfl) rfl) rfl) rfl) rfl
theorem kpt10 : Kpt (fun k => k = B) w ((((((((((w.setCell ⟨B, 0, none⟩ a0).setCell ⟨B, 1, none⟩ a1).setCell ⟨B, 2, none⟩ a2).setCell ⟨B, 3, none⟩ a3).setCell ⟨B, 4, none⟩ a4).setCell ⟨B, 5, none⟩ a5).setCell ⟨B, 6, none⟩ a6).setCell ⟨B, 7, none⟩ a7).setCell ⟨B, 8, none⟩ a8).setCell ⟨B, 9, none⟩ a9) :=
  kpt_store (kpt_store (kpt_store (kpt_store (kpt_store (kpt_store (kpt_store (kpt_store (kpt_store (kpt_store (Kpt.refl _ _) rfl) rfl) rfl) rfl) rfl) rfl) rfl) rfl) rfl) rfl
end
theorem Kpt.drew' {O : Nat → Prop} {a b : World} (h : Kpt O a b) : Kpt O a b.drew := h.trans (O' := O) (Kpt.of_stp (Stp.refl _).drew) fun x hx => .inl hx
section
variable {w : World} {B : Nat} {t : TypeId} {x0 x1 x2 x3 x4 x5 x6 x7 x8 x9 x10 x11 x12 x13 x14 a6 a7 a8 a9 a10 a11 : Value}
theorem put6 (h : w.heap[B]? = some (.cells #[x0, x1, x2, x3, x4, x5, x6, x7, x8, x9, x10, x11, x12, x13, x14] t (0, 0))) : ((((((w.setCell ⟨B, 7, none⟩ a7).setCell ⟨B, 8, none⟩ a8).setCell ⟨B, 9, none⟩ a9).setCell ⟨B, 10, none⟩ a10).setCell ⟨B, 11, none⟩ a11).setCell ⟨B, 6, none⟩ a6).heap[B]? = some (.cells #[x0, x1, x2, x3, x4, x5, a6, a7, a8, a9, a10, a11, x12, x13, x14] t (0, 0)) := by
  have h0 : (w.setCell ⟨B, 7, none⟩ a7).heap[B]? = some (.cells #[x0, x1, x2, x3, x4, x5, x6, a7, x8, x9, x10, x11, x12, x13, x14] t (0, 0)) := setB h 7 a7
  have h1 : ((w.setCell ⟨B, 7, none⟩ a7).setCell ⟨B, 8, none⟩ a8).heap[B]? = some (.cells #[x0, x1, x2, x3, x4, x5, x6, a7, a8, x9, x10, x11, x12, x13, x14] t (0, 0)) := setB h0 8 a8
  have h2 : (((w.setCell ⟨B, 7, none⟩ a7).setCell ⟨B, 8, none⟩ a8).setCell ⟨B, 9, none⟩ a9).heap[B]? = some (.cells #[x0, x1, x2, x3, x4, x5, x6, a7, a8, a9, x10, x11, x12, x13, x14] t (0, 0)) := setB h1 9 a9
  have h3 : ((((w.setCell ⟨B, 7, none⟩ a7).setCell ⟨B, 8, none⟩ a8).setCell ⟨B, 9, none⟩ a9).setCell ⟨B, 10, none⟩ a10).heap[B]? = some (.cells #[x0, x1, x2, x3, x4, x5, x6, a7, a8, a9, a10, x11, x12, x13, x14] t (0, 0)) := setB h2 10 a10
  have h4 : (((((w.setCell ⟨B, 7, none⟩ a7).setCell ⟨B, 8, none⟩ a8).setCell ⟨B, 9, none⟩ a9).setCell ⟨B, 10, none⟩ a10).setCell ⟨B, 11, none⟩ a11).heap[B]? = some (.cells #[x0, x1, x2, x3, x4, x5, x6, a7, a8, a9, a10, a11, x12, x13, x14] t (0, 0)) := setB h3 11 a11
  exact setB h4 6 a6
theorem kpt6 : Kpt (fun k => k = B) w ((((((w.setCell ⟨B, 7, none⟩ a7).setCell ⟨B, 8, none⟩ a8).setCell ⟨B, 9, none⟩ a9).setCell ⟨B, 10, none⟩ a10).setCell ⟨B, 11, none⟩ a11).setCell ⟨B, 6, none⟩ a6) := kpt_store (kpt_store (kpt_store (kpt_store (kpt_store (kpt_store (Kpt.refl _ _) rfl) rfl) rfl) rfl) rfl) rfl
end
end Go.Proofs.Lime
