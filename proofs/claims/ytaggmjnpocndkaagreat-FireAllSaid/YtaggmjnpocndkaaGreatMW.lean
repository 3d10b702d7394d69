/- Stops and visits: how they lie in cells; one visit; the iterator that hands over stops from the end. No conditions. Trees and lists written out, as they lie in blocks. No conditions. An event's calls, one by one, in plain words. No conditions. An event's calls: what they are all of, and in which order. No conditions. -/
import Derived.Test.YtaggmjnpocndkaaGreatMA
import Derived.Test.YtaggmjnpocndkaaGreatMP
import Derived.Test.YtaggmjnpocndkaaGreatMH
namespace Go.Proofs.Lime
open Go.RowKit
set_option linter.unusedVariables false
set_option linter.unusedSimpArgs false
attribute [local go_sem] Oper.semAt_some

def Stp3.cells (s : Stp3) : List Value := [.int .i64 s.node, .int .i64 s.target, .int .i64 s.related]
abbrev Stp3.val (s : Stp3) : Value := .agg #[.int .i64 s.node, .int .i64 s.target, .int .i64 s.related]
def stpK : Kd Stp3 := Kd.flat 3 Stp3.cells (fun _ => rfl) (fun x u hu => by
  simp only [Stp3.cells, List.mem_cons, List.not_mem_nil, or_false] at hu
  rcases hu with rfl | rfl | rfl <;> rfl)
/-- A visit: a stop, in a phase. -/
structure Vis where
  stop : Stp3
  phase : Int
  cap : Bool
deriving DecidableEq
def Vis.cells (x : Vis) : List Value := [.int .i64 x.stop.node, .int .i64 x.stop.target, .int .i64 x.stop.related, .int .i64 x.phase, .bool x.cap]
abbrev Vis.val (x : Vis) : Value := .agg #[.int .i64 x.stop.node, .int .i64 x.stop.target, .int .i64 x.stop.related, .int .i64 x.phase, .bool x.cap]
def visK : Kd Vis := Kd.flat 5 Vis.cells (fun _ => rfl) (fun x u hu => by
  simp only [Vis.cells, List.mem_cons, List.not_mem_nil, or_false] at hu
  rcases hu with rfl | rfl | rfl | rfl | rfl <;> rfl)
theorem vis_K (T : Nat → Prop) (W : World) (x : Vis) : visK.K T W x x.cells := rfl
theorem infoVis : (Tryz.prog.info? 39).map (fun i => (i.zero, i.size, i.bytes)) = some (some (.agg #[.int .i64 0, .int .i64 0, .int .i64 0, .int .i64 0, .bool false]), 5, 40) := by kernel_rfl
/-- The visit of a stop. -/
def visOf (s : Stp3) (ph : Int) : Vis := ⟨s, if s.node = s.target then 2 else ph, ph == 1⟩
/-- The visits of a way. -/
def visL (p : List Stp3) (bub : Bool) : List Vis := p.reverse.map (visOf · 1) ++ (p.map (visOf · 3)).filter (fun x => bub || x.phase == 2)
theorem stp_at {S : Nat → Prop} {w : World} {A : Option Addr} {n c : Nat} {xs : List Stp3} (h : Row stpK S w (.slice A n c) xs) (k : Nat) (hk : k < xs.length) :
    ∃ b o, A = some ⟨b, o, none⟩ ∧ S b ∧ b < w.heap.size ∧ w.cell? ⟨b, o + k * 3, none⟩ = some (.int .i64 xs[k].node) ∧ w.cell? ⟨b, o + k * 3 + 1, none⟩ = some (.int .i64 xs[k].target) ∧ w.cell? ⟨b, o + k * 3 + 2, none⟩ = some (.int .i64 xs[k].related) := by
  obtain ⟨b, o, c', cs, e, hS, hb, hK, hc⟩ := h.get k hk
  injection e with e1 e2 e3
  have hK' : cs = Stp3.cells xs[k] := hK
  subst hK'
  exact ⟨b, o, e1, hS, hb, hc 0 _ rfl, hc 1 _ rfl, hc 2 _ rfl⟩
theorem visit_c (w : World) (s : Stp3) (ph : Int) : Calls Tryz.prog 35 #[s.val, .int .i64 ph] w fun e w' => e = .returned (visOf s ph).val ∧ Stp w w' := by
  obtain ⟨n, g, r⟩ := s
  by_cases h : n = g
  · have HR := Lib.hid (show visOf ⟨n, g, r⟩ ph = ⟨⟨n, g, r⟩, 2, ph == 1⟩ by simp [visOf, h])
    have hb : (n == g) = true := by simpa using h
    clear h
    go_enter Tryz.func35, Tryz.ntmps35
    go_wp2
    refine bodyPost_ret (results_cell_row rfl _ _ (w.heap.size + 1) 39 #[.int .i64 n, .int .i64 g, .int .i64 r, .int .i64 2, .bool (ph == 1)] (0, 0) _ rfl (heap_old (heap_new _ _ _ (by simp))) Tryz.underlying39 rfl (by kernel_rfl)) rfl ?_
    exact ⟨by rw [HR.out], by (exact Lime.stp_)⟩
  · have HR := Lib.hid (show visOf ⟨n, g, r⟩ ph = ⟨⟨n, g, r⟩, ph, ph == 1⟩ by simp [visOf, h])
    have hb : (n == g) = false := by simpa using h
    clear h
    go_enter Tryz.func35, Tryz.ntmps35
    go_wp2
    refine bodyPost_ret (results_cell_row rfl _ _ (w.heap.size + 1) 39 #[.int .i64 n, .int .i64 g, .int .i64 r, .int .i64 ph, .bool (ph == 1)] (0, 0) _ rfl (heap_old (heap_new _ _ _ (by simp))) Tryz.underlying39 rfl (by kernel_rfl)) rfl ?_
    exact ⟨by rw [HR.out], by (exact Lime.stp_)⟩
theorem visit_x (w : World) (s : Stp3) (ph : Int) (x : Vis) (hx : visOf s ph = x) : Calls Tryz.prog 35 #[.agg #[.int .i64 s.node, .int .i64 s.target, .int .i64 s.related], .int .i64 ph] w fun e w' => e = .returned (.agg #[.int .i64 x.stop.node, .int .i64 x.stop.target, .int .i64 x.stop.related, .int .i64 x.phase, .bool x.cap]) ∧ Stp w w' := by
  subst hx
  exact visit_c w s ph
theorem sback_c (w : World) (A : Option Addr) (m c : Nat) : Calls Tryz.prog 34 #[.slice A m c] w fun e w' => e = .returned (.func (.func 51) #[] #[.pointer (some ⟨w.heap.size, 0, none⟩)]) ∧ w' = w.alloc (.cells #[.slice A m c] 82) := by
  go_enter Tryz.func34, Tryz.ntmps34
  go_wp2
  go_ret
  exact ⟨rfl, rfl⟩
instance : Inhabited Stp3 := ⟨⟨0, 0, 0⟩⟩
/-- What is handed over: places and stops, from the end. -/
def sbacks (xs : List Stp3) : List (Int × Stp3) := (List.range xs.length).reverse.map fun i : Nat => ((i : Int), xs.getD i default)
theorem sbacks_length (xs : List Stp3) : (sbacks xs).length = xs.length := by simp [sbacks]
theorem sbacks_at {xs : List Stp3} {k : Nat} (h : k < (sbacks xs).length) (h2 : xs.length - 1 - k < xs.length) : (sbacks xs)[k] = (((xs.length - 1 - k : Nat) : Int), xs[xs.length - 1 - k]) := by
  simp only [sbacks, List.getElem_map, List.getElem_reverse, List.getElem_range, List.length_range]
  rw [List.getD_eq_getElem?_getD, List.getElem?_eq_getElem h2]; rfl
theorem sbacks_snd (xs : List Stp3) : (sbacks xs).map Prod.snd = xs.reverse := by
  apply List.ext_getElem (by simp [sbacks])
  intro i h1 h2
  rw [List.length_reverse] at h2
  rw [List.getElem_map, sbacks_at (by rw [sbacks_length]; exact h2) (by omega), List.getElem_reverse]
set_option maxHeartbeats 1000000 in
theorem sback1_it {S : Nat → Prop} {w : World} {A : Option Addr} {c : Nat} {xs : List Stp3} (hr : Row stpK S w (.slice A xs.length c) xs) {B : Nat} (h1 : w.cell? ⟨B, 0, none⟩ = some (.slice A xs.length c)) :
    Iter Tryz.prog 51 #[.pointer (some ⟨B, 0, none⟩)] (fun p : Int × Stp3 => #[.int .i64 p.1, p.2.val]) (fun _ => False) (fun b => S b ∨ b = B) (sbacks xs) w := by
  intro l J Jx O W hk hO hJ hJx hY h0
  have hOB : ¬ O B := fun h => (hO B h).2 (World.block_lt_of_cell? w _ h1) (.inr rfl)
  have hrW := hr.bound.kpt hk (fun x hx hl h => (hO x h).2 hx.2 (.inl hx.1))
  have cB := hk.cell (p := ⟨B, 0, none⟩) hOB h1
  have hOS : ∀ x, S x ∧ x < w.heap.size → ¬ O x := fun x hx h => (hO x h).2 hx.2 (.inl hx.1)
  have hBW := World.block_lt_of_cell? W _ cB
  have hSW := hk.size
  obtain ⟨A', c', e, hc, hm⟩ := hr.form
  injection e with e1 e2 e3
  subst e1 e3
  clear hr h1 e2
  refine callsIn_of_wp Tryz.func51 rfl trivial ?_ rfl; simp only [Tryz.ntmps51, List.size_toArray, List.length_cons, List.length_nil, Nat.reduceAdd, Nat.reduceSub, Array.replicate_succ, Array.replicate_zero, List.push_toArray, List.append_toArray, List.nil_append, List.cons_append]
  gi_wp2
  gi_loopw [3] (fun s3 wr => ∃ (i : Int) (k : Nat) (O' : Nat → Prop), s3 = .int .i64 i ∧ -1 ≤ i ∧ i + k + 1 = xs.length ∧ Aside ((∀ b, O' b → O b ∨ W.heap.size ≤ b) ∧ Kpt O W wr ∧ J k O' wr)) (fun s3 _ => (intOf s3 + 1).toNat)
  case atStart => exact ⟨_, 0, O, rfl, by omega, by omega, fun b hb => .inl hb, Kpt.refl _ _, h0⟩
  case round =>
    obtain ⟨i, k, O', rfl, hi1, hi, HA⟩ := hrel
    have cB' := HA.out.2.1.cell (p := ⟨B, 0, none⟩) hOB cB
    by_cases hi0 : 0 ≤ i
    · have hilt : xs.length - 1 - k < xs.length := by omega
      obtain ⟨j, rfl⟩ : ∃ j : Nat, i = j := ⟨i.toNat, by omega⟩
      have hjx : j = xs.length - 1 - k := by omega
      have hj : j < xs.length := by omega
      have hkx : k < (sbacks xs).length := by rw [sbacks_length]; omega
      have hY1 := hY k hkx O' wr HA.out.2.2
      rw [sbacks_at hkx hilt] at hY1
      dsimp only at hY1
      subst hjx
      obtain ⟨fn, tmps, assign, body, hy, hR⟩ := hY1
      have hrw := hrW.kpt HA.out.2.1 fun x hx _ h => hOS x hx h
      obtain ⟨b', o', rfl, _, _, y0, y1, y2⟩ := stp_at hrw _ hj
      have hjz : ((xs.length - 1 - k : Nat) : Int) < (xs.length : Int) := by omega
      generalize xs[xs.length - 1 - k] = y at y0 y1 y2 hR hy
      generalize xs.length - 1 - k = j at *
      gi_wp2
      refine ⟨rfl, hR.mono ?_⟩
      rintro e W3 ⟨O3, h3, hk3, (⟨rfl, hj3⟩ | ⟨rfl, hj3⟩)⟩
      · gi_wp2
        go_roundw
        case rel => exact ⟨(j : Int) - 1, k + 1, O3, by go_num, by omega, by omega, fun x hx => (h3 x hx).elim (HA.out.1 x) (fun h => by have := HA.out.2.1.size; exact .inr (by omega)), HA.out.2.1.trans hk3 HA.out.1, hj3⟩
        case measure => simp [intOf]
      · gi_wp2
        refine bodyPost_ret (results_none rfl _ _ _) rfl ?_
        exact ⟨⟨_, rfl⟩, O3, .inr ⟨_, hj3⟩⟩
    · gi_wp2
      refine bodyPost_end (results_none rfl _ _ _) rfl ?_
      exact ⟨⟨_, rfl⟩, O', .inl (by rw [sbacks_length]; rw [show xs.length = k by omega]; exact HA.out.2.2)⟩
end Go.Proofs.Lime
namespace Go.Proofs.Lime
open Go.RowKit
set_option linter.unusedVariables false
set_option linter.unusedSimpArgs false

theorem ints_lit (xs : List Int) {S : Nat → Prop} {W : World} {B : Nat} {e : TypeId} (hB : W.heap[B]? = some (.cells (xs.map (Value.int .i64)).toArray e (0, 0))) (hS : S B) (hl : xs.length ≤ 1000) : Row intK S W (.slice (some ⟨B, 0, none⟩) xs.length xs.length) xs := by
  refine ⟨⟨_, _, rfl, Nat.le_refl _, by omega⟩, fun j hj => ⟨B, 0, _, [.int .i64 xs[j]], rfl, hS, (Array.getElem?_eq_some_iff.1 hB).1, rfl, fun i u hi => ?_⟩⟩
  have h1 : i < 1 := (List.getElem?_eq_some_iff.1 hi).1
  obtain rfl : i = 0 := by omega
  have h2 : intK.sz = 1 := rfl
  simp only [World.cell?, hB, h2]
  simp at hi
  subst hi
  simp [hj]
theorem flat_at {α : Type} (f : α → List Value) (n : Nat) (hn : ∀ x, (f x).length = n) : ∀ (xs : List α) (j : Nat) (hj : j < xs.length) (i : Nat), i < n → (xs.flatMap f)[j * n + i]? = (f xs[j])[i]?
  | [], j, hj, _, _ => by simp at hj
  | x :: xs, 0, _, i, hi => by
    rw [List.flatMap_cons, Nat.zero_mul, Nat.zero_add, List.getElem_cons_zero, List.getElem?_append_left (by rw [hn]; exact hi)]
  | x :: xs, j + 1, hj, i, hi => by
    have h1 : (f x).length ≤ (j + 1) * n + i := by rw [hn, Nat.succ_mul]; omega
    rw [List.flatMap_cons, List.getElem?_append_right h1, hn, List.getElem_cons_succ]
    rw [show (j + 1) * n + i - n = j * n + i by rw [Nat.succ_mul]; omega]
    exact flat_at f n hn xs j (by simpa using hj) i hi
theorem attrs_lit (xs : List Attr) {S : Nat → Prop} {W : World} {B : Nat} {e : TypeId} (hB : W.heap[B]? = some (.cells (xs.flatMap Attr.cells).toArray e (0, 0))) (hS : S B) (hl : xs.length ≤ 1000) : Row attrK S W (.slice (some ⟨B, 0, none⟩) xs.length xs.length) xs := by
  refine ⟨⟨_, _, rfl, Nat.le_refl _, by omega⟩, fun j hj => ⟨B, 0, _, _, rfl, hS, (Array.getElem?_eq_some_iff.1 hB).1, rfl, fun i u hi => ?_⟩⟩
  have h1 : i < 2 := (List.getElem?_eq_some_iff.1 hi).1
  have h2 : attrK.sz = 2 := rfl
  simp only [World.cell?, hB, h2]
  have := flat_at Attr.cells 2 (fun _ => rfl) xs j hj i h1
  rw [show (xs[j].cells)[i]? = some u from hi] at this
  simpa using this
/-- A node's cells: vk, va: where its kids and attributes lie. -/
def Nd.lit (x : Nd) (vk va : Value) : List Value := [.int .i64 x.kind, .int .i64 x.tag, .int .i64 x.parent, vk, .int .i64 x.host, .int .i64 x.root, va]
theorem tree_lit (xs : List (Nd × Value × Value)) {S : Nat → Prop} {W : World} {B : Nat} {e : TypeId} (hB : W.heap[B]? = some (.cells (xs.flatMap fun p => p.1.lit p.2.1 p.2.2).toArray e (0, 0))) (hS : S B) (hl : xs.length ≤ 1000)
    (hk : ∀ p ∈ xs, Row intK S W p.2.1 p.1.kids ∧ Row attrK S W p.2.2 p.1.attrs) : Row nodeK S W (.slice (some ⟨B, 0, none⟩) xs.length xs.length) (xs.map Prod.fst) := by
  have hlen : (xs.map Prod.fst).length = xs.length := by simp
  refine ⟨⟨_, _, by rw [hlen], by omega, by omega⟩, fun j hj => ?_⟩
  have hj' : j < xs.length := by omega
  have h0 := hk _ (List.getElem_mem hj')
  refine ⟨B, 0, xs.length, _, by rw [hlen], hS, (Array.getElem?_eq_some_iff.1 hB).1, ⟨xs[j].2.1, xs[j].2.2, rfl, by simpa using h0.1, by simpa using h0.2⟩, fun i u hi => ?_⟩
  have hi' : ((xs[j].1).lit xs[j].2.1 xs[j].2.2)[i]? = some u := by simpa [Nd.lit] using hi
  have h1 : i < 7 := (List.getElem?_eq_some_iff.1 hi').1
  have h2 : nodeK.sz = 7 := rfl
  simp only [World.cell?, hB, h2]
  have := flat_at (fun p : Nd × Value × Value => p.1.lit p.2.1 p.2.2) 7 (fun _ => rfl) xs j hj' i h1
  rw [hi'] at this
  simpa using this
theorem calls_named {P : Program} {f : FuncId} {args : Array Value} {w : World} {R : Ending → World → Prop} (h : ∀ W, W = w → Calls P f args W R) : Calls P f args w R := h _ rfl
end Go.Proofs.Lime
namespace Go.Proofs.Lime
open Go.RowKit
set_option linter.unusedVariables false
set_option linter.unusedSimpArgs false

/-- A call: who hears, at which visit. -/
structure Cal where
  hear : Hear
  vis : Vis
/-- The first of some who is among those who listen still, and those behind. -/
def pick (l : List Hear) : List Hear → Option (Hear × List Hear)
  | [] => none
  | h :: t => if l.any (fun x => x.one h) = true then some (h, t) else pick l t
/-- Who is called next: visits that are left, the one under way, those taken; and what is left behind. -/
def nxt (l : List Hear) (ty : Int) (stop : Bool) : List Vis → Vis → List Hear → Option Cal × (List Vis × Vis × List Hear)
  | [], v, tk => match pick l tk with
    | some (h, t) => (some ⟨h, v⟩, [], v, t)
    | none => (none, [], v, [])
  | y :: vs, v, tk => match pick l tk with
    | some (h, t) => (some ⟨h, v⟩, y :: vs, v, t)
    | none => if stop = true then (none, y :: vs, v, []) else nxt l ty stop vs y (hearFor l y.stop.node ty y.cap)
theorem nxt_hit {l : List Hear} {ty : Int} {stop : Bool} {vs : List Vis} {v : Vis} {h : Hear} {t : List Hear} (hh : l.any (fun x => x.one h) = true) : nxt l ty stop vs v (h :: t) = (some ⟨h, v⟩, vs, v, t) := by
  cases vs <;> simp [nxt, pick, hh]
theorem nxt_miss {l : List Hear} {ty : Int} {stop : Bool} {vs : List Vis} {v : Vis} {h : Hear} {t : List Hear} (hh : l.any (fun x => x.one h) = false) : nxt l ty stop vs v (h :: t) = nxt l ty stop vs v t := by
  cases vs <;> simp [nxt, pick, hh]
theorem nxt_end (l : List Hear) (ty : Int) (stop : Bool) (v : Vis) : nxt l ty stop [] v [] = (none, [], v, []) := rfl
theorem nxt_stop (l : List Hear) (ty : Int) (vs : List Vis) (v : Vis) : nxt l ty true vs v [] = (none, vs, v, []) := by
  cases vs <;> simp [nxt, pick]
theorem nxt_go (l : List Hear) (ty : Int) (y : Vis) (vs : List Vis) (v : Vis) : nxt l ty false (y :: vs) v [] = nxt l ty false vs y (hearFor l y.stop.node ty y.cap) := by
  simp [nxt, pick]
/-- How much is left. -/
def left (N : Nat) (vs : List Vis) (tk : List Hear) : Nat := vs.length * (N + 1) + tk.length
theorem pick_len {l : List Hear} : ∀ {tk : List Hear} {h : Hear} {t : List Hear}, pick l tk = some (h, t) → t.length < tk.length
  | [], _, _, e => by simp [pick] at e
  | x :: tk, h, t, e => by
    unfold pick at e
    split at e
    · simp only [Option.some.injEq, Prod.mk.injEq] at e
      obtain ⟨_, rfl⟩ := e
      simp
    · have := pick_len e
      simp; omega
theorem for_len (l : List Hear) (n ty : Int) (c : Bool) : (hearFor l n ty c).length ≤ l.length := List.length_filter_le _ _
/-- With each call less is left. -/
theorem nxt_less (l : List Hear) (ty : Int) (stop : Bool) (N : Nat) (hN : l.length ≤ N) : ∀ (vs : List Vis) (v : Vis) (tk : List Hear), tk.length ≤ N → ∀ c r, nxt l ty stop vs v tk = (some c, r) → left N r.1 r.2.2 < left N vs tk ∧ r.2.2.length ≤ N := by
  intro vs
  induction vs with
  | nil =>
    intro v tk htk c r h
    unfold nxt at h
    cases hp : pick l tk with
    | none => rw [hp] at h; simp at h
    | some q =>
      obtain ⟨x, t⟩ := q
      rw [hp] at h
      simp only [Prod.mk.injEq] at h
      obtain ⟨_, rfl⟩ := h
      have := pick_len hp
      exact ⟨by simp [left]; omega, by show t.length ≤ N; omega⟩
  | cons y vs ih =>
    intro v tk htk c r h
    unfold nxt at h
    cases hp : pick l tk with
    | none =>
      rw [hp] at h
      simp only at h
      split at h
      · simp at h
      · have h1 := for_len l y.stop.node ty y.cap
        obtain ⟨h2, h3⟩ := ih y _ (by omega) c r h
        refine ⟨?_, h3⟩
        simp only [left, List.length_cons, Nat.succ_mul] at h2 ⊢
        omega
    | some q =>
      obtain ⟨x, t⟩ := q
      rw [hp] at h
      simp only [Prod.mk.injEq] at h
      obtain ⟨_, rfl⟩ := h
      have := pick_len hp
      exact ⟨by simp [left]; omega, by show t.length ≤ N; omega⟩
/-- All calls, at most f. -/
def allIn (ty : Int) : Nat → List Hear → List Vis → Vis → List Hear → List Cal
  | 0, _, _, _, _ => []
  | f + 1, l, vs, v, tk => match nxt l ty false vs v tk with
    | (some c, vs', v', tk') => c :: allIn ty f (if c.hear.once = true then hearDrop l c.hear else l) vs' v' tk'
    | (none, _) => []
end Go.Proofs.Lime
namespace Go.Proofs.Lime
open Go.RowKit
set_option linter.unusedVariables false
set_option linter.unusedSimpArgs false

theorem pick_sub {l : List Hear} : ∀ {tk : List Hear} {h : Hear} {t : List Hear}, pick l tk = some (h, t) → (h :: t).Sublist tk
  | [], _, _, e => by simp [pick] at e
  | x :: tk, h, t, e => by
    unfold pick at e
    split at e
    · simp only [Option.some.injEq, Prod.mk.injEq] at e
      obtain ⟨rfl, rfl⟩ := e
      exact List.Sublist.refl _
    · exact (pick_sub e).cons _
/-- All that might be called. -/
def fullC (l : List Hear) (ty : Int) (vs : List Vis) : List Cal := vs.flatMap fun y => (hearFor l y.stop.node ty y.cap).map fun h => ⟨h, y⟩
theorem for_sub {l l0 : List Hear} (h : l.Sublist l0) (n ty : Int) (c : Bool) : (hearFor l n ty c).Sublist (hearFor l0 n ty c) := h.filter _
theorem nxt_sub {l l0 : List Hear} (hl : l.Sublist l0) (ty : Int) (stop : Bool) : ∀ (vs : List Vis) (v : Vis) (tk : List Hear) (c : Cal) (vs' : List Vis) (v' : Vis) (tk' : List Hear), nxt l ty stop vs v tk = (some c, vs', v', tk') →
    (c :: (tk'.map (fun h => (⟨h, v'⟩ : Cal)) ++ fullC l0 ty vs')).Sublist (tk.map (fun h => (⟨h, v⟩ : Cal)) ++ fullC l0 ty vs) := by
  intro vs
  induction vs with
  | nil =>
    intro v tk c vs' v' tk' h
    unfold nxt at h
    cases hp : pick l tk with
    | none => rw [hp] at h; simp at h
    | some q =>
      obtain ⟨x, t⟩ := q
      rw [hp] at h
      simp only [Prod.mk.injEq, Option.some.injEq] at h
      obtain ⟨rfl, rfl, rfl, rfl⟩ := h
      have := (pick_sub hp).map (fun h => (⟨h, v⟩ : Cal))
      rw [List.map_cons] at this
      rw [← List.cons_append]
      exact this.append_right _
  | cons y vs ih =>
    intro v tk c vs' v' tk' h
    unfold nxt at h
    cases hp : pick l tk with
    | none =>
      rw [hp] at h
      simp only at h
      split at h
      · simp at h
      · have h1 := ih y _ c vs' v' tk' h
        refine h1.trans ?_
        have e1 : fullC l0 ty (y :: vs) = (hearFor l0 y.stop.node ty y.cap).map (fun h => (⟨h, y⟩ : Cal)) ++ fullC l0 ty vs := by simp [fullC]
        rw [e1]
        exact (((for_sub hl _ _ _).map _).append_right _).trans (List.sublist_append_right _ _)
    | some q =>
      obtain ⟨x, t⟩ := q
      rw [hp] at h
      simp only [Prod.mk.injEq, Option.some.injEq] at h
      obtain ⟨rfl, rfl, rfl, rfl⟩ := h
      have := (pick_sub hp).map (fun h => (⟨h, v⟩ : Cal))
      rw [List.map_cons] at this
      rw [← List.cons_append]
      exact this.append_right _
theorem drop_sub (l : List Hear) (h : Hear) : (hearDrop l h).Sublist l := by
  unfold hearDrop
  split
  · exact List.eraseIdx_sublist _ _
  · exact List.Sublist.refl _
theorem fire_sub (ty : Int) (l0 : List Hear) : ∀ (f : Nat) (l : List Hear) (vs : List Vis) (v : Vis) (tk : List Hear), l.Sublist l0 → (allIn ty f l vs v tk).Sublist (tk.map (fun h => (⟨h, v⟩ : Cal)) ++ fullC l0 ty vs) := by
  intro f
  induction f with
  | zero => intro l vs v tk _; exact List.nil_sublist _
  | succ f ih =>
    intro l vs v tk hl
    unfold allIn
    split
    · rename_i c vs' v' tk' h
      have h1 := nxt_sub hl ty false vs v tk c vs' v' tk' h
      refine List.Sublist.trans ?_ h1
      refine List.Sublist.cons_cons _ (ih _ _ _ _ ?_)
      split
      · exact (drop_sub l _).trans hl
      · exact hl
    · exact List.nil_sublist _
/-- More rounds tell no more. -/
theorem fire_more (ty : Int) (N : Nat) : ∀ (f g : Nat) (l : List Hear) (vs : List Vis) (v : Vis) (tk : List Hear), l.length ≤ N → tk.length ≤ N → left N vs tk < f → left N vs tk < g → allIn ty f l vs v tk = allIn ty g l vs v tk := by
  intro f
  induction f with
  | zero => intro g l vs v tk _ _ h; omega
  | succ f ih =>
    intro g l vs v tk hl ht hf hg
    cases g with
    | zero => omega
    | succ g =>
      unfold allIn
      split
      · rename_i c vs' v' tk' h
        obtain ⟨h1, h2⟩ := nxt_less l ty false N hl vs v tk ht c (vs', v', tk') h
        have hd := (drop_sub l c.hear).length_le
        have h1' : left N vs' tk' < left N vs tk := h1
        have h2' : tk'.length ≤ N := h2
        rw [ih g _ vs' v' tk' (by split <;> omega) h2' (by omega) (by omega)]
      · rfl
/-- Where nobody hears Once, all calls are the next one, and all behind it. -/
theorem fire_step (ty : Int) (N f : Nat) (l : List Hear) (vs : List Vis) (v : Vis) (tk : List Hear) (hl : l.length ≤ N) (ht : tk.length ≤ N) (hf : left N vs tk < f) :
    allIn ty f l vs v tk = match nxt l ty false vs v tk with
      | (some c, vs', v', tk') => c :: allIn ty f (if c.hear.once = true then hearDrop l c.hear else l) vs' v' tk'
      | (none, _) => [] := by
  cases f with
  | zero => omega
  | succ f =>
    conv => lhs; unfold allIn
    split
    · rename_i c vs' v' tk' h
      obtain ⟨h1, h2⟩ := nxt_less l ty false N hl vs v tk ht c (vs', v', tk') h
      have hd := (drop_sub l c.hear).length_le
      have h1' : left N vs' tk' < left N vs tk := h1
      have h2' : tk'.length ≤ N := h2
      rw [fire_more ty N f (f + 1) _ vs' v' tk' (by split <;> omega) h2' (by omega) (by omega)]
    · rfl
/-- What is told of two calls, one ahead of the other. -/
def Cal.ahead (l : List Hear) (c d : Cal) : Prop := c.hear ≠ d.hear ∧ (c.vis = d.vis → ∃ i j : Nat, i < j ∧ l[i]? = some c.hear ∧ l[j]? = some d.hear)
theorem full_mem {l : List Hear} {ty : Int} {vs : List Vis} {c : Cal} (h : c ∈ fullC l ty vs) : c.hear ∈ l ∧ c.hear.type = ty ∧ c.hear.node = c.vis.stop.node ∧ c.hear.cap = c.vis.cap ∧ c.vis ∈ vs := by
  obtain ⟨y, hy, hc⟩ := List.mem_flatMap.1 h
  obtain ⟨x, hx, rfl⟩ := List.mem_map.1 hc
  obtain ⟨h1, h2⟩ := List.mem_filter.1 hx
  simp only [Bool.and_eq_true, beq_iff_eq] at h2
  exact ⟨h1, h2.2.1, h2.1, h2.2.2, hy⟩
theorem sub_places {l k : List Hear} (h : k.Sublist l) : k.Pairwise fun a b => ∃ i j : Nat, i < j ∧ l[i]? = some a ∧ l[j]? = some b := by
  induction h with
  | slnil => exact List.Pairwise.nil
  | @cons k l x h ih => exact ih.imp fun {a b} ⟨i, j, h1, h2, h3⟩ => ⟨i + 1, j + 1, by omega, by simpa using h2, by simpa using h3⟩
  | @cons_cons k l x h ih =>
    refine List.Pairwise.cons (fun b hb => ?_) (ih.imp fun {a b} ⟨i, j, h1, h2, h3⟩ => ⟨i + 1, j + 1, by omega, by simpa using h2, by simpa using h3⟩)
    obtain ⟨j, hj, e⟩ := List.getElem_of_mem (h.subset hb)
    exact ⟨0, j + 1, by omega, rfl, by simp [List.getElem?_eq_getElem hj, e]⟩
theorem full_ahead {l : List Hear} (hl : l.Nodup) (ty : Int) : ∀ {vs : List Vis}, vs.Pairwise (fun a b => ¬ (a.stop.node = b.stop.node ∧ a.cap = b.cap)) → (fullC l ty vs).Pairwise (Cal.ahead l) := by
  intro vs
  induction vs with
  | nil => intro _; exact List.Pairwise.nil
  | cons y vs ih =>
    intro h
    obtain ⟨h1, h2⟩ := List.pairwise_cons.1 h
    have e1 : fullC l ty (y :: vs) = (hearFor l y.stop.node ty y.cap).map (fun h => (⟨h, y⟩ : Cal)) ++ fullC l ty vs := by simp [fullC]
    rw [e1, List.pairwise_append]
    refine ⟨?_, ih h2, fun c hc d hd => ?_⟩
    · rw [List.pairwise_map]
      have hs : (hearFor l y.stop.node ty y.cap).Sublist l := List.filter_sublist
      have hn : (hearFor l y.stop.node ty y.cap).Nodup := hs.nodup hl
      exact (hn.and (sub_places hs)).imp fun ⟨g1, g2⟩ => ⟨g1, fun _ => g2⟩
    · obtain ⟨x, hx, rfl⟩ := List.mem_map.1 hc
      obtain ⟨g1, g2⟩ := List.mem_filter.1 hx
      simp only [Bool.and_eq_true, beq_iff_eq] at g2
      obtain ⟨_, _, d3, d4, d5⟩ := full_mem hd
      have hne := h1 d.vis d5
      refine ⟨fun e => hne ⟨?_, ?_⟩, fun e => absurd ⟨by rw [← e], by rw [← e]⟩ hne⟩
      · have e' : x = d.hear := e
        rw [← g2.1, e', d3]
      · have e' : x = d.hear := e
        rw [← g2.2.2, e', d4]
theorem vis_apart {p : List Stp3} (hp : (p.map Stp3.node).Nodup) (bub : Bool) : (visL p bub).Pairwise fun a b => ¬ (a.stop.node = b.stop.node ∧ a.cap = b.cap) := by
  unfold visL
  have hp' : p.Pairwise fun a b => a.node ≠ b.node := by
    have := hp
    unfold List.Nodup at this
    rwa [List.pairwise_map] at this
  rw [List.pairwise_append]
  refine ⟨?_, ?_, fun a ha b hb h => ?_⟩
  · rw [List.pairwise_map, List.pairwise_reverse]
    exact hp'.imp fun {a b} h e => h e.1.symm
  · refine List.Pairwise.filter _ ?_
    rw [List.pairwise_map]
    exact hp'.imp fun {a b} h e => h e.1
  · obtain ⟨s, _, rfl⟩ := List.mem_map.1 ha
    obtain ⟨q, _, rfl⟩ := List.mem_map.1 (List.mem_filter.1 hb).1
    simp [visOf] at h
/-- All calls come visit by visit, and as the listeners stand; each is of one that listens there. -/
theorem fire_ahead {l : List Hear} (hl : l.Nodup) (ty : Int) {p : List Stp3} (hp : (p.map Stp3.node).Nodup) (bub : Bool) (f : Nat) (v : Vis) :
    (allIn ty f l (visL p bub) v []).Pairwise (Cal.ahead l) ∧ ∀ c ∈ allIn ty f l (visL p bub) v [], c.hear ∈ l ∧ c.hear.type = ty ∧ c.hear.node = c.vis.stop.node ∧ c.hear.cap = c.vis.cap := by
  have h := fire_sub ty l f l (visL p bub) v [] (List.Sublist.refl _)
  rw [List.map_nil, List.nil_append] at h
  refine ⟨(full_ahead hl ty (vis_apart hp bub)).sublist h, fun c hc => ?_⟩
  obtain ⟨h1, h2, h3, h4, _⟩ := full_mem (h.subset hc)
  exact ⟨h1, h2, h3, h4⟩
end Go.Proofs.Lime
