/- A listener taken out of a row of the call's own, in place. Conditions: the index lies in the row. -/
import Derived.Test.YtkmmdjfacdkiiaaL8c
namespace Go.Proofs.Lime
open Go.RowKit
set_option linter.unusedVariables false
set_option linter.unusedSimpArgs false

theorem blk_set {w : World} {g : Nat} {t : TypeId} {cs : Array Value} (h : w.heap[g]? = some (.cells cs t (0, 0))) (i : Nat) (u : Value) : (w.setCell ⟨g, i, none⟩ u).heap[g]? = some (.cells (cs.setIfInBounds i u) t (0, 0)) := by
  simp [World.setCell, Array.getElem?_modify, h]
theorem setCells_far {g : Nat} : ∀ (vs : List Value) (o : Nat) {w : World} (k : Nat), k ≠ g → (w.setCells g o vs).heap[k]? = w.heap[k]?
  | [], _, _, _, _ => rfl
  | v :: r, o, w, k, hk => by
    rw [World.setCells, setCells_far r (o + 1) k hk]
    exact Below.heap_setCell w ⟨g, o, none⟩ v k hk
theorem setCells_same (g : Nat) : ∀ (vs : List Value) (o : Nat) (w : World), (w.setCells g o vs).os = w.os ∧ (w.setCells g o vs).tape = w.tape ∧ (w.setCells g o vs).output = w.output ∧ (w.setCells g o vs).heap.size = w.heap.size
  | [], _, _ => ⟨rfl, rfl, rfl, rfl⟩
  | v :: r, o, w => by
    obtain ⟨h1, h2, h3, h4⟩ := setCells_same g r (o + 1) (w.setCell ⟨g, o, none⟩ v)
    rw [World.setCells]
    exact ⟨h1, h2, h3, by rw [h4]; simp [World.setCell]⟩
theorem setCells_row {g : Nat} {e : TypeId} : ∀ (vs : List Value) (o : Nat) (w : World) (cur : Array Value), w.heap[g]? = some (.cells cur e (0, 0)) → o + vs.length ≤ cur.size →
    ∃ cur', (w.setCells g o vs).heap[g]? = some (.cells cur' e (0, 0)) ∧ cur'.size = cur.size ∧ cur'.toList = cur.toList.take o ++ vs ++ cur.toList.drop (o + vs.length)
  | [], o, w, cur, h, _ => ⟨cur, h, rfl, by simp⟩
  | v :: r, o, w, cur, h, hl => by
    have h2 := blk_set h o v
    simp only [List.length_cons] at hl
    obtain ⟨cur', h3, h4, h5⟩ := setCells_row r (o + 1) (w.setCell ⟨g, o, none⟩ v) _ h2 (by simp; omega)
    refine ⟨cur', h3, by rw [h4]; simp, ?_⟩
    rw [h5, Array.toList_setIfInBounds]
    have ho : o < cur.toList.length := by rw [Array.length_toList]; omega
    rw [List.take_set, List.drop_set_of_lt (by omega)]
    simp only [List.length_cons]
    rw [show o + 1 + r.length = o + (r.length + 1) by omega]
    congr 1
    rw [List.take_succ_eq_append_getElem ho, List.set_append_right _ _ (by rw [List.length_take]; omega)]
    have ho' : o < cur.size := by omega
    simp [Nat.min_eq_left (Nat.le_of_lt ho')]
theorem setCells_grown (g o : Nat) (vs : List Value) (w : World) : w.grownBy (w.setCells g o vs) (some g) :=
  have h := setCells_same g vs o w
  ⟨h.1, h.2.1, h.2.2.1, by rw [h.2.2.2]; exact Nat.le_refl _, fun k _ hk => setCells_far vs o k (fun e => hk (by rw [e]))⟩

/-- The cells of listeners, one behind the other. -/
def flatHear (xs : List Hear) : List Value := xs.flatMap Hear.cells
theorem flatHear_length (xs : List Hear) : (flatHear xs).length = xs.length * 5 := by
  induction xs with
  | nil => rfl
  | cons x xs ih => simp only [flatHear, List.flatMap_cons, List.length_append, List.length_cons] at ih ⊢; rw [ih]; simp [Hear.cells]; omega
theorem flatHear_get (xs : List Hear) : ∀ j (hj : j < xs.length) i, i < 5 → (flatHear xs)[j * 5 + i]? = (xs[j].cells)[i]? := by
  induction xs with
  | nil => intro j hj; simp at hj
  | cons x xs ih =>
    intro j hj i hi
    cases j with
    | zero => simp only [flatHear, List.flatMap_cons, Nat.zero_mul, Nat.zero_add, List.getElem_cons_zero]; rw [List.getElem?_append_left (by simp [Hear.cells]; omega)]
    | succ j =>
      simp only [flatHear, List.flatMap_cons]
      rw [List.getElem?_append_right (by simp [Hear.cells]; omega)]
      have := ih j (by simpa using hj) i hi
      rw [show (j + 1) * 5 + i - x.cells.length = j * 5 + i by simp [Hear.cells]; omega]
      simpa [flatHear] using this
theorem flatHear_take (xs : List Hear) (i : Nat) : flatHear (xs.take i) = (flatHear xs).take (i * 5) := by
  induction xs generalizing i with
  | nil => simp [flatHear]
  | cons x xs ih =>
    cases i with
    | zero => simp [flatHear]
    | succ i =>
      simp only [List.take_succ_cons, flatHear, List.flatMap_cons] at ih ⊢
      rw [ih, List.take_append, show (i + 1) * 5 - x.cells.length = i * 5 by simp [Hear.cells]; omega, List.take_of_length_le (l := x.cells) (by simp [Hear.cells]; omega)]
theorem flatHear_drop (xs : List Hear) (i : Nat) : flatHear (xs.drop i) = (flatHear xs).drop (i * 5) := by
  induction xs generalizing i with
  | nil => simp [flatHear]
  | cons x xs ih =>
    cases i with
    | zero => simp [flatHear]
    | succ i =>
      simp only [List.drop_succ_cons, flatHear, List.flatMap_cons] at ih ⊢
      rw [ih, List.drop_append, show (i + 1) * 5 - x.cells.length = i * 5 by simp [Hear.cells]; omega, List.drop_eq_nil_of_le (show x.cells.length ≤ (i + 1) * 5 by simp [Hear.cells]; omega), List.nil_append]

theorem own_flat {e : TypeId} {S : Nat → Prop} {w : World} {v : Value} {xs : List Hear} (h : Own hearK e S w v xs) : w.ownsRow 0 e 5 v xs.length (flatHear xs) := by
  obtain ⟨hb, inner, ho, he⟩ := h
  have : inner = flatHear xs := by
    apply List.ext_getElem?
    intro k
    have hil : inner.length = xs.length * 5 := ho.1
    by_cases hk : k < xs.length * 5
    · obtain ⟨cs, hK, hc⟩ := he (k / 5) (by omega)
      have hK' : cs = Hear.cells xs[k / 5] := hK
      subst hK'
      have h1 : k % 5 < (xs[k / 5].cells).length := by simp [Hear.cells]; omega
      have h2 := hc (k % 5) _ (List.getElem?_eq_getElem h1)
      have h3 := flatHear_get xs (k / 5) (by omega) (k % 5) (by omega)
      have e1 : k / 5 * hearK.sz + k % 5 = k := by show k / 5 * 5 + k % 5 = k; omega
      have e2 : k / 5 * 5 + k % 5 = k := by omega
      rw [e1] at h2
      rw [e2] at h3
      rw [h2, h3, List.getElem?_eq_getElem h1]
    · rw [List.getElem?_eq_none (by omega), List.getElem?_eq_none (by rw [flatHear_length]; omega)]
  rw [← this]
  exact ho
theorem own_of_flat {e : TypeId} {S : Nat → Prop} {w : World} {v : Value} {xs : List Hear} (h : w.ownsRow 0 e 5 v xs.length (flatHear xs)) (hS : ∀ k, v.ownBlock = some k → S k) : Own hearK e S w v xs :=
  ⟨hS, flatHear xs, h, fun j hj => ⟨_, rfl, fun i u hi => by
    have h1 : i < 5 := (List.getElem?_eq_some_iff.1 hi).1
    exact (flatHear_get xs j hj i h1).trans hi⟩⟩

/-- Listeners written out, in a block. -/
theorem hear_lit (xs : List Hear) {T : Nat → Prop} {W : World} {B : Nat} {e : TypeId} (hB : W.heap[B]? = some (.cells (flatHear xs).toArray e (0, 0))) (hT : T B) (hl : xs.length ≤ 9223372036854775807) : Row hearK T W (.slice (some ⟨B, 0, none⟩) xs.length xs.length) xs :=
  ⟨⟨_, _, rfl, Nat.le_refl _, hl⟩, fun j hj => ⟨B, 0, _, _, rfl, hT, (Array.getElem?_eq_some_iff.1 hB).1, rfl, fun i u hi => by
    have h1 : i < 5 := (List.getElem?_eq_some_iff.1 hi).1
    simp only [World.cell?, hB]
    have := flatHear_get xs j hj i h1
    rw [hi] at this
    simpa [hearK, Kd.flat] using this⟩⟩
/-- clear of a slice in memory. -/
theorem run_clear_some {P : Program} {t ty e : TypeId} (ht : P.underlying t = some (.slice e)) {z : Value} {W : World} (hz : ∀ w, (zeroValue e).run P w = .ok z w) (b o n c : Nat) (hn : 0 < n) (zs : List Value) (hzs : (Builtin.zeroCells z.cells n).toList = zs)
    (hc : ∀ j, j < zs.length → (W.cell? ⟨b, o + j, none⟩).isSome = true) (hf : ∀ j, j < zs.length → W.frozen? ⟨b, o + j, none⟩ = false) (h1 : ∀ v ∈ zs, v.oneCell' = true) :
    (Builtin.clear_ #[t] ty #[.slice (some ⟨b, o, none⟩) n c]).run P W = .ok (.tuple #[]) (W.setCells b o zs) := by
  have hst := run_storeCells_cells (P := P) b o zs 0 W (by simpa using hc) (by simpa using hf) h1
  simp only [Nat.add_zero] at hst
  obtain ⟨m, rfl⟩ : ∃ m, n = m + 1 := ⟨n - 1, by omega⟩
  simp [Builtin.clear_, run_underlying ht, hz, hzs, hst]

theorem wpl_clear {P : Program} {ops : Array Oper} {rest : List Oper} {o : Oper} {a : Act} {Q : Exit → Act → World → Prop} {W w2 : World} (hgd : o.guard = none) (x : Operand) (t : TypeId)
    (ho : o.op = .call { callee := .builtin .clear, args := #[x], argTypes := #[t] }) (v : Value) (hx : a.eval x = v) (hr : (Builtin.clear_ #[t] o.type #[v]).run P W = .ok (.tuple #[]) w2)
    (h : wpList P ops Q rest (a.put o.dst (.tuple #[])) w2) : wpList P ops Q (o :: rest) a W := by
  refine wpList_plain hgd fun K hK => ?_
  unfold Oper.wp execOp
  simp only [ho, resolve, invoke, builtin, Sem.run_bind, Sem.run_pure, Result.andThen_ok, List.map_toArray, List.map_cons, List.map_nil, hx, hr]
  exact hK _ _ h

set_option maxHeartbeats 2000000 in
theorem delete_c {S : Nat → Prop} {w : World} {v : Value} {xs : List Hear} (ho : Own hearK 24 S w v xs) (i : Nat) (hi : i < xs.length) :
    Calls Try.prog 23 #[v, .int .i64 i, .int .i64 ((i : Int) + 1)] w fun e w' => ∃ v', e = .returned v' ∧ Own hearK 24 S w' v' (xs.eraseIdx i) ∧ w.grownBy w' v.ownBlock := by
  have hof := own_flat ho
  have hS := ho.blk
  clear ho
  obtain ⟨hfl, hv⟩ := hof
  rcases hv with ⟨_, h0⟩ | ⟨g, cap, cur, rfl, _, hg, hnc, hcm, hcs, htake⟩
  · omega
  simp only [maxLen] at hcm
  obtain ⟨i0, hi0, hzz⟩ := Option.map_eq_some_iff.1 infoHear
  simp only [Prod.mk.injEq] at hzz
  obtain ⟨hz0, hz1, hz2⟩ := hzz
  clear hz0 hz2
  have hn := flatHear_length xs
  -- what is moved
  obtain ⟨mv, hmv⟩ : ∃ mv, mv = flatHear (xs.drop (i + 1)) := ⟨_, rfl⟩
  have hml : mv.length = (xs.length - (i + 1)) * 5 := by rw [hmv, flatHear_length, List.length_drop]
  have hm5 : ∀ u ∈ mv, u.oneCell' = true := by
    rw [hmv]
    intro u hu
    obtain ⟨x, _, hx⟩ := List.mem_flatMap.1 hu
    exact hearK.one (S := Any) (w := w) (x := x) rfl u hx
  have hcell : ∀ k u, (flatHear xs)[k]? = some u → w.cell? ⟨g, k, none⟩ = some u := fun k u hu => by
    rw [← htake, List.getElem?_take] at hu
    split at hu
    · simp only [World.cell?, hg]; simpa using hu
    · cases hu
  obtain ⟨A, hA, hnews⟩ : ∃ A : Addr, (if cap = i + 1 then some (⟨g, 0, none⟩ : Addr) else some ⟨g, (i + 1) * 5, none⟩) = some A ∧ ∀ j u, mv[j]? = some u → w.drew.cell? (A.add j) = some u := by
    by_cases h : cap = i + 1
    · refine ⟨⟨g, 0, none⟩, by simp [h], fun j u hu => ?_⟩
      have := (List.getElem?_eq_some_iff.1 hu).1
      rw [hml] at this
      omega
    · refine ⟨⟨g, (i + 1) * 5, none⟩, by simp [h], fun j u hu => ?_⟩
      rw [Addr.add_lit]
      refine hcell _ _ ?_
      rw [← hu, hmv, flatHear_drop, List.getElem?_drop]
  have hthere : ∀ k, k < cap * 5 → (w.cell? ⟨g, k, none⟩).isSome = true ∧ w.frozen? ⟨g, k, none⟩ = false := fun k hk => by
    refine ⟨?_, by simp [World.frozen?, hg]⟩
    simp only [World.cell?, hg]
    rw [← hcs] at hk
    simp [hk]
  obtain ⟨cur1, hg1, hs1, hl1⟩ := setCells_row (e := 24) mv (i * 5) w.drew cur hg (by rw [hml]; omega)
  obtain ⟨w1, hw1⟩ : ∃ w1, w.drew.setCells g (i * 5) mv = w1 := ⟨_, rfl⟩
  rw [hw1] at hg1
  have hgr1 : w.grownBy w1 (some g) := by
    have := setCells_grown g (i * 5) mv w.drew
    rw [hw1] at this
    exact ⟨this.os, this.tape, this.output, this.size, this.block⟩
  have hw1' := Lib.hid hw1
  obtain ⟨zs, hzs⟩ : ∃ zs, (Builtin.zeroCells (Value.agg #[.int .i64 0, .int .i64 0, .bool false, .bool false, .int .i64 0]).cells 1).toList = zs := ⟨_, rfl⟩
  have hzs5 : (Builtin.zeroCells (Value.agg #[.int .i64 0, .int .i64 0, .bool false, .bool false, .int .i64 0]).cells 1).toList = (⟨0, 0, false, false, 0⟩ : Hear).cells := by kernel_rfl
  have hzl : zs.length = 5 := by rw [← hzs, hzs5]; rfl
  have hz5 : ∀ u ∈ zs, u.oneCell' = true := by rw [← hzs, hzs5]; exact hearK.one (S := Any) (w := w) (x := ⟨0, 0, false, false, 0⟩) rfl
  obtain ⟨cur2, hg2, hs2, hl2⟩ := setCells_row (e := 24) zs ((xs.length - 1) * 5) w1 cur1 hg1 (by rw [hzl, hs1, hcs]; omega)
  have hgr2 := setCells_grown g ((xs.length - 1) * 5) zs w1
  have hthere1 : ∀ k, k < cap * 5 → (w1.cell? ⟨g, k, none⟩).isSome = true ∧ w1.frozen? ⟨g, k, none⟩ = false := fun k hk => by
    refine ⟨?_, by simp [World.frozen?, hg1]⟩
    simp only [World.cell?, hg1]
    rw [← hcs, ← hs1] at hk
    simp [hk]
  have hclear := run_clear_some (P := Try.prog) (t := 22) (ty := 0) Try.underlying22 (W := w1) Try.zeroValue24 g ((xs.length - 1) * 5) 1 (cap - (xs.length - 1)) (by omega) zs hzs (fun j hj => (hthere1 _ (by omega)).1) (fun j hj => (hthere1 _ (by omega)).2) hz5
  have hend : (w1.setCells g ((xs.length - 1) * 5) zs).ownsRow 0 24 5 (.slice (some ⟨g, 0, none⟩) (xs.length - 1) cap) (xs.eraseIdx i).length (flatHear (xs.eraseIdx i)) := by
    have he : (xs.eraseIdx i).length = xs.length - 1 := List.length_eraseIdx_of_lt hi
    refine ⟨by rw [flatHear_length], .inr ⟨g, cap, cur2, by rw [he], Nat.zero_le _, hg2, by omega, by simp only [maxLen]; omega, by rw [hs2, hs1, hcs], ?_⟩⟩
    rw [he, hl2, List.append_assoc, List.take_append_of_le_length (by rw [List.length_take, show cur1.toList.length = cur1.size from Array.length_toList, hs1, hcs]; omega), List.take_take, Nat.min_self, hl1]
    have e1 : (cur.toList.take (i * 5)).length = i * 5 := by rw [List.length_take, show cur.toList.length = cur.size from Array.length_toList, hcs]; omega
    rw [List.take_append_of_le_length (by rw [List.length_append, e1, hml]; omega), List.take_of_length_le (by rw [List.length_append, e1, hml]; omega)]
    have e2 : xs.eraseIdx i = xs.take i ++ xs.drop (i + 1) := List.eraseIdx_eq_take_drop_succ ..
    rw [e2]
    simp only [flatHear, List.flatMap_append] at hmv htake ⊢
    rw [hmv]
    congr 1
    have := flatHear_take xs i
    simp only [flatHear] at this
    rw [this, ← htake, List.take_take, Nat.min_eq_left (by omega)]
  have hgr : w.grownBy (w1.setCells g ((xs.length - 1) * 5) zs) (some g) := hgr1.trans hgr2
  obtain ⟨w2, hw2⟩ : ∃ w2, w1.setCells g ((xs.length - 1) * 5) zs = w2 := ⟨_, rfl⟩
  rw [hw2] at hclear hend hgr
  have s1 := Lib.hid hml
  have s2 := Lib.hid hm5
  have s3 : Hid (∀ j, j < mv.length → (w.drew.cell? ⟨g, 0 + i * 5 + j, none⟩).isSome = true ∧ w.drew.frozen? ⟨g, 0 + i * 5 + j, none⟩ = false) := fun j hj => by
    rw [hml] at hj
    rw [Nat.zero_add]
    exact hthere _ (by omega)
  have s4 := Lib.hid hnews
  have s5 := Lib.hid hi0
  have s6 := Lib.hid hend
  have s7 := Lib.hid hclear
  clear hml hm5 hnews hi0 hend hclear hw1 hw2 hthere hthere1 hcell hg hg1 hg2 hl1 hl2 hs1 hs2 htake hfl hn hzs hzl hz5 hgr1 hgr2 hmv hcs
  have hA' := hA
  have h1 : (i : Int) + 1 ≤ (xs.length : Int) := by omega
  have h2 : (xs.length : Int) ≤ (cap : Int) := by omega
  have h3 : (0 : Int) ≤ (i : Int) := by omega
  have h4 : (i : Int) ≤ (cap : Int) := by omega
  have h5 : (0 : Int) ≤ (i : Int) + 1 := by omega
  have h6 : (i : Int) + 1 ≤ (cap : Int) := by omega
  have h7 : ((i : Int) + 1).toNat = i + 1 := by omega
  have h8 : ((i : Int) == (i : Int) + 1) = false := by simp; omega
  have h9 : ((xs.length - 1 : Nat) : Int) ≤ (xs.length : Int) := by omega
  have h10 : xs.length - (xs.length - 1) = 1 := by omega
  go_enter Try.func23, Try.ntmps23
  go_wp2
  go_region_law (refine step_append_room rfl (.tmp 22) (.tmp 25) 22 rfl 24 i0 5 Try.underlying22 s5.out hz1 g 0 i cap (by simp [Act.eval, Act.put]) A (xs.length - (i + 1)) (cap - (i + 1)) mv (by simp [Act.eval, Act.put]) s1.out s4.out s2.out (by omega) s3.out ?_)
  rw [show i + (xs.length - (i + 1)) = xs.length - 1 by omega]
  (try rw [Nat.zero_add])
  rw [hw1'.out]
  have hcl := s7.out
  go_wp2
  go_ret
  exact ⟨_, rfl, own_of_flat (by have := s6.out; rwa [List.length_eraseIdx_of_lt hi] at this ⊢) hS, hgr⟩
end Go.Proofs.Lime
