/- Walks: shadows: hosts, ways up through hosts, what is told of a node to another one. Cells written one behind the other; clear. No conditions. Walks: lists of numbers copied; those taken out, in place, of which something holds. A range over an iterator that lays blocks of its own between two rounds: the blocks that the loop's body turns are told by those that are there. No conditions. Walk: what an iterator over numbers hands over that lays blocks of its own, collected in a list. Regions that draw their order, within a round of a range over an iterator: by a plan. No conditions. -/
import Derived.Test.YtfdhfnjdafaogaaMD
import Derived.Test.YtfdhfnjdafaogaaMP
import Derived.Test.YtfdhfnjdafaogaaMA
import Derived.ScopeJumps
import Derived.WalkMore
namespace Go.Proofs.Lime
open Go.RowKit
set_option linter.unusedVariables false
set_option linter.unusedSimpArgs false

theorem topR_none {t : List Nd} {n : Int} (h : ¬ (mayT t = true ∧ isN t n = true)) : topR t n = -1 := if_neg h
theorem host_r {S : Nat → Prop} {w : World} {v : Value} {t : List Nd} (hr : Row nodeK S w v t) (hks : KidsOk t) (n : Int) :
    Calls Try.prog 55 #[v, .int .i64 n] w fun e w' => e = .returned (.int .i64 (hostR t n)) ∧ Stp w w' := by
  obtain ⟨A, c, rfl, hc, hm⟩ := hr.form
  have ct := fun W (hW : Stp w W) => otop_r (hr.stp hW) hks n
  by_cases ho : mayT t = true ∧ isN t n = true
  · have M := May.of ho.1
    have HR := Lib.hid (show hostR t n = (nd t (topT t n)).host from if_pos ho)
    rw [show topR t n = topT t n from if_pos ho] at ct
    obtain ⟨k, hk, hkt⟩ := isN_nat (M.topT_isN ho.2)
    rw [hk] at ct
    have HR2 := Lib.hid (show hostR t n = t[k].host by rw [HR.out, hk, nd_nat hkt])
    obtain ⟨b, o, rfl, hS, hb, hN⟩ := tree_base hr (by omega)
    obtain ⟨Ak, ck, Aa, ca, N⟩ := hN k hkt
    generalize t[k] = x at N HR2
    have x4 := N.c4
    have hkz : (k : Int) < (t.length : Int) := by omega
    have hkn : ((k : Int) == -1) = false := by simp
    clear N hN hk ho HR
    go_enter Try.func55, Try.ntmps55
    go_wp2_with (go_at_call 53; refine (ct _ Lime.stp_).mono ?_; rintro e w1 ⟨rfl, hb1⟩; replace x4 := hb1.cell x4)
    go_ret
    exact ⟨ret_int (by rw [HR2.out]), by (exact Lime.stp_)⟩
  · have HR := Lib.hid (show hostR t n = -1 from if_neg ho)
    rw [topR_none ho] at ct
    clear ho
    go_enter Try.func55, Try.ntmps55
    go_wp2_with (go_at_call 53; refine (ct _ Lime.stp_).mono ?_; rintro e w1 ⟨rfl, hb1⟩)
    go_ret
    exact ⟨ret_int (by rw [HR.out]), by (exact Lime.stp_)⟩
end Go.Proofs.Lime
namespace Go.Proofs.Lime
open Go.RowKit
set_option linter.unusedVariables false
set_option linter.unusedSimpArgs false

theorem blk_set {w : World} {g : Nat} {t : TypeId} {cs : Array Value} (h : w.heap[g]? = some (.cells cs t (0, 0))) (i : Nat) (u : Value) : (w.setCell ⟨g, i, none⟩ u).heap[g]? = some (.cells (cs.setIfInBounds i u) t (0, 0)) := by
  simp [World.setCell, Array.getElem?_modify, h]
theorem setCells_far {g : Nat} : ∀ (vs : List Value) (o : Nat) {w : World} (k : Nat), k ≠ g → (w.setCells g o vs).heap[k]? = w.heap[k]?
  | [], _, _, _, _ => rfl
  | v :: r, o, w, k, hk => by
    rw [World.setCells, setCells_far r (o + 1) k hk]
    exact Below.heap_setCell w ⟨g, o, none⟩ v k hk
theorem setCells_same (g : Nat) : ∀ (vs : List Value) (o : Nat) (w : World), (w.setCells g o vs).os = w.os ∧ (w.setCells g o vs).tape = w.tape ∧ (w.setCells g o vs).output = w.output ∧ (w.setCells g o vs).heap.size = w.heap.size
  | [], _, _ => ⟨rfl, rfl, rfl, rfl⟩
  | v :: r, o, w => by
    obtain ⟨h1, h2, h3, h4⟩ := setCells_same g r (o + 1) (w.setCell ⟨g, o, none⟩ v)
    rw [World.setCells]
    exact ⟨h1, h2, h3, by rw [h4]; simp [World.setCell]⟩
theorem setCells_row {g : Nat} {e : TypeId} : ∀ (vs : List Value) (o : Nat) (w : World) (cur : Array Value), w.heap[g]? = some (.cells cur e (0, 0)) → o + vs.length ≤ cur.size →
    ∃ cur', (w.setCells g o vs).heap[g]? = some (.cells cur' e (0, 0)) ∧ cur'.size = cur.size ∧ cur'.toList = cur.toList.take o ++ vs ++ cur.toList.drop (o + vs.length)
  | [], o, w, cur, h, _ => ⟨cur, h, rfl, by simp⟩
  | v :: r, o, w, cur, h, hl => by
    have h2 := blk_set h o v
    simp only [List.length_cons] at hl
    obtain ⟨cur', h3, h4, h5⟩ := setCells_row r (o + 1) (w.setCell ⟨g, o, none⟩ v) _ h2 (by simp; omega)
    refine ⟨cur', h3, by rw [h4]; simp, ?_⟩
    rw [h5, Array.toList_setIfInBounds]
    have ho : o < cur.toList.length := by rw [Array.length_toList]; omega
    rw [List.take_set, List.drop_set_of_lt (by omega)]
    simp only [List.length_cons]
    rw [show o + 1 + r.length = o + (r.length + 1) by omega]
    congr 1
    rw [List.take_succ_eq_append_getElem ho, List.set_append_right _ _ (by rw [List.length_take]; omega)]
    have ho' : o < cur.size := by omega
    simp [Nat.min_eq_left (Nat.le_of_lt ho')]
theorem setCells_grown (g o : Nat) (vs : List Value) (w : World) : w.grownBy (w.setCells g o vs) (some g) :=
  have h := setCells_same g vs o w
  ⟨h.1, h.2.1, h.2.2.1, by rw [h.2.2.2]; exact Nat.le_refl _, fun k _ hk => setCells_far vs o k (fun e => hk (by rw [e]))⟩

/-- clear of a slice in memory. -/
theorem run_clear_some {P : Program} {t ty e : TypeId} (ht : P.underlying t = some (.slice e)) {z : Value} {W : World} (hz : ∀ w, (zeroValue e).run P w = .ok z w) (b o n c : Nat) (hn : 0 < n) (zs : List Value) (hzs : (Builtin.zeroCells z.cells n).toList = zs)
    (hc : ∀ j, j < zs.length → (W.cell? ⟨b, o + j, none⟩).isSome = true) (hf : ∀ j, j < zs.length → W.frozen? ⟨b, o + j, none⟩ = false) (h1 : ∀ v ∈ zs, v.oneCell' = true) :
    (Builtin.clear_ #[t] ty #[.slice (some ⟨b, o, none⟩) n c]).run P W = .ok (.tuple #[]) (W.setCells b o zs) := by
  have hst := run_storeCells_cells (P := P) b o zs 0 W (by simpa using hc) (by simpa using hf) h1
  simp only [Nat.add_zero] at hst
  obtain ⟨m, rfl⟩ : ∃ m, n = m + 1 := ⟨n - 1, by omega⟩
  simp [Builtin.clear_, run_underlying ht, hz, hzs, hst]

theorem wpl_clear {P : Program} {ops : Array Oper} {rest : List Oper} {o : Oper} {a : Act} {Q : Exit → Act → World → Prop} {W w2 : World} (hgd : o.guard = none) (x : Operand) (t : TypeId)
    (ho : o.op = .call { callee := .builtin .clear, args := #[x], argTypes := #[t] }) (v : Value) (hx : a.eval x = v) (hr : (Builtin.clear_ #[t] o.type #[v]).run P W = .ok (.tuple #[]) w2)
    (h : wpList P ops Q rest (a.put o.dst (.tuple #[])) w2) : wpList P ops Q (o :: rest) a W := by
  refine wpList_plain hgd fun K hK => ?_
  unfold Oper.wp execOp
  simp only [ho, resolve, invoke, builtin, Sem.run_bind, Sem.run_pure, Result.andThen_ok, List.map_toArray, List.map_cons, List.map_nil, hx, hr]
  exact hK _ _ h

end Go.Proofs.Lime
namespace Go.Proofs.Lime
open Go.RowKit
set_option linter.unusedVariables false
set_option linter.unusedSimpArgs false

theorem own_ints {e : TypeId} {S : Nat → Prop} {w : World} {v : Value} {xs : List Int} (h : Own intK e S w v xs) : w.ownsRow 0 e 1 v xs.length (xs.map (Value.int .i64)) := by
  obtain ⟨hb, inner, ho, he⟩ := h
  have hz : intK.sz = 1 := rfl
  have : inner = xs.map (Value.int .i64) := by
    apply List.ext_getElem?
    intro k
    have hil : inner.length = xs.length := by have := ho.1; rw [hz, Nat.mul_one] at this; exact this
    by_cases hk : k < xs.length
    · obtain ⟨cs, hK, hc⟩ := he k hk
      have hK' : cs = [.int .i64 xs[k]] := hK
      subst hK'
      have h2 := hc 0 _ rfl
      rw [hz, Nat.mul_one, Nat.add_zero] at h2
      rw [h2, List.getElem?_map, List.getElem?_eq_getElem hk]; rfl
    · rw [List.getElem?_eq_none (by omega), List.getElem?_eq_none (by rw [List.length_map]; omega)]
  rw [← this]
  exact ho
theorem own_of_ints {e : TypeId} {S : Nat → Prop} {w : World} {v : Value} {xs : List Int} (h : w.ownsRow 0 e 1 v xs.length (xs.map (Value.int .i64))) (hS : ∀ k, v.ownBlock = some k → S k) : Own intK e S w v xs :=
  ⟨hS, _, h, fun j hj => ⟨_, rfl, fun i u hi => by
    have hi' : ([Value.int .i64 xs[j]] : List Value)[i]? = some u := hi
    have h1 : i < 1 := (List.getElem?_eq_some_iff.1 hi').1
    obtain rfl : i = 0 := by omega
    have hz : intK.sz = 1 := rfl
    rw [hz, Nat.mul_one, Nat.add_zero, List.getElem?_map, List.getElem?_eq_getElem hj]
    simpa using hi'⟩⟩
theorem cloneI_c {S : Nat → Prop} {w : World} {v : Value} {xs : List Int} (hr : Row intK S w v xs) (hl : xs.length ≤ 1000000) :
    Calls Try.prog 35 #[v] w fun e w' => ∃ v', e = .returned v' ∧ Own intK 3 (w.heap.size ≤ ·) w' v' xs ∧ Stp w w' := by
  obtain ⟨A, c, rfl, hc, hm⟩ := hr.form
  have hnil := fun (w : World) (a : Option Addr) (n c : Nat) => Lib.run_eql_slice_nil (P := Try.prog) w 27 3 a n c 0 0 Try.underlying27
  have hr' := hr.stp ((Stp.refl w).alloc (.cells #[] 3))
  cases A with
  | none =>
    have h0 : xs = [] := by
      cases xs with
      | nil => rfl
      | cons y ys => obtain ⟨b, o, c, cs, e, _⟩ := hr.get 0 (by simp); injection e with e; cases e
    subst h0
    clear hr hr'
    go_enter Try.func35, Try.ntmps35
    go_wp2
    go_ret
    exact ⟨_, rfl, Own.nil _ _ _ _, Stp.refl w⟩
  | some a =>
    clear hr
    go_enter Try.func35, Try.ntmps35
    go_wp2_with (at_builtin; refine wpl_appendrow (d := intK) (S := (w.heap.size ≤ ·)) (T' := fun _ => False) rfl (.tmp 5) (.tmp 6) 27 3 _ 8 rfl Try.underlying27 infoInt rfl (by decide) (by decide) _ [] _ xs rfl rfl hr' (fun _ _ h => h) (fun _ h _ => h.elim) (Own.fresh _ _ _ w (Nat.le_refl _)) (fun k hk => Nat.le_trans (Stp.size Lime.stp_) hk) (by simp; omega) ?_; intro v1 w1 ho hg2; have hb2 : Stp w w1 := Stp.grown Lime.stp_ hg2 (Own.fresh intK 3 (w.heap.size ≤ ·) w (Nat.le_refl _)).blk)
    go_ret
    exact ⟨_, rfl, ho, hb2⟩

/-- What is held while numbers are taken out of block g: j are looked at. -/
structure DelSt (p : Int → Bool) (xs : List Int) (g cap : Nat) (w : World) (j : Nat) (W : World) : Prop where mk ::
  kp : Kpt (· = g) w W
  row : ∃ cur, W.heap[g]? = some (.cells cur 3 (0, 0)) ∧ cur.size = cap ∧ (∀ a, (h : a < ((xs.take j).filter (!p ·)).length) → cur[a]? = some (.int .i64 ((xs.take j).filter (!p ·))[a])) ∧ ∀ k, j ≤ k → (h : k < xs.length) → cur[k]? = some (.int .i64 xs[k])
theorem take_filter {p : Int → Bool} {xs : List Int} {j : Nat} (h : j < xs.length) : (xs.take (j + 1)).filter (!p ·) = (xs.take j).filter (!p ·) ++ (if p xs[j] = true then [] else [xs[j]]) := by
  rw [List.take_succ_eq_append_getElem h, List.filter_append]
  congr 1
  cases hp : p xs[j] <;> simp [hp]
theorem DelSt.cell {p : Int → Bool} {xs : List Int} {g cap j : Nat} {w W : World} (D : DelSt p xs g cap w j W) (hj : j < xs.length) : W.cell? ⟨g, j, none⟩ = some (.int .i64 xs[j]) := by
  obtain ⟨cur, h1, _, _, h2⟩ := D.row
  simp only [World.cell?, h1]
  simpa using h2 j (Nat.le_refl _) hj
theorem DelSt.len {p : Int → Bool} {xs : List Int} {j : Nat} : ((xs.take j).filter (!p ·)).length ≤ j := by
  have h1 := List.length_filter_le (!p ·) (xs.take j)
  have h2 := List.length_take_le j xs
  omega
theorem DelSt.stp {p : Int → Bool} {xs : List Int} {g cap j : Nat} {w W W2 : World} (D : DelSt p xs g cap w j W) (h : Stp W W2) : DelSt p xs g cap w j W2 := by
  obtain ⟨cur, h1, h2, h3, h4⟩ := D.row
  exact ⟨D.kp.trans (Kpt.of_stp (O := fun _ => False) h) fun x hx => hx.elim, cur, h.heap h1, h2, h3, h4⟩
theorem DelSt.there {p : Int → Bool} {xs : List Int} {g cap j : Nat} {w W : World} (D : DelSt p xs g cap w j W) {k : Nat} (hk : k < cap) : (∃ u, W.cell? ⟨g, k, none⟩ = some u) ∧ W.frozen? ⟨g, k, none⟩ = false := by
  obtain ⟨cur, h1, h2, _⟩ := D.row
  refine ⟨?_, by simp [World.frozen?, h1]⟩
  simp only [World.cell?, h1]
  exact ⟨cur[k], by simp [show k < cur.size by omega]⟩
theorem DelSt.gone {p : Int → Bool} {xs : List Int} {g cap j : Nat} {w W : World} (D : DelSt p xs g cap w j W) (hj : j < xs.length) (hp : p xs[j] = true) : DelSt p xs g cap w (j + 1) W := by
  obtain ⟨cur, h1, h2, h3, h4⟩ := D.row
  have e := take_filter (p := p) hj
  rw [if_pos hp, List.append_nil] at e
  refine ⟨D.kp, cur, h1, h2, fun a h => ?_, fun k hk h => h4 k (by omega) h⟩
  simp only [e] at h ⊢
  exact h3 a h
theorem DelSt.keep {p : Int → Bool} {xs : List Int} {g cap j : Nat} {w W : World} (D : DelSt p xs g cap w j W) (hj : j < xs.length) (hc : xs.length ≤ cap) (hp : p xs[j] = false) : DelSt p xs g cap w (j + 1) (W.setCell ⟨g, ((xs.take j).filter (!p ·)).length, none⟩ (.int .i64 xs[j])) ∧ ((xs.take (j + 1)).filter (!p ·)).length = ((xs.take j).filter (!p ·)).length + 1 := by
  obtain ⟨cur, h1, h2, h3, h4⟩ := D.row
  have e := take_filter (p := p) hj
  rw [if_neg (by simp [hp])] at e
  have hl := DelSt.len (p := p) (xs := xs) (j := j)
  refine ⟨⟨D.kp.trans (Kpt.setCell (O := (· = g)) W _ rfl) fun x hx => .inl hx, _, blk_set h1 _ _, by simp [h2], fun a h => ?_, fun k hk h => ?_⟩, by rw [e]; simp⟩
  · simp only [e] at h ⊢
    rw [Array.getElem?_setIfInBounds]
    by_cases ha : ((xs.take j).filter (!p ·)).length = a
    · subst ha
      rw [if_pos rfl, if_pos (by omega)]
      simp
    · rw [if_neg ha]
      have h' : a < ((xs.take j).filter (!p ·)).length := by rw [List.length_append] at h; simp at h; omega
      rw [List.getElem_append_left h']
      exact h3 a h'
  · rw [Array.getElem?_setIfInBounds, if_neg (by omega)]
    exact h4 k (by omega) h
theorem filter_miss {p : Int → Bool} {xs : List Int} (h : idx p xs < 0) : xs.filter (!p ·) = xs := by
  have h1 := idx_any p xs
  rw [decide_eq_false (by omega)] at h1
  rw [List.filter_eq_self]
  intro x hx
  have := List.any_eq_false.1 h1.symm x hx
  cases hx' : p x
  · rfl
  · exact absurd hx' this
theorem filter_hit {p : Int → Bool} {xs : List Int} {i : Nat} (hi : i < xs.length) (h : idx p xs = i) : (xs.take i).filter (!p ·) = xs.take i ∧ p xs[i] = true := by
  have h3 : p xs[i] = true := by
    obtain ⟨i', h1, h2, h3⟩ := idx_nat (p := p) (xs := xs) (by omega)
    have e : i' = i := by omega
    subst e
    exact h3
  refine ⟨?_, h3⟩
  rw [List.filter_eq_self]
  intro x hx
  have h4 := idx_lt p xs 0 i (by omega) (List.any_eq_true.2 ⟨_, List.getElem_mem hi, h3⟩)
  rw [show idxFrom p 0 xs = (i : Int) from h, decide_eq_false (by omega)] at h4
  have := List.any_eq_false.1 h4.symm x hx
  cases hx' : p x
  · rfl
  · exact absurd hx' this
set_option maxHeartbeats 2000000 in
theorem delFuncI_c {S : Nat → Prop} {w : World} {v : Value} {xs : List Int} (ho : Own intK 3 S w v xs) (hl : xs.length ≤ 1000000) (p : Int → Bool) (gf : Nat) (lb : Array Value)
    (eg : ∀ args w, (callFunc gf args).run Try.prog w = .ok (.enter gf args) w)
    (hp : ∀ (W : World) (x : Int), Kpt (fun b => v.ownBlock = some b) w W → Calls Try.prog gf (#[.int .i64 x] ++ lb) W fun e w' => e = .returned (.bool (p x)) ∧ Stp W w') :
    Calls Try.prog 69 #[v, .func (.func gf) #[] lb] w fun e w' => ∃ v', e = .returned v' ∧ Own intK 3 (fun k => v.ownBlock = some k ∨ w.heap.size ≤ k) w' v' (xs.filter (!p ·)) ∧ Kpt (fun b => v.ownBlock = some b) w w' := by
  have ci := indexFuncI_c ho.reads p gf lb eg (fun W x hW => hp W x (Kpt.of_stp hW))
  by_cases hi : 0 ≤ idx p xs
  · obtain ⟨i, hi1, hil, _⟩ := idx_nat hi
    have hof := own_ints ho
    clear ho hi
    obtain ⟨hfl, hv⟩ := hof
    rcases hv with ⟨_, h0⟩ | ⟨g, cap, cur, rfl, _, hg, hnc, hcm, hcs, htake⟩
    · omega
    obtain ⟨hf1, hf2⟩ := filter_hit hil hi1
    rw [hi1] at ci
    rw [Nat.mul_one] at hcs htake
    have hob : ∀ b, (Value.slice (some ⟨g, 0, none⟩) xs.length cap).ownBlock = some b ↔ b = g := fun b => by simp [Value.ownBlock, eq_comm]
    simp only [hob] at hp ⊢
    have D0 : DelSt p xs g cap w i w := by
      have hcur : ∀ k, (h : k < xs.length) → cur[k]? = some (.int .i64 xs[k]) := fun k h => by
        have h1 : (cur.toList.take xs.length)[k]? = some (.int .i64 xs[k]) := by rw [htake, List.getElem?_map, List.getElem?_eq_getElem h]; rfl
        rw [List.getElem?_take, if_pos h] at h1
        simpa using h1
      refine ⟨Kpt.refl _ _, cur, hg, hcs, fun a h => ?_, fun k hk h => hcur k h⟩
      simp only [hf1] at h ⊢
      rw [List.getElem_take]
      exact hcur a (by rw [List.length_take] at h; omega)
    have D1 := D0.gone hil hf2
    have hil1 : ((xs.take (i + 1)).filter (!p ·)).length = i := by
      rw [take_filter hil, if_pos hf2, List.append_nil, hf1, List.length_take]; omega
    have D1' := Lib.hid D1
    have hil1' := Lib.hid hil1
    have hlt0 : i < xs.length := hil
    simp only [maxLen] at hcm
    have hin1 : ((i : Int) == -1) = false := by simp
    have hiz : (i : Int) < (xs.length : Int) := by omega
    clear hg hcs htake hf1 hf2 D0 D1 hil1 hi1 hfl
    go_enter Try.func69, Try.ntmps69
    go_wp2_with (go_at_call 81; refine ci.mono ?_; rintro e w1 ⟨rfl, hb1⟩)
    have D2 := Lib.hid (D1'.out.stp hb1)
    clear D1'
    go_loopw [5, 6, 7] (fun s5 s6 s7 wr => ∃ j : Nat, s6 = .int .i64 j ∧ s5 = .int .i64 ((xs.take j).filter (!p ·)).length ∧ Aside (i < j ∧ j ≤ xs.length ∧ ((xs.take j).filter (!p ·)).length < j ∧ DelSt p xs g cap w j wr)) (fun _ s6 _ _ => xs.length - (intOf s6).toNat)
    case atStart => exact ⟨i + 1, by go_num, by rw [hil1'.out], by omega, by omega, by have := hil1'.out; omega, D2.out⟩
    case round =>
      obtain ⟨j, rfl, rfl, HA⟩ := hrel
      have hij := HA.out.1
      have hjl := HA.out.2.1
      have hml := HA.out.2.2.1
      have D := HA.out.2.2.2
      by_cases hlt : j < xs.length
      · have hltz : (j : Int) < (xs.length : Int) := by omega
        have y0 := D.cell hlt
        have hcall := hp wr xs[j] D.kp
        have HG := fun (h : p xs[j] = true) => D.gone hlt h
        have HL := fun (h : p xs[j] = true) => show ((xs.take (j + 1)).filter (!p ·)).length = ((xs.take j).filter (!p ·)).length by rw [take_filter hlt, if_pos h, List.append_nil]
        have HK := fun (h : p xs[j] = false) (W2 : World) (hb : Stp wr W2) => (D.stp hb).keep hlt hnc h
        have HT := fun (W2 : World) (hb : Stp wr W2) (k : Nat) (hk : k < cap) => (D.stp hb).there hk
        generalize hm : ((xs.take j).filter (!p ·)).length = m at hml HK HL
        have hmz : (m : Int) < (xs.length : Int) := by omega
        have hm2 := Lib.hid hm
        generalize xs[j] = y at y0 hcall HG HK HL
        clear hm D HA D2 hp
        cases hq : p y with
        | true =>
          rw [hq] at hcall
          have HG2 := Lib.hid (HG hq)
          have HL2 := Lib.hid (HL hq)
          clear HG HK HT HL
          go_wp2_with (go_at_fn gf; refine hcall.mono ?_; rintro e w2 ⟨rfl, hb2⟩)
          go_roundw
          case rel => exact ⟨j + 1, by go_num, by rw [HL2.out], by omega, by omega, by have := HL2.out; omega, HG2.out.stp hb2⟩
          case measure => simp [intOf]; omega
        | false =>
          rw [hq] at hcall
          have HK2 := Lib.hid (HK hq)
          have HT2 := Lib.hid HT
          clear HG HK HT HL
          go_wp2_with (go_at_fn gf; refine hcall.mono ?_; rintro e w2 ⟨rfl, hb2⟩; obtain ⟨⟨u2, g2⟩, f2⟩ := HT2.out w2 hb2 m (by omega))
          go_roundw
          case rel => exact ⟨j + 1, by go_num, by rw [(HK2.out w2 hb2).2]; go_num, by omega, by omega, by have := (HK2.out w2 hb2).2; omega, (HK2.out w2 hb2).1⟩
          case measure => simp [intOf]; omega
      · have hltz : ¬ (j : Int) < (xs.length : Int) := by omega
        have hjx : j = xs.length := by omega
        subst hjx
        have hall : xs.take xs.length = xs := List.take_of_length_le (Nat.le_refl _)
        rw [hall] at hml ⊢
        obtain ⟨curE, e1, e2, e3, _⟩ := D.row
        rw [hall] at e3
        have hkpE := D.kp
        have hthere := fun (k : Nat) (hk : k < cap) => D.there hk
        clear D HA D2 hall ci hp hil1'
        obtain ⟨ys, hys⟩ : ∃ ys, xs.filter (!p ·) = ys := ⟨_, rfl⟩
        rw [hys] at e3 hml ⊢
        have HY := Lib.hid hys
        clear hys
        obtain ⟨zs, hzs⟩ : ∃ zs, (Builtin.zeroCells (Value.int .i64 0).cells (xs.length - ys.length)).toList = zs := ⟨_, rfl⟩
        have hzl : zs.length = xs.length - ys.length := by rw [← hzs, Array.length_toList, size_zeroCells]; exact Nat.mul_one _
        have hz1 : ∀ u ∈ zs, u.oneCell' = true := by
          rw [← hzs]
          intro u hu
          simp [Builtin.zeroCells, Value.cells] at hu
          obtain ⟨_, _, rfl⟩ := hu
          rw [Nat.mod_one]; rfl
        obtain ⟨cur2, hg2, hs2, hl2⟩ := setCells_row (e := 3) zs ys.length wr curE e1 (by omega)
        have hclear := run_clear_some (P := Try.prog) (t := 27) (ty := 0) Try.underlying27 (W := wr) Try.zeroValue3 g ys.length (xs.length - ys.length) (cap - ys.length) (by omega) zs hzs (fun j hj => by obtain ⟨⟨u, hu⟩, _⟩ := hthere (ys.length + j) (by omega); rw [hu]; rfl) (fun j hj => (hthere (ys.length + j) (by omega)).2) hz1
        have hgr := setCells_grown g ys.length zs wr
        obtain ⟨w2, hw2⟩ : ∃ w2, wr.setCells g ys.length zs = w2 := ⟨_, rfl⟩
        rw [hw2] at hclear hg2 hgr
        have hkp2 : Kpt (· = g) w w2 := hkpE.trans (Kpt.of_grown (O := (· = g)) hgr fun k hk => by injection hk with hk; exact hk.symm) fun x hx => .inl hx
        have hend : w2.ownsRow 0 3 1 (.slice (some ⟨g, 0, none⟩) ys.length cap) ys.length (ys.map (Value.int .i64)) := by
          refine ⟨by simp, .inr ⟨g, cap, cur2, rfl, Nat.zero_le _, hg2, by omega, by simp only [maxLen]; omega, by rw [hs2, e2, Nat.mul_one], ?_⟩⟩
          rw [Nat.mul_one, hl2, List.append_assoc, List.take_append_of_le_length (by rw [List.length_take, show curE.toList.length = curE.size from Array.length_toList, e2]; omega), List.take_take, Nat.min_self]
          apply List.ext_getElem?
          intro k
          rw [List.getElem?_take, List.getElem?_map]
          split
          · rename_i hk
            rw [Array.getElem?_toList, e3 k hk, List.getElem?_eq_getElem hk]; rfl
          · rename_i hk
            rw [List.getElem?_eq_none (by omega)]; rfl
        have h1 : (ys.length : Int) ≤ (xs.length : Int) := by omega
        have h2 : (xs.length : Int) ≤ (cap : Int) := by omega
        have h3 : (ys.length : Int) ≤ (cap : Int) := by omega
        have h4 : ¬ cap = ys.length := by omega
        have h5 := Lib.hid hend
        have h6 := Lib.hid hkp2
        have hclear2 := Lib.hid hclear
        clear hthere e1 e2 e3 hkpE hzs hzl hz1 hg2 hs2 hl2 hgr hw2 hclear hend hkp2 hob
        have hcl := hclear2.out
        go_wp2
        go_ret
        exact ⟨_, rfl, by rw [HY.out]; exact own_of_ints h5.out (fun k hk => .inl (by simpa [Value.ownBlock, eq_comm] using hk)), h6.out⟩
  · have hin : idx p xs < 0 := by omega
    have HF := Lib.hid (filter_miss hin)
    have hi1 : idx p xs = -1 := (idxFrom_ge p xs 0).resolve_right (fun h => by have h' : 0 ≤ idx p xs := h; omega)
    rw [hi1] at ci
    obtain ⟨A, c, rfl, hc, hm⟩ := ho.reads.form
    clear hi hin hi1
    go_enter Try.func69, Try.ntmps69
    go_wp2_with (go_at_call 81; refine ci.mono ?_; rintro e w1 ⟨rfl, hb1⟩)
    go_ret
    exact ⟨_, rfl, by rw [HF.out]; exact own_of_ints (own_ints (ho.stp hb1)) (fun k hk => .inl hk), Kpt.of_stp hb1⟩
end Go.Proofs.Lime
namespace Go.Proofs.Lime
open Go.RowKit
set_option linter.unusedVariables false
set_option linter.unusedSimpArgs false

/-- What is told of blocks that are not there does not count. -/
def Bnd (J : Nat → (Nat → Prop) → World → Prop) : Prop := ∀ k O W, J k O W → J k (fun b => O b ∧ b < W.heap.size) W
/-- What an iterator owes that lays blocks of its own between two rounds. -/
def IterB {α : Type} (P : Program) (g : Nat) (lb : Array Value) (enc : α → Array Value) (C S : Nat → Prop) (xs : List α) (w : World) : Prop :=
  ∀ (l : Nat) (J Jx : Nat → (Nat → Prop) → World → Prop) (O : Nat → Prop) (W : World), Kpt O w W → (∀ b, O b → ¬ C b ∧ (b < w.heap.size → ¬ S b)) → Abide C W.heap.size J → Abide C W.heap.size Jx → Bnd J → Bnd Jx →
    (∀ k (hk : k < xs.length) (O : Nat → Prop) (W1 : World), J k O W1 → YieldAt Fence.wide 0 P l (enc xs[k]) W1 fun e W' => ∃ O', (∀ b, O' b → O b ∨ W1.heap.size ≤ b) ∧ Kpt O W1 W' ∧
      ((e = .returned (.bool true) ∧ J (k + 1) O' W') ∨ (e = .returned (.bool false) ∧ Jx (k + 1) O' W'))) →
    J 0 O W →
    CallsIn Fence.wide 0 P g (#[.func (.yield l) #[] #[]] ++ lb) W fun e W' => (∃ v, e = .returned v) ∧ ∃ O', J xs.length O' W' ∨ ∃ k, Jx k O' W'
theorem Iter.toB {α : Type} {P : Program} {g : Nat} {lb : Array Value} {enc : α → Array Value} {C S : Nat → Prop} {xs : List α} {w : World} (h : Iter P g lb enc C S xs w) : IterB P g lb enc C S xs w :=
  fun l J Jx O W hk hO hJ hJx _ _ hY h0 => h l J Jx O W hk hO hJ hJx hY h0
theorem IterB.later {α : Type} {P : Program} {g : Nat} {lb : Array Value} {enc : α → Array Value} {C S : Nat → Prop} {xs : List α} {w w0 : World} (h : IterB P g lb enc C S xs w) (hs : Stp w w0) : IterB P g lb enc C S xs w0 :=
  fun l J Jx O W hk hO => h l J Jx O W ((Kpt.of_stp hs).trans hk fun x hx => .inl hx) (fun b hb => ⟨(hO b hb).1, fun hl => (hO b hb).2 (Nat.lt_of_lt_of_le hl hs.size)⟩)

/-- **THE RANGE, over an iterator that lays blocks of its own.** -/
theorem wp_rangeB {α : Type} {P : Program} {g : Operand} {ps : Array Tmp} {assign body : Code} {Q : Exit → Act → World → Prop} {a : Act} {w : World} {gf : Nat} {lb : Array Value}
    (hg : a.eval g = .func (.func gf) #[] lb) (eg : ∀ args w, (callFunc gf args).run P w = .ok (.enter gf args) w) {enc : α → Array Value} {C S : Nat → Prop} {xs : List α} (hit : IterB P gf lb enc C S xs w) (hps : ∀ x, (enc x).size = ps.size)
    (hC : ∀ b, C b → b < w.heap.size) (O : Nat → Prop) (hO : ∀ b, O b → b < w.heap.size ∧ ¬ C b ∧ ¬ S b)
    (I : Nat → (Nat → Prop) → World → Prop) (Ix : Code → Nat → (Nat → Prop) → World → Prop) (hI : Abide C w.heap.size I) (hIx : ∀ c, Abide C w.heap.size (Ix c)) (hIb : Bnd I) (hIxb : ∀ c, Bnd (Ix c)) (h0 : I 0 O w) (a₁ : α → Act)
    (hassign : ∀ (l : Nat) (x : α) (W : World) (K : Act → World → Prop), K (a₁ x) W →
      assign.wpIn (Fence.wide.inRound l) 0 P (Exit.then K (fun _ _ _ => False)) { tmps := (ps.zip (enc x)).foldl (fun t (p, v) => t.setIfInBounds p v) a.tmps, defers := [] } W)
    (hbody : ∀ (l k : Nat) (hk : k < xs.length) (O : Nat → Prop) (W : World), I k O W → body.wpIn (Fence.wide.inRound l) 0 P (roundEnd I Ix k O W) (a₁ xs[k]) W)
    (hdone : ∀ (D : Nat) (O : Nat → Prop) (W : World), w.heap.size ≤ D → ¬ O D → I xs.length O W → W.heap[D]? = some (.deferred (some [])) → Q .normal { a with defers := { target := .collected D, args := #[] } :: a.defers } W)
    (hstop : ∀ (D : Nat) (c : Code) (k : Nat) (O : Nat → Prop) (W : World), w.heap.size ≤ D → ¬ O D → Ix c k O W → W.heap[D]? = some (.deferred (some [])) → c.wp P Q { a with defers := { target := .collected D, args := #[] } :: a.defers } W) :
    (Code.rangeFunc g ps assign body).wp P Q a w := by
  refine (wpIn_wide (n := 0)).1 (wpIn_rangeFunc fun fn hfn => ?_)
  obtain ⟨D, hD⟩ : ∃ D, D = w.heap.size := ⟨_, rfl⟩
  obtain ⟨L, hL⟩ : ∃ L : LoopState → Option Code → Obj, L = fun st pe => .loop ⟨st, pe, fn, a.tmps, ps, assign, body, D⟩ := ⟨_, rfl⟩
  obtain ⟨W1, hW1⟩ : ∃ W1, (w.alloc (.deferred (some []))).alloc (L .ready none) = W1 := ⟨_, rfl⟩
  have hs1 : W1.heap.size = D + 2 := by rw [← hW1, hD]; simp
  have hl1 : W1.heap[D + 1]? = some (L .ready none) := by
    have := World.alloc_heap_new (w.alloc (.deferred (some []))) (L .ready none)
    rw [← hW1, hD]; simpa using this
  have hd1 : W1.heap[D]? = some (.deferred (some [])) := by
    rw [← hW1, hD]
    exact (Below.heap_alloc _ _ _ (by simp)).trans (World.alloc_heap_new w _)
  have hst1 : Stp w W1 := by rw [← hW1]; exact ((Stp.refl w).alloc _).alloc _
  have hnO : ∀ b, O b → b < D := fun b hb => by rw [hD]; exact (hO b hb).1
  have hi1 : I 0 O W1 := hI 0 O w W1 h0 (Kpt.of_stp hst1)
  -- the book-keeping beside what the caller tells: the record, and the block for calls that are put off
  obtain ⟨J, hJ⟩ : ∃ J : LoopState → Option Code → (Nat → (Nat → Prop) → World → Prop) → Nat → (Nat → Prop) → World → Prop,
      J = fun st pe Y k O2 W => ∃ O, (∀ b, O2 b ↔ O b ∨ b = D + 1 ∨ b = D) ∧ ¬ O D ∧ ¬ O (D + 1) ∧ Y k O W ∧ W.heap[D + 1]? = some (L st pe) ∧ W.heap[D]? = some (.deferred (some [])) := ⟨_, rfl⟩
  have hsub : ∀ (O O2 : Nat → Prop), (∀ b, O2 b ↔ O b ∨ b = D + 1 ∨ b = D) → ∀ b, ItMay C W1.heap.size O2 b → ItMay C w.heap.size O b := by
    rintro O O2 h b ⟨h1, h2⟩
    exact ⟨fun hb => h1 ((h b).2 (.inl hb)), h2.imp id (fun h3 => by omega)⟩
  have hJA : ∀ st pe Y, Abide C w.heap.size Y → Abide C W1.heap.size (J st pe Y) := by
    intro st pe Y hY k O2 A B h hk
    rw [hJ] at h ⊢
    obtain ⟨O, h1, h2, h3, h4, h5, h6⟩ := h
    have keep : ∀ x o, O2 x → A.heap[x]? = some o → B.heap[x]? = some o := fun x o hx ho =>
      (hk.block x (Array.getElem?_eq_some_iff.1 ho).1 (fun hm => hm.1 hx)).trans ho
    exact ⟨O, h1, h2, h3, hY k O A B h4 (hk.mono fun x hx => .inl (hsub O O2 h1 x hx)), keep _ _ ((h1 _).2 (.inr (.inl rfl))) h5, keep _ _ ((h1 _).2 (.inr (.inr rfl))) h6⟩
  have hJB : ∀ st pe Y, Bnd Y → Bnd (J st pe Y) := by
    intro st pe Y hY k O2 A h
    rw [hJ] at h ⊢
    obtain ⟨O, h1, h2, h3, h4, h5, h6⟩ := h
    have l5 := (Array.getElem?_eq_some_iff.1 h5).1
    have l6 := (Array.getElem?_eq_some_iff.1 h6).1
    refine ⟨fun b => O b ∧ b < A.heap.size, fun b => ?_, fun h => h2 h.1, fun h => h3 h.1, hY k O A h4, h5, h6⟩
    show O2 b ∧ b < A.heap.size ↔ (O b ∧ b < A.heap.size) ∨ b = D + 1 ∨ b = D
    rw [h1 b]
    constructor
    · rintro ⟨h | rfl | rfl, hl⟩
      · exact .inl ⟨h, hl⟩
      · exact .inr (.inl rfl)
      · exact .inr (.inr rfl)
    · rintro (⟨h, hl⟩ | rfl | rfl)
      · exact ⟨.inl h, hl⟩
      · exact ⟨.inr (.inl rfl), l5⟩
      · exact ⟨.inr (.inr rfl), l6⟩
  refine ⟨D + 1, [{ target := .collected D, args := #[] }], W1, { target := .fn (.func gf) lb, args := #[.func (.yield (D + 1)) #[] #[]] }, W1, gf, #[.func (.yield (D + 1)) #[] #[]] ++ lb, W1, ?_, ?_, fun _ _ => trivial, ?_, fun h => by simp [Fence.wide] at h, ?_⟩
  · have := run_enterLoop_outer (P := P) (w := w) fn a.tmps ps assign body
    rw [← hW1, hL, hD]
    exact this
  · simp only [resolve, hg]
    simp [go_sem]
  · simp [invoke, go_sem, eg]
  · have hput : ∀ (W : World) (st st' : LoopState) (pe pe' : Option Code), W.heap[D + 1]? = some (L st pe) → (W.putObj (D + 1) (L st' pe')).heap[D + 1]? = some (L st' pe') := fun W _ _ _ _ h => World.putObj_heap_same (Array.getElem?_eq_some_iff.1 h).1
    have hputD : ∀ (W : World) (o : Obj), (W.putObj (D + 1) o).heap[D]? = W.heap[D]? := fun W o => World.putObj_heap_other (by omega)
    -- a turn of the record is an iterator's step, to what the caller tells
    have hrec : ∀ (Y : Nat → (Nat → Prop) → World → Prop), Abide C w.heap.size Y → ∀ k O W o, ¬ O (D + 1) → Y k O W → Y k O (W.putObj (D + 1) o) := fun Y hY k O W o hn h =>
      hY k O W _ h (Kpt.put W o ⟨hn, .inr (by omega)⟩)
    refine (hit (D + 1) (J .ready none I) (fun k O2 W => ∃ c, J .done (some c) (Ix c) k O2 W) (fun b => O b ∨ b = D + 1 ∨ b = D) W1 (Kpt.of_stp hst1) ?_ (hJA _ _ _ hI) (fun k O2 A B h hk => let ⟨c, hc⟩ := h; ⟨c, hJA _ _ _ (hIx c) k O2 A B hc hk⟩) (hJB _ _ _ hIb) (fun k O2 A h => let ⟨c, hc⟩ := h; ⟨c, hJB _ _ _ (hIxb c) k O2 A hc⟩) ?_ ?_).mono ?_
    · rintro b (hb | hb | hb)
      · exact ⟨(hO b hb).2.1, fun _ => (hO b hb).2.2⟩
      · exact ⟨fun h => by have := hC b h; omega, fun h => by omega⟩
      · exact ⟨fun h => by have := hC b h; omega, fun h => by omega⟩
    · intro k hk O2 W h
      rw [hJ] at h
      obtain ⟨O, h1, h2, h3, h4, h5, h6⟩ := h
      have hlt : D + 1 < W.heap.size := (Array.getElem?_eq_some_iff.1 h5).1
      have h5' := h5
      rw [hL] at h5'
      have hy := run_yield (P := P) (args := enc xs[k]) h5' (hps _)
      refine ⟨fn, _, assign, body, hy, roundIn_of_wpIn hfn (hassign _ xs[k] W _ ⟨_, run_beginRound h5' rfl, ?_⟩)⟩
      obtain ⟨W2, hW2⟩ : ∃ W2, W.putObj (D + 1) (L .busy none) = W2 := ⟨_, rfl⟩
      have e2 : W.putObj (D + 1) (.loop ⟨.busy, none, fn, a.tmps, ps, assign, body, D⟩) = W2 := by rw [← hW2, hL]
      have hl2 : W2.heap[D + 1]? = some (L .busy none) := by rw [← hW2]; exact hput W _ _ _ _ h5
      have hd2 : W2.heap[D]? = some (.deferred (some [])) := by rw [← hW2, hputD]; exact h6
      have hi2 : I k O W2 := by rw [← hW2]; exact hrec I hI k O W _ h3 h4
      have hs2 : W2.heap.size = W.heap.size := by rw [← hW2]; simp
      have hk2 : Kpt O2 W W2 := by rw [← hW2]; exact Kpt.put W _ ((h1 _).2 (.inr (.inl rfl)))
      show body.wpIn (Fence.wide.inRound (D + 1)) 0 P _ _ (W.putObj (D + 1) (.loop ⟨.busy, none, fn, a.tmps, ps, assign, body, D⟩))
      rw [e2]
      refine wpIn_mono (hbody (D + 1) k hk O W2 hi2) ?_
      have fin : ∀ (pe : Option Code) (W3 : World) (O' : Nat → Prop) (Y : Nat → (Nat → Prop) → World → Prop), Abide C w.heap.size Y → (∀ b, O' b → O b ∨ W2.heap.size ≤ b) → Kpt O W2 W3 → Y (k + 1) O' W3 →
          ∃ W4, (Instr.endRound (D + 1) pe).run P W3 = .ok (.bool pe.isNone) W4 ∧ (∀ b, (O' b ∨ b = D + 1 ∨ b = D) → O2 b ∨ W.heap.size ≤ b) ∧ Kpt O2 W W4 ∧ J (if pe.isNone then .ready else .done) pe Y (k + 1) (fun b => O' b ∨ b = D + 1 ∨ b = D) W4 := by
        intro pe W3 O' Y hY hO' hk3 hy3
        have hl3 : W3.heap[D + 1]? = some (L .busy none) := (hk3.block _ (by omega) h3).trans hl2
        have hd3 : W3.heap[D]? = some (.deferred (some [])) := (hk3.block _ (by omega) h2).trans hd2
        have hl3' := hl3
        rw [hL] at hl3'
        have hnD : ¬ O' D := fun h => (hO' D h).elim h2 (fun h => by omega)
        have hnL : ¬ O' (D + 1) := fun h => (hO' _ h).elim h3 (fun h => by omega)
        refine ⟨W3.putObj (D + 1) (L (if pe.isNone then .ready else .done) pe), ?_, ?_, ?_, ?_⟩
        · have := run_endRound (P := P) pe hl3'
          rw [hL]
          exact this
        · rintro b (hb | hb)
          · exact (hO' b hb).imp (fun h => (h1 b).2 (.inl h)) (fun h => by omega)
          · exact .inl ((h1 b).2 (.inr hb))
        · exact hk2.trans ((hk3.mono fun x hx => .inl ((h1 x).2 (.inl hx))).trans (Kpt.put W3 _ ((h1 _).2 (.inr (.inl rfl)))) fun x hx => .inl hx) fun x hx => .inl hx
        · rw [hJ]
          exact ⟨O', fun b => Iff.rfl, hnD, hnL, hrec Y hY _ _ _ _ hnL hy3, hput W3 _ _ _ _ hl3, (hputD W3 _).trans hd3⟩
      rintro e a3 W3 hp
      cases e with
      | normal =>
        obtain ⟨O', hO', hk3, hi3⟩ := hp
        obtain ⟨W4, hr, h7, h8, h9⟩ := fin none W3 O' I hI hO' hk3 hi3
        exact ⟨_, _, hr, _, h7, h8, .inl ⟨rfl, h9⟩⟩
      | ret =>
        obtain ⟨O', hO', hk3, hi3⟩ := hp
        obtain ⟨W4, hr, h7, h8, h9⟩ := fin (some .ret) W3 O' _ (hIx _) hO' hk3 hi3
        exact ⟨_, _, hr, _, h7, h8, .inr ⟨rfl, _, h9⟩⟩
      | exit id =>
        obtain ⟨O', hO', hk3, hi3⟩ := hp
        obtain ⟨W4, hr, h7, h8, h9⟩ := fin (some (.exit id)) W3 O' _ (hIx _) hO' hk3 hi3
        exact ⟨_, _, hr, _, h7, h8, .inr ⟨rfl, _, h9⟩⟩
      | goto t => exact hp.elim
      | panic ch => exact hp.elim
      | outgrown => exact hp.elim
    · rw [hJ]
      exact ⟨O, fun b => Iff.rfl, fun h => by have := hnO _ h; omega, fun h => by have := hnO _ h; omega, hi1, hl1, hd1⟩
    · rintro e W2 ⟨⟨v, rfl⟩, O2, h | ⟨k, c, h⟩⟩
      all_goals
        rw [hJ] at h
        obtain ⟨O, h1, h2, h3, h4, h5, h6⟩ := h
        have h5' := h5
        rw [hL] at h5'
      · refine ⟨none, _, run_endLoop (P := P) h5' (by simp), hdone D O _ (by omega) h2 (hrec I hI _ _ _ _ h3 h4) ?_⟩
        rw [hputD]; exact h6
      · refine ⟨some c, _, run_endLoop (P := P) h5' (by simp), (wpIn_wide (n := 0)).2 (hstop D c k O _ (by omega) h2 (hrec _ (hIx c) _ _ _ _ h3 h4) ?_)⟩
        rw [hputD]; exact h6

end Go.Proofs.Lime
namespace Go.Proofs.Lime
open Go.RowKit
set_option linter.unusedVariables false
set_option linter.unusedSimpArgs false
attribute [local go_sem] Oper.semAt_some

theorem coSt_bnd (C : Nat → Prop) (xs : List Int) (B : Nat) (w : World) : Bnd (CoSt C xs B w) := by
  intro k O W h
  obtain ⟨h1, h2, h3, v, h4, h5⟩ := h
  exact ⟨⟨h1, h4.lt⟩, fun b hb => h2 b hb.1, h3, v, h4, h5.mono fun k hk hl => ⟨⟨hk.1, hl⟩, hk.2⟩⟩
set_option maxHeartbeats 1000000 in
theorem appendSeqB_c {C S : Nat → Prop} {gf : Nat} {lb : Array Value} {xs : List Int} {w : World} (eg : ∀ args w, (callFunc gf args).run Try.prog w = .ok (.enter gf args) w) (hit : IterB Try.prog gf lb (fun x : Int => #[.int .i64 x]) C S xs w)
    (hC : ∀ b, C b → b < w.heap.size) (hS : ∀ b, S b → b < w.heap.size) (hx : xs.length ≤ 1000000) :
    Calls Try.prog 57 #[.slice none 0 0, .func (.func gf) #[] lb] w fun e w' => ∃ v, e = .returned v ∧ Own intK 3 (fun b => w.heap.size ≤ b) w' v xs ∧ Kpt C w w' := by
  refine (callsIn_wide (n := 0)).1 (callsIn_of_wp_marks Try.func57 rfl trivial (wpIn_wide.2 ?_) rfl); simp only [Try.ntmps57, List.size_toArray, List.length_cons, List.length_nil, Nat.reduceAdd, Nat.reduceSub, Array.replicate_succ, Array.replicate_zero, List.push_toArray, List.append_toArray, List.nil_append, List.cons_append]
  go_wp2
  obtain ⟨w0, hw0⟩ : ∃ w0, w.alloc (.cells #[.slice none 0 0] 27) = w0 := ⟨_, rfl⟩
  have hb0 : Boxed w0 w.heap.size 27 (.slice none 0 0) := by rw [← hw0]; exact Boxed.new _ _ _
  have hs0 : Stp w w0 := by rw [← hw0]; exact (Stp.refl w).alloc _
  have hz0 : w0.heap.size = w.heap.size + 1 := by rw [← hw0]; simp
  rw [hw0]
  clear hw0
  generalize hB : w.heap.size = B at *
  refine wp_rangeB (gf := gf) (lb := lb) rfl eg (hit.later hs0) (fun _ => rfl) (fun b hb => by have := hC b hb; omega) (· = B) (fun b hb => ?_) (CoSt C xs B w0) (fun _ _ _ _ => False) (coSt_abide C xs B w0) (fun _ _ _ _ _ h _ => h) (coSt_bnd C xs B w0) (fun _ _ _ _ h => h.elim) ?_ (fun x => { tmps := #[.slice none 0 0, .func (.func gf) #[] lb, .pointer (some ⟨B, 0, none⟩), undef, .slice none 0 0, .int .i64 x, .func (.func gf) #[] lb, .int .i64 x, undef, undef, undef, undef, undef], defers := [] }) ?_ ?_ ?_ ?_
  · subst hb
    exact ⟨by omega, fun h => by have := hC b h; omega, fun h => by have := hS b h; omega⟩
  · exact ⟨rfl, fun b hb => by omega, Kpt.refl _ _, _, hb0, Own.nil _ _ _ _⟩
  · intro l x W K hK
    gi_wp2
    exact hK
  · intro l k hk O W hI
    obtain ⟨h1, h2, h3, v, h4, h5⟩ := hI
    have hcB := Boxed.cell h4
    have hfB := Boxed.frozen h4
    have hxk := Lib.hid (List.take_succ_eq_append_getElem hk)
    generalize xs[k] = x at hxk
    have hnB : v.ownBlock ≠ some B := fun e => (h5.blk B e).2 rfl
    have hBW := h4.lt
    have hk1 := Lib.hid (show ((xs.take k).length + [x].length) * 8 ≤ 140737488355328 by simp; omega)
    have HO := Lib.hid ((h5.stp ((Stp.refl W).alloc (.cells #[.int .i64 x] 3))).mono (S' := fun b => b ≠ B ∧ (O b ∨ W.heap.size ≤ b)) fun k hk _ => ⟨hk.2, .inl hk.1⟩)
    have hx1 : (x : Int) = x := rfl
    gi_wp2_with (gi_at_builtin; go_loud (refine wplI_appendrow (d := intK) (S := fun b => b ≠ B ∧ (O b ∨ W.heap.size ≤ b)) (T := fun b => b = W.heap.size) (T' := fun _ => False) rfl (.tmp 8) (.tmp 10) 27 3 (.int .i64 0) 8 rfl Try.underlying27 infoInt rfl (by decide) (by decide) v (xs.take k) _ [x] rfl rfl (Row.box (World.alloc_heap_new W _) rfl rfl) (fun _ _ h => h) (fun _ h => h.elim) HO.out (fun k hk => by rw [World.size_alloc] at hk; exact ⟨by omega, .inr (by omega)⟩) hk1.out ?_; intro v1 w1 ho hg; have hb1 := Boxed.grown (Boxed.alloc h4 (.cells #[.int .i64 x] 3)) hg hnB; have hc1 := Boxed.cell hb1; have hf1 := Boxed.frozen hb1; obtain ⟨A1, n1, c1, e1⟩ : ∃ A1 n1 c1, v1 = .slice A1 n1 c1 := (let ⟨A1, c1, e⟩ := ho.reads.slice; ⟨A1, _, c1, e⟩); subst e1))
    have hg2 : W.grownBy w1 v.ownBlock := World.grownBy.trans (World.grownBy_alloc W _ _) hg
    have hkp : Kpt O W (w1.setCell ⟨B, 0, none⟩ (.slice A1 n1 c1)) := kpt_store (Kpt.of_grown hg2 fun k e => (h5.blk k e).1) h1
    refine ⟨fun b => O b ∨ (W.heap.size ≤ b ∧ b < w1.heap.size), fun b hb => hb.imp id And.left, hkp, .inl h1, fun b hb => hb.elim (h2 b) (fun h => by omega), ?_, _, Boxed.set _ hb1, ?_⟩
    · refine h3.trans hkp fun b hb => ?_
      have := h2 b hb
      rcases Nat.lt_or_ge B b with h | h
      · exact .inr (by omega)
      · exact .inl (.inr (by omega))
    · rw [hxk.out]
      have ho2 := ho.mono (S' := fun b => (O b ∨ (W.heap.size ≤ b ∧ b < w1.heap.size)) ∧ b ≠ B) fun k hk hl => ⟨hk.2.imp id (fun h => ⟨h, hl⟩), hk.1⟩
      exact ho2.move fun k hk _ => Below.heap_setCell w1 ⟨B, 0, none⟩ _ k hk.2
  · intro D O W hD hn hI hWD
    obtain ⟨h1, h2, h3, v, h4, h5⟩ := hI
    have hcB := Boxed.cell h4
    rw [List.take_of_length_le (Nat.le_refl _)] at h5
    go_wp2
    refine leaves_mark hWD (results_tmp rfl _ _ _) ⟨v, rfl, ?_, ?_⟩
    · exact (h5.move fun k hk _ => World.putObj_heap_other (fun e => hn (by first | (rw [← e]; exact hk.1) | (rw [e]; exact hk.1)))).mono fun k hk _ => by have := h2 k hk.1; omega
    · exact (((Kpt.of_stp hs0).trans h3 fun x hx => .inl hx).mono fun x hx => hx.imp id (fun h => by omega)).trans (Kpt.put (O := fun b => b = D) W _ rfl) fun x hx => .inr (by omega)
  · intro D c k O W _ _ h
    exact h.elim
theorem collectB_c {C S : Nat → Prop} {gf : Nat} {lb : Array Value} {xs : List Int} {w : World} (eg : ∀ args w, (callFunc gf args).run Try.prog w = .ok (.enter gf args) w) (hit : IterB Try.prog gf lb (fun x : Int => #[.int .i64 x]) C S xs w)
    (hC : ∀ b, C b → b < w.heap.size) (hS : ∀ b, S b → b < w.heap.size) (hx : xs.length ≤ 1000000) :
    Calls Try.prog 38 #[.func (.func gf) #[] lb] w fun e w' => ∃ v, e = .returned v ∧ Own intK 3 (fun b => w.heap.size ≤ b) w' v xs ∧ Kpt C w w' := by
  have ca := appendSeqB_c eg hit hC hS hx
  go_enter Try.func38, Try.ntmps38
  go_wp2_with (go_at_call 57; refine ca.mono ?_; rintro e w1 ⟨v, rfl, h1, h2⟩)
  go_ret
  exact ⟨v, rfl, h1, h2⟩
end Go.Proofs.Lime
namespace Go.Proofs.Lime
open Go.RowKit
set_option linter.unusedVariables false
set_option linter.unusedSimpArgs false
attribute [local go_sem] Oper.semAt_some

theorem noPanic_n {Q : Exit → Act → World → Prop} {a : Act} {w : World} (h : Q .normal a w) : NoPanic Q .normal a w := h
section
variable {P : Program} {ops : Array Oper} {Q : Exit → Act → World → Prop} {l : Nat}
theorem wpOpIn_round (hd : ∀ (i : Nat) (o : Oper), ops[i]? = some o → ∀ c, o.op ≠ .defer c) (hout : ¬ LetsOut Q) {i : Nat} {K : Act → World → Prop} {a : Act} {w : World} (h : wpOp P ops Q i K a w) : wpOpIn (Fence.wide.inRound l) 0 P ops Q i K a w := by
  unfold wpOp at h
  unfold wpOpIn
  cases hi : ops[i]? with
  | none => simpa only [hi] using h
  | some o =>
    simp only [hi] at h ⊢
    by_cases hw : Region.wanted o (yielded ops a.tmps) = true
    · rw [if_pos hw] at h ⊢
      rcases h with h | h
      · refine ⟨fun _ _ => trivial, ?_⟩
        unfold Oper.wp at h
        rw [Oper.semAt_eq _ _ _ (hd i o hi)]
        generalize (execOp a.eval o).run P w = r at h ⊢
        cases r with
        | ok x w' =>
          cases x with
          | value v => exact h
          | skip => exact h
          | defer d => exact h
          | enter f args => exact ⟨fun h => by simp [Fence.wide] at h, callsIn_wide.2 h⟩
          | row row args => exact ⟨fun h => by simp [Fence.wide] at h, fun cc cs _ => by obtain ⟨v, w2, hR, hs⟩ := h cc cs; exact ⟨v, w2, hR, stepsIn_wide.2 hs⟩⟩
          | _ => exact (h : False).elim
        | halt x w' => cases x <;> exact h
      · exact absurd h.2 hout
    · rw [if_neg hw] at h ⊢
      exact ⟨fun _ _ => trivial, h⟩
theorem wpAnyIn_round (hd : ∀ (i : Nat) (o : Oper), ops[i]? = some o → ∀ c, o.op ≠ .defer c) (hout : ¬ LetsOut Q) {md : Region.Mode} : ∀ (fuel : Nat) (listed : Array Bool) (a : Act) (w : World), wpAny P md ops Q fuel listed a w → wpAnyIn (Fence.wide.inRound l) 0 P md ops Q fuel listed a w
  | 0, _, _, _, h => h
  | fuel + 1, _, _, _, h => ⟨h.1, fun i hi => wpOpIn_mono (fun a w h => wpAnyIn_round hd hout fuel _ a w h) (wpOpIn_round hd hout (h.2 i hi))⟩
def noDefer (ops : Array Oper) : Bool := ops.all fun o => match o.op with | .defer _ => false | _ => true
theorem noDefer_spec (h : noDefer ops = true) : ∀ (i : Nat) (o : Oper), ops[i]? = some o → ∀ c, o.op ≠ .defer c := by
  intro i o hi c hc
  obtain ⟨hlt, rfl⟩ := Array.getElem?_eq_some_iff.1 hi
  have := Array.all_eq_true.1 h i hlt
  rw [hc] at this
  cases this
/-- A region that draws, in a round, by a plan. -/
theorem wp_region_plan_in (p : Plan) {id : Nat} {a : Act} {w : World} (hm : P.follows .mixedOrders = true) (hs : Region.noSelect ops = true) (hp : p.ok ops false ops.size (Array.replicate ops.size false) = true) (hd : noDefer ops = true) (hout : ¬ LetsOut Q)
    (h : p.wp P ops Q a w.drew) : (Code.region id ops true).wpIn (Fence.wide.inRound l) 0 P Q a w :=
  wpIn_mono (wpIn_region_any hm (wpAnyIn_round (Q := NoPanic Q) (noDefer_spec hd) (fun ⟨a, w, h⟩ => hout ⟨a, w, h⟩) _ _ _ _ (wpAny_of_R _ _ _ _ ((Plan.sound hs p false _ _ a _ hp h).1 rfl)))) NoPanic.imp
end
end Go.Proofs.Lime
