/- A tree of the call's own: each node's kids in a block of its own, apart from all others. No conditions. -/
import Derived.Test.YtclhmgchllenlaaMA
import Derived.Test.YtclhmgchllenlaaDfi
namespace Go.Proofs.Lime
open Go.RowKit
set_option linter.unusedVariables false
set_option linter.unusedSimpArgs false

/-- A slice's value. -/
structure SV where
  a : Option Addr
  n : Nat
  c : Nat
abbrev SV.val (s : SV) : Value := .slice s.a s.n s.c
/-- A node, and where its kids and attributes lie. -/
structure Nv where
  x : Nd
  kv : SV
  av : SV
def Nv.cells (p : Nv) : List Value := [.int .i64 p.x.kind, .int .i64 p.x.tag, .int .i64 p.x.parent, p.kv.val, .int .i64 p.x.host, .int .i64 p.x.root, p.av.val]
def nvK : Kd Nv := Kd.flat 7 Nv.cells (fun _ => rfl) (fun x u hu => by
  simp only [Nv.cells, List.mem_cons, List.not_mem_nil, or_false] at hu
  rcases hu with rfl | rfl | rfl | rfl | rfl | rfl | rfl <;> rfl)
theorem infoNode : (Try.prog.info? 49).map (fun i => (i.zero, i.size, i.bytes)) = some (some (.agg #[.int .i64 0, .int .i64 0, .int .i64 0, .slice none 0 0, .int .i64 0, .int .i64 0, .slice none 0 0]), 7, 88) := by kernel_rfl
theorem infoAttr : (Try.prog.info? 65).map (fun i => (i.zero, i.size, i.bytes)) = some (some (.agg #[.int .i64 0, .int .i64 0]), 2, 16) := by kernel_rfl
theorem flat_at {α : Type} (f : α → List Value) (n : Nat) (hn : ∀ x, (f x).length = n) : ∀ (xs : List α) (j : Nat) (hj : j < xs.length) (i : Nat), i < n → (xs.flatMap f)[j * n + i]? = (f xs[j])[i]?
  | [], j, hj, _, _ => by simp at hj
  | x :: xs, 0, _, i, hi => by
    rw [List.flatMap_cons, Nat.zero_mul, Nat.zero_add, List.getElem_cons_zero, List.getElem?_append_left (by rw [hn]; exact hi)]
  | x :: xs, j + 1, hj, i, hi => by
    have h1 : (f x).length ≤ (j + 1) * n + i := by rw [hn, Nat.succ_mul]; omega
    rw [List.flatMap_cons, List.getElem?_append_right h1, hn, List.getElem_cons_succ]
    rw [show (j + 1) * n + i - n = j * n + i by rw [Nat.succ_mul]; omega]
    exact flat_at f n hn xs j (by simpa using hj) i hi
theorem flat_len (L : List Nv) : (L.flatMap Nv.cells).length = L.length * 7 := by
  induction L with
  | nil => rfl
  | cons x L ih => rw [List.flatMap_cons, List.length_append, ih, List.length_cons]; simp only [Nv.cells, List.length_cons, List.length_nil]; omega
theorem own_nv {e : TypeId} {S : Nat → Prop} {w : World} {v : Value} {L : List Nv} (h : Own nvK e S w v L) : w.ownsRow 0 e 7 v L.length (L.flatMap Nv.cells) := by
  obtain ⟨hb, inner, ho, he⟩ := h
  have : inner = L.flatMap Nv.cells := by
    apply List.ext_getElem?
    intro k
    have hil : inner.length = L.length * 7 := ho.1
    by_cases hk : k < L.length * 7
    · obtain ⟨cs, hK, hc⟩ := he (k / 7) (by omega)
      have hK' : cs = Nv.cells L[k / 7] := hK
      subst hK'
      have h1 : k % 7 < (L[k / 7].cells).length := by simp [Nv.cells]; omega
      have h2 := hc (k % 7) _ (List.getElem?_eq_getElem h1)
      have h3 := flat_at Nv.cells 7 (fun _ => rfl) L (k / 7) (by omega) (k % 7) (by omega)
      have e1 : k / 7 * nvK.sz + k % 7 = k := by show k / 7 * 7 + k % 7 = k; omega
      have e2 : k / 7 * 7 + k % 7 = k := by omega
      rw [e1] at h2
      rw [e2] at h3
      rw [h2, h3]
      exact (List.getElem?_eq_getElem h1).symm
    · rw [List.getElem?_eq_none (by omega), List.getElem?_eq_none (by rw [flat_len]; omega)]
  rw [← this]
  exact ho
theorem own_of_nv {e : TypeId} {S : Nat → Prop} {w : World} {v : Value} {L : List Nv} (h : w.ownsRow 0 e 7 v L.length (L.flatMap Nv.cells)) (hS : ∀ k, v.ownBlock = some k → S k) : Own nvK e S w v L :=
  ⟨hS, _, h, fun j hj => ⟨_, rfl, fun i u hi => by
    have h1 : i < 7 := (List.getElem?_eq_some_iff.1 hi).1
    have := flat_at Nv.cells 7 (fun _ => rfl) L j hj i h1
    show (L.flatMap Nv.cells)[j * 7 + i]? = some u
    rw [this]
    exact hi⟩⟩
theorem flat_set {L : List Nv} {i j : Nat} (hi : i < L.length) (hj : j < 7) {u : Value} {y : Nv} (hy : y.cells = L[i].cells.set j u) : (L.set i y).flatMap Nv.cells = (L.flatMap Nv.cells).set (i * 7 + j) u := by
  apply List.ext_getElem?
  intro k
  by_cases hk : k < L.length * 7
  · have e2 : k / 7 * 7 + k % 7 = k := by omega
    have h1 := flat_at Nv.cells 7 (fun _ => rfl) (L.set i y) (k / 7) (by rw [List.length_set]; omega) (k % 7) (by omega)
    have h2 := flat_at Nv.cells 7 (fun _ => rfl) L (k / 7) (by omega) (k % 7) (by omega)
    rw [e2] at h1 h2
    rw [h1, List.getElem?_set]
    by_cases hki : i = k / 7
    · subst hki
      rw [List.getElem_set_self, hy, List.getElem?_set]
      by_cases hkj : j = k % 7
      · subst hkj
        have hlc : (L[k / 7].cells).length = 7 := rfl
        rw [if_pos rfl, if_pos (by omega), if_pos (by omega), if_pos (by rw [flat_len]; omega)]
      · rw [if_neg hkj, if_neg (by omega), h2]
    · rw [List.getElem_set_ne hki, if_neg (by omega), h2]
  · rw [List.getElem?_eq_none (by rw [flat_len, List.length_set]; omega), List.getElem?_eq_none (by rw [List.length_set, flat_len]; omega)]
theorem ownsRow_put {W : World} {e : TypeId} {sz g cap n q : Nat} {vs : List Value} {u : Value} (h : W.ownsRow 0 e sz (.slice (some ⟨g, 0, none⟩) n cap) n vs) (hq : q < n * sz) : (W.setCell ⟨g, q, none⟩ u).ownsRow 0 e sz (.slice (some ⟨g, 0, none⟩) n cap) n (vs.set q u) := by
  obtain ⟨hl, hv⟩ := h
  refine ⟨by rw [List.length_set]; exact hl, ?_⟩
  rcases hv with ⟨h0, _⟩ | ⟨g', cap', cur, e', hb, hg, hnc, hcm, hcs, htake⟩
  · cases h0
  · injection e' with e1 e2 e3
    injection e1 with e1
    injection e1 with e1
    subst e1 e3
    refine .inr ⟨g, cap, cur.setIfInBounds q u, rfl, hb, blk_set hg q u, hnc, hcm, by rw [Array.size_setIfInBounds]; exact hcs, ?_⟩
    rw [Array.toList_setIfInBounds, List.take_set, htake]
/-- A cell of one's own row of nodes written. -/
theorem Own.put7 {W : World} {e : TypeId} {S : Nat → Prop} {g n c : Nat} {L : List Nv} (hn : L.length = n) (ho : Own nvK e S W (.slice (some ⟨g, 0, none⟩) n c) L) {i : Nat} (hi : i < L.length) {j : Nat} (hj : j < 7) {u : Value} {y : Nv} (hy : y.cells = L[i].cells.set j u) :
    Own nvK e S (W.setCell ⟨g, i * 7 + j, none⟩ u) (.slice (some ⟨g, 0, none⟩) n c) (L.set i y) := by
  subst hn
  refine own_of_nv ?_ ho.blk
  rw [List.length_set, flat_set hi hj hy]
  exact ownsRow_put (own_nv ho) (by omega)
/-- Where a node of one's own row lies. -/
structure NvAt (W : World) (g i : Nat) (p : Nv) : Prop where mk ::
  c0 : W.cell? ⟨g, i * 7, none⟩ = some (.int .i64 p.x.kind)
  c1 : W.cell? ⟨g, i * 7 + 1, none⟩ = some (.int .i64 p.x.tag)
  c2 : W.cell? ⟨g, i * 7 + 2, none⟩ = some (.int .i64 p.x.parent)
  c3 : W.cell? ⟨g, i * 7 + 3, none⟩ = some p.kv.val
  c4 : W.cell? ⟨g, i * 7 + 4, none⟩ = some (.int .i64 p.x.host)
  c5 : W.cell? ⟨g, i * 7 + 5, none⟩ = some (.int .i64 p.x.root)
  c6 : W.cell? ⟨g, i * 7 + 6, none⟩ = some p.av.val
  fz : ∀ o, W.frozen? ⟨g, o, none⟩ = false
theorem Own.at7 {W : World} {e : TypeId} {S : Nat → Prop} {v : Value} {L : List Nv} (ho : Own nvK e S W v L) (h0 : 0 < L.length) : ∃ g c, v = .slice (some ⟨g, 0, none⟩) L.length c ∧ v.ownBlock = some g ∧ S g ∧ g < W.heap.size ∧ L.length ≤ c ∧ c ≤ 9223372036854775807 ∧ (∃ cur, W.heap[g]? = some (.cells cur e (0, 0)) ∧ ∀ i (hi : i < L.length) j u, j < 7 → (L[i].cells)[j]? = some u → cur[i * 7 + j]? = some u) ∧ ∀ i (hi : i < L.length), NvAt W g i L[i] := by
  have h := own_nv ho
  have hS := ho.blk
  obtain ⟨hl, hv⟩ := h
  rcases hv with ⟨_, h0⟩ | ⟨g, cap, cur, rfl, _, hg, hnc, hcm, hcs, htake⟩
  · omega
  · simp only [maxLen] at hcm
    have hcur : ∀ i (hi : i < L.length) j u, j < 7 → (L[i].cells)[j]? = some u → cur[i * 7 + j]? = some u := fun i hi j u hj hu => by
      have h1 := flat_at Nv.cells 7 (fun _ => rfl) L i hi j hj
      rw [hu, ← htake, List.getElem?_take, if_pos (by omega)] at h1
      simpa using h1
    refine ⟨g, cap, rfl, rfl, hS g rfl, (Array.getElem?_eq_some_iff.1 hg).1, hnc, by omega, ⟨cur, hg, hcur⟩, fun i hi => ?_⟩
    have key : ∀ j u, j < 7 → (L[i].cells)[j]? = some u → W.cell? ⟨g, i * 7 + j, none⟩ = some u := fun j u hj hu => by
      have h1 := flat_at Nv.cells 7 (fun _ => rfl) L i hi j hj
      rw [hu, ← htake, List.getElem?_take, if_pos (by omega)] at h1
      simp only [World.cell?, hg]
      simpa using h1
    refine ⟨key 0 _ (by omega) rfl, key 1 _ (by omega) rfl, key 2 _ (by omega) rfl, key 3 _ (by omega) rfl, key 4 _ (by omega) rfl, key 5 _ (by omega) rfl, key 6 _ (by omega) rfl, fun o => ?_⟩
    simp [World.frozen?, hg]
theorem inC {w : World} {B : Nat} {cs : Array Value} {t : TypeId} (h : w.heap[B]? = some (.cells cs t (0, 0))) (i : Nat) (u : Value) (hu : cs[i]? = some u) : w.cell? ⟨B, i, none⟩ = some u ∧ w.frozen? ⟨B, i, none⟩ = false := by
  refine ⟨by simp only [World.cell?, h]; simpa using hu, ?_⟩
  simp [World.frozen?, h]
theorem Own.tight7 {e : TypeId} {S : Nat → Prop} {w : World} {v : Value} {L : List Nv} (h : Own nvK e S w v L) (S' : Nat → Prop) (hS : ∀ k, v.ownBlock = some k → S' k) : Own nvK e S' w v L := own_of_nv (own_nv h) hS
theorem Own.tight {e : TypeId} {S : Nat → Prop} {w : World} {v : Value} {xs : List Int} (h : Own intK e S w v xs) : Own intK e (fun k => v.ownBlock = some k) w v xs := own_of_ints (own_ints h) fun k hk => hk
theorem Own.to {e : TypeId} {S S' : Nat → Prop} {w : World} {v : Value} {xs : List Int} (h : Own intK e S w v xs) (hS : ∀ k, v.ownBlock = some k → S' k) : Own intK e S' w v xs := own_of_ints (own_ints h) hS
/-- v: the row of nodes; L: its nodes. The kids and attributes of the first m are of the call's own, from base on, and apart; those of the others are read (in R). -/
structure Grove (base : Nat) (R : Nat → Prop) (m : Nat) (W : World) (v : Value) (L : List Nv) : Prop where mk ::
  out : Own nvK 49 (fun k => base ≤ k) W v L
  kid : ∀ i (h : i < L.length), i < m → Own intK 3 (fun k => base ≤ k ∧ v.ownBlock ≠ some k) W L[i].kv.val L[i].x.kids
  att : ∀ i (h : i < L.length), i < m → Row attrK (fun k => base ≤ k ∧ v.ownBlock ≠ some k ∧ ∀ j (hj : j < L.length), j < m → L[j].kv.val.ownBlock ≠ some k) W L[i].av.val L[i].x.attrs
  rest : ∀ i (h : i < L.length), m ≤ i → Row intK R W L[i].kv.val L[i].x.kids ∧ Row attrK R W L[i].av.val L[i].x.attrs
  apart : ∀ i j (hi : i < L.length) (hj : j < L.length), i < m → j < m → i ≠ j → ∀ k, L[i].kv.val.ownBlock = some k → L[j].kv.val.ownBlock ≠ some k
section
variable {base m : Nat} {R : Nat → Prop} {W W2 : World} {v : Value} {L : List Nv}
theorem Grove.stp (G : Grove base R m W v L) (h : Stp W W2) : Grove base R m W2 v L :=
  ⟨G.out.stp h, fun i hi hm => (G.kid i hi hm).stp h, fun i hi hm => (G.att i hi hm).stp h, fun i hi hm => ⟨(G.rest i hi hm).1.stp h, (G.rest i hi hm).2.stp h⟩, G.apart⟩
theorem Grove.reads (G : Grove base R m W v L) (hm : L.length ≤ m) : Row nodeK (fun k => base ≤ k) W v (L.map Nv.x) := by
  have hl : (L.map Nv.x).length = L.length := by simp
  refine ⟨by rw [hl]; exact G.out.reads.form, fun j hj => ?_⟩
  rw [hl] at hj
  obtain ⟨b, o, c, cs, e, hS, hb, hK, hc⟩ := G.out.reads.get j hj
  have hK' : cs = Nv.cells L[j] := hK
  refine ⟨b, o, c, cs, by rw [hl]; exact e, hS, hb, ⟨L[j].kv.val, L[j].av.val, by rw [hK']; simp [Nv.cells], ?_, ?_⟩, hc⟩
  · simpa using (G.kid j hj (by omega)).reads.mono fun k hk => hk.1
  · simpa using (G.att j hj (by omega)).mono fun k hk => hk.1
/-- A node is another one now, of another list of kids. -/
theorem Grove.upd (G : Grove base R m W v L) (hm : L.length ≤ m) {i : Nat} (hi : i < L.length) {y : Nv}
    (hout : Own nvK 49 (fun k => base ≤ k) W2 v (L.set i y)) (hk : Kpt (fun k => v.ownBlock = some k ∨ L[i].kv.val.ownBlock = some k) W W2) (hb : base ≤ W.heap.size)
    (hy : Own intK 3 (fun k => L[i].kv.val.ownBlock = some k ∨ W.heap.size ≤ k) W2 y.kv.val y.x.kids) (ha : y.av = L[i].av ∧ y.x.attrs = L[i].x.attrs) : Grove base R m W2 v (L.set i y) := by
  have hvl : ∀ k, v.ownBlock = some k → k < W.heap.size := fun k h => own_lt (own_nv G.out) k h
  have hyb : ∀ k, y.kv.val.ownBlock = some k → base ≤ k ∧ v.ownBlock ≠ some k := fun k hk' => by
    rcases hy.blk k hk' with h | h
    · exact (G.kid i hi (by omega)).blk k h
    · exact ⟨by omega, fun e => by have := hvl k e; omega⟩
  have hkl : ∀ j (hj : j < L.length) k, L[j].kv.val.ownBlock = some k → k < W.heap.size := fun j hj k h => own_lt (own_ints (G.kid j hj (by omega))) k h
  refine ⟨hout, fun j hj hjm => ?_, fun j hj hjm => ?_, fun j hj hjm => by rw [List.length_set] at hj; omega, fun j l hj hl hjm hlm hne k hk' => ?_⟩
  · rw [List.length_set] at hj
    by_cases hji : i = j
    · subst hji
      rw [List.getElem_set_self]
      exact hy.to hyb
    · simp only [List.getElem_set_ne hji]
      have h1 := G.kid j hj (by omega)
      refine (h1.tight.kpt hk fun k hk' _ h => ?_).to h1.blk
      rcases h with h | h
      · exact (h1.blk k hk').2 h
      · exact G.apart i j hi hj (by omega) (by omega) hji k h hk'
  · rw [List.length_set] at hj
    have h1 := (G.att j hj (by omega)).bound
    have h2 : Row attrK (fun k => base ≤ k ∧ v.ownBlock ≠ some k ∧ ∀ l (hl : l < (L.set i y).length), l < m → (L.set i y)[l].kv.val.ownBlock ≠ some k) W2 L[j].av.val L[j].x.attrs := by
      refine (h1.kpt hk fun k hk' _ h => ?_).mono fun k hk' => ⟨hk'.1.1, hk'.1.2.1, fun l hl hlm => ?_⟩
      · rcases h with h | h
        · exact hk'.1.2.1 h
        · exact hk'.1.2.2 i hi (by omega) h
      · rw [List.length_set] at hl
        by_cases hli : i = l
        · subst hli
          rw [List.getElem_set_self]
          intro e
          rcases hy.blk k e with h | h
          · exact hk'.1.2.2 i hi (by omega) h
          · have := hk'.2; omega
        · simp only [List.getElem_set_ne hli]
          exact hk'.1.2.2 l hl (by omega)
    by_cases hji : i = j
    · subst hji
      rw [List.getElem_set_self, ha.1, ha.2]
      exact h2
    · simp only [List.getElem_set_ne hji]
      exact h2
  · rw [List.length_set] at hj hl
    by_cases hji : i = j
    · subst hji
      rw [List.getElem_set_self] at hk'
      simp only [List.getElem_set_ne hne]
      intro h2
      rcases hy.blk k hk' with h | h
      · exact G.apart i l hi hl (by omega) (by omega) hne k h h2
      · have := hkl l hl k h2; omega
    · simp only [List.getElem_set_ne hji] at hk'
      by_cases hli : i = l
      · subst hli
        rw [List.getElem_set_self]
        intro h2
        rcases hy.blk k h2 with h | h
        · exact G.apart j i hj hi (by omega) (by omega) hne k hk' h
        · have := hkl j hj k hk'; omega
      · simp only [List.getElem_set_ne hli]
        exact G.apart j l hj hl (by omega) (by omega) hne k hk'
/-- A node's numbers are others now. -/
theorem Grove.num (G : Grove base R m W v L) (hm : L.length ≤ m) {i : Nat} (hi : i < L.length) {y : Nv}
    (hout : Own nvK 49 (fun k => base ≤ k) W2 v (L.set i y)) (hk : Kpt (fun k => v.ownBlock = some k) W W2) (hb : base ≤ W.heap.size)
    (hy : y.kv = L[i].kv ∧ y.x.kids = L[i].x.kids) (ha : y.av = L[i].av ∧ y.x.attrs = L[i].x.attrs) : Grove base R m W2 v (L.set i y) := by
  refine G.upd hm hi hout (hk.mono fun x hx => .inl (.inl hx)) hb ?_ ha
  rw [hy.1, hy.2]
  have h1 := G.kid i hi (by omega)
  exact (h1.kpt hk fun k hk' _ e => hk'.2 e).to fun k h => .inl h
/-- One node more is copied. -/
theorem Grove.step (G : Grove base R m W v L) (hi : m < L.length) {y : Nv} (hout : Own nvK 49 (fun k => base ≤ k) W2 v (L.set m y)) (hk : Kpt (fun k => v.ownBlock = some k) W W2) (hb : base ≤ W.heap.size) (hR : ∀ k, R k → k < base)
    (hy : Own intK 3 (fun k => W.heap.size ≤ k) W2 y.kv.val y.x.kids) (ha : Row attrK (fun k => W.heap.size ≤ k ∧ y.kv.val.ownBlock ≠ some k) W2 y.av.val y.x.attrs) : Grove base R (m + 1) W2 v (L.set m y) := by
  have hvl : ∀ k, v.ownBlock = some k → base ≤ k ∧ k < W.heap.size := fun k h => ⟨G.out.blk k h, own_lt (own_nv G.out) k h⟩
  have hkl : ∀ j (hj : j < L.length), j < m → ∀ k, L[j].kv.val.ownBlock = some k → k < W.heap.size := fun j hj hjm k h => own_lt (own_ints (G.kid j hj hjm)) k h
  refine ⟨hout, fun j hj hjm => ?_, fun j hj hjm => ?_, fun j hj hjm => ?_, fun j l hj hl hjm hlm hne k hk' => ?_⟩
  · rw [List.length_set] at hj
    by_cases hji : m = j
    · subst hji
      rw [List.getElem_set_self]
      exact hy.to fun k hk' => ⟨by have := hy.blk k hk'; omega, fun e => by have := hy.blk k hk'; have := hvl k e; omega⟩
    · simp only [List.getElem_set_ne hji]
      have h1 := G.kid j hj (by omega)
      exact h1.kpt hk fun k hk' _ e => hk'.2 e
  · rw [List.length_set] at hj
    by_cases hji : m = j
    · subst hji
      rw [List.getElem_set_self]
      refine ha.mono fun k hk' => ⟨by omega, fun e => by have := hvl k e; omega, fun l hl hlm => ?_⟩
      rw [List.length_set] at hl
      by_cases hli : m = l
      · subst hli
        rw [List.getElem_set_self]
        exact hk'.2
      · simp only [List.getElem_set_ne hli]
        intro e
        have := hkl l hl (by omega) k e
        omega
    · simp only [List.getElem_set_ne hji]
      refine ((G.att j hj (by omega)).bound.kpt hk fun k hk' _ e => hk'.1.2.1 e).mono fun k hk' => ⟨hk'.1.1, hk'.1.2.1, fun l hl hlm => ?_⟩
      rw [List.length_set] at hl
      by_cases hli : m = l
      · subst hli
        rw [List.getElem_set_self]
        intro e
        have h1 := hy.blk k e
        have h2 := hk'.2
        omega
      · simp only [List.getElem_set_ne hli]
        exact hk'.1.2.2 l hl (by omega)
  · rw [List.length_set] at hj
    simp only [List.getElem_set_ne (show m ≠ j by omega)]
    have h1 := G.rest j hj (by omega)
    exact ⟨h1.1.kpt hk fun k hk' _ e => by have := hR k hk'; have := hvl k e; omega, h1.2.kpt hk fun k hk' _ e => by have := hR k hk'; have := hvl k e; omega⟩
  · rw [List.length_set] at hj hl
    by_cases hji : m = j
    · subst hji
      rw [List.getElem_set_self] at hk'
      simp only [List.getElem_set_ne hne]
      intro h2
      have h3 := hy.blk k hk'
      have h4 := hkl l hl (by omega) k h2
      omega
    · simp only [List.getElem_set_ne hji] at hk'
      by_cases hli : m = l
      · subst hli
        rw [List.getElem_set_self]
        intro h2
        have h3 := hy.blk k h2
        have h4 := hkl j hj (by omega) k hk'
        omega
      · simp only [List.getElem_set_ne hli]
        exact G.apart j l hj hl (by omega) (by omega) hne k hk'
/-- A new node behind all, without kids and attributes. -/
theorem Grove.push (G : Grove base R m W v L) (hm : L.length ≤ m) {v2 : Value} {y : Nv} (hout : Own nvK 49 (fun k => base ≤ k) W2 v2 (L ++ [y])) (hk : W.grownBy W2 v.ownBlock) (hv2 : ∀ k, v2.ownBlock = some k → v.ownBlock = some k ∨ W.heap.size ≤ k)
    (hy : y.kv = ⟨none, 0, 0⟩ ∧ y.x.kids = [] ∧ y.av = ⟨none, 0, 0⟩ ∧ y.x.attrs = []) : Grove base R (L.length + 1) W2 v2 (L ++ [y]) := by
  have hkp : Kpt (fun b => v.ownBlock = some b) W W2 := Kpt.of_grown hk fun k h => h
  have hyk : ∀ k, y.kv.val.ownBlock ≠ some k := fun k => by rw [hy.1]; simp [Value.ownBlock]
  refine ⟨hout, fun i hi him => ?_, fun i hi him => ?_, fun i hi h => by rw [List.length_append] at hi; simp at hi; omega, fun i j hi hj him hjm hne k h1 h2 => ?_⟩
  · by_cases h : i < L.length
    · simp only [List.getElem_append_left h]
      have h0 := G.kid i h (by omega)
      refine (h0.kpt hkp fun k hk' _ e => hk'.2 e).to fun k hk' => ?_
      have h1 := h0.blk k hk'
      have h2 := own_lt (own_ints h0) k hk'
      exact ⟨h1.1, fun e => (hv2 k e).elim h1.2 (fun h3 => by omega)⟩
    · rw [List.length_append, List.length_singleton] at hi
      obtain rfl : i = L.length := by omega
      simp only [List.getElem_append_right (Nat.le_refl _), Nat.sub_self, List.getElem_cons_zero]
      rw [hy.1, hy.2.1]
      exact Own.nil _ _ _ _
  · by_cases h : i < L.length
    · simp only [List.getElem_append_left h]
      refine ((G.att i h (by omega)).bound.kpt hkp fun k hk' _ e => hk'.1.2.1 e).mono fun k hk' => ⟨hk'.1.1, fun e => (hv2 k e).elim hk'.1.2.1 (fun h3 => by have := hk'.2; omega), fun j hj hjm => ?_⟩
      by_cases h' : j < L.length
      · simp only [List.getElem_append_left h']
        exact hk'.1.2.2 j h' (by omega)
      · rw [List.length_append, List.length_singleton] at hj
        obtain rfl : j = L.length := by omega
        simp only [List.getElem_append_right (Nat.le_refl _), Nat.sub_self, List.getElem_cons_zero]
        exact hyk k
    · rw [List.length_append, List.length_singleton] at hi
      obtain rfl : i = L.length := by omega
      simp only [List.getElem_append_right (Nat.le_refl _), Nat.sub_self, List.getElem_cons_zero]
      rw [hy.2.2.1, hy.2.2.2]
      exact Row.nil _ _ _
  · rw [List.length_append, List.length_singleton] at hi hj
    by_cases h : i < L.length
    · simp only [List.getElem_append_left h] at h1
      by_cases h' : j < L.length
      · simp only [List.getElem_append_left h'] at h2
        exact G.apart i j h h' (by omega) (by omega) hne k h1 h2
      · obtain rfl : j = L.length := by omega
        simp only [List.getElem_append_right (Nat.le_refl _), Nat.sub_self, List.getElem_cons_zero] at h2
        exact hyk k h2
    · obtain rfl : i = L.length := by omega
      simp only [List.getElem_append_right (Nat.le_refl _), Nat.sub_self, List.getElem_cons_zero] at h1
      exact hyk k h1
end
/-- A row of nodes that is read, with its slices' values. -/
theorem nv_of_row {S : Nat → Prop} {w : World} {v : Value} {t : List Nd} (h : Row nodeK S w v t) : ∃ L : List Nv, L.map Nv.x = t ∧ Row nvK S w v L ∧ ∀ i (hi : i < L.length), Row intK S w L[i].kv.val L[i].x.kids ∧ Row attrK S w L[i].av.val L[i].x.attrs := by
  have key : ∀ j : Fin t.length, ∃ p : Nv, p.x = t[j] ∧ (∃ b o c, v = .slice (some ⟨b, o, none⟩) t.length c ∧ S b ∧ b < w.heap.size ∧ ∀ i u, p.cells[i]? = some u → w.cell? ⟨b, o + j.1 * 7 + i, none⟩ = some u) ∧ Row intK S w p.kv.val p.x.kids ∧ Row attrK S w p.av.val p.x.attrs := fun j => by
    obtain ⟨b, o, c, cs, e, hS, hb, ⟨vk, va, rfl, hk, ha⟩, hc⟩ := h.get j.1 j.2
    obtain ⟨Ak, ck, rfl, _, _⟩ := hk.form
    obtain ⟨Aa, ca, rfl, _, _⟩ := ha.form
    exact ⟨⟨t[j], ⟨Ak, _, ck⟩, ⟨Aa, _, ca⟩⟩, rfl, ⟨b, o, c, e, hS, hb, hc⟩, hk, ha⟩
  refine ⟨List.ofFn fun j => Classical.choose (key j), ?_, ⟨?_, fun j hj => ?_⟩, fun i hi => ?_⟩
  · apply List.ext_getElem
    · simp
    · intro i h1 h2
      simp only [List.getElem_map, List.getElem_ofFn]
      exact (Classical.choose_spec (key ⟨i, h2⟩)).1
  · rw [List.length_ofFn]
    exact h.form
  · rw [List.length_ofFn] at hj
    obtain ⟨_, ⟨b, o, c, e, hS, hb, hc⟩, _⟩ := Classical.choose_spec (key ⟨j, hj⟩)
    refine ⟨b, o, c, _, by rw [List.length_ofFn]; exact e, hS, hb, rfl, fun i u hi => hc i u ?_⟩
    simpa using hi
  · rw [List.length_ofFn] at hi
    have := (Classical.choose_spec (key ⟨i, hi⟩)).2.2
    simpa using this
end Go.Proofs.Lime
