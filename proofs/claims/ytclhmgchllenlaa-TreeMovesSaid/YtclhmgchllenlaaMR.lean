/- Walks: the document's copy of a tree, and a list without a number; what is written into an own tree. No conditions. Walk: the document's Remove. No conditions. Walks: the document's Above and wrong. No conditions. A list, a number put ahead of another one, as the document builds it. No conditions. Walk: the document's Insert. No conditions. -/
import Derived.Test.YtclhmgchllenlaaTmk
import Derived.Test.YtclhmgchllenlaaTtk
import Derived.Test.YtclhmgchllenlaaTin
import Derived.Test.YtclhmgchllenlaaMay
import Derived.Test.YtclhmgchllenlaaTwr
import Derived.Test.YtclhmgchllenlaaPres
namespace Go.Proofs.Lime
open Go.RowKit
set_option linter.unusedVariables false
set_option linter.unusedSimpArgs false
attribute [local go_sem] Oper.semAt_some
theorem outI_snoc (n : Int) (l : List Int) (x : Int) : outI n (l ++ [x]) = if x = n then outI n l else outI n l ++ [x] := by
  unfold outI
  rw [List.filter_append]
  split
  · rename_i h; subst h; simp
  · rename_i h; simp [h]
set_option maxRecDepth 100000 in
set_option maxHeartbeats 4000000 in
theorem rwithout_c {S : Nat → Prop} {w : World} {v : Value} {xs : List Int} (hr : Row intK S w v xs) (hl : xs.length ≤ 100000) (n : Int) :
    Calls Try.prog 38 #[v, .int .i64 n] w fun e w' => ∃ u, e = .returned u ∧ Own intK 3 (fun k => w.heap.size ≤ k) w' u (outI n xs) ∧ Stp w w' := by
  obtain ⟨A, cv, rfl, hc, hm⟩ := hr.form
  go_enter Try.func38, Try.ntmps38
  go_wp2
  go_loopg [5, 6] xs.length (fun gg s5 s6 W' => ∃ (i : Nat) (ys : List Int), xs.length - i ≤ gg ∧ s6 = .int .i64 i ∧ i ≤ xs.length ∧ ys.length ≤ i ∧ Stp w W' ∧ Aside (Own intK 3 (fun k => w.heap.size ≤ k) W' s5 ys ∧ ys = outI n (xs.take i)))
  case atStart => exact ⟨0, [], by omega, rfl, Nat.zero_le _, Nat.le_refl _, (Stp.refl w).alloc _, Own.fresh _ _ _ w (Nat.le_refl _), rfl⟩
  case round =>
    obtain ⟨i, ys, hg, rfl, hi, hyl, hst, HA⟩ := hrel
    obtain ⟨ho, hys⟩ := HA.out
    clear HA
    by_cases hlt : i < xs.length
    · have hltz : (i : Int) < (xs.length : Int) := by omega
      obtain ⟨b, o, rfl, _, _, x0⟩ := int_at (hr.stp hst) i hlt
      have hT := Lib.hid (show outI n (xs.take (i + 1)) = if xs[i] = n then ys else ys ++ [xs[i]] by rw [List.take_succ_eq_append_getElem hlt, outI_snoc, ← hys])
      clear hys
      generalize xs[i] = x at x0 hT
      by_cases hx : x = n
      · have hE := Lib.hid (show outI n (xs.take (i + 1)) = ys by rw [hT.out, if_pos hx])
        have hxz : (x != n) = false := by simp [hx]
        clear hT hx
        go_wp2
        go_roundg (xs.length - (i + 1))
        case measure => omega
        case rel => exact ⟨i + 1, ys, Nat.le_refl _, by go_num, hlt, by omega, hst, ho, hE.out.symm⟩
      · have hE := Lib.hid (show outI n (xs.take (i + 1)) = ys ++ [x] by rw [hT.out, if_neg hx])
        have hxz : (x != n) = true := by simpa using hx
        clear hT hx
        obtain ⟨A5, c5, rfl, _, _⟩ := ho.reads.form
        go_wp2_with (at_builtin; refine wpl_append1 (d := intK) (S := fun k => w.heap.size ≤ k) (T := fun _ => False) rfl (.tmp 20) (.tmp 25) 46 3 _ 8 rfl Try.underlying46 infoInt rfl (by decide) (by decide) (.slice A5 ys.length c5) ys x [.int .i64 x] rfl rfl rfl (fun _ h => h.elim) ho (fun k hk => Nat.le_trans hst.size hk) (by omega) ?_; intro v1 w1 ho1 hg1; have hst1 : Stp w w1 := Stp.grown hst hg1 ho.blk)
        go_roundg (xs.length - (i + 1))
        case measure => omega
        case rel => exact ⟨i + 1, ys ++ [x], Nat.le_refl _, by go_num, hlt, by simp; omega, hst1, ho1, hE.out.symm⟩
    · have hltz : ¬ (i : Int) < (xs.length : Int) := by omega
      obtain rfl : i = xs.length := by omega
      rw [List.take_length] at hys
      have HS := Lib.hid hys
      clear hys
      go_wp2
      go_ret
      exact ⟨_, rfl, by rw [← HS.out]; exact ho, hst⟩
section
variable {base m : Nat} {R : Nat → Prop} {W W1 W2 : World} {v : Value} {L : List Nv}
/-- A new node behind all; its kids and attributes are new too. -/
theorem Grove.add (G : Grove base R m W v L) (hm : L.length ≤ m) (hst : Stp W W1) (hb : base ≤ W.heap.size) {v2 : Value} {y : Nv} (hout : Own nvK 49 (fun k => base ≤ k) W2 v2 (L ++ [y])) (hk : W1.grownBy W2 v.ownBlock) (hv2 : ∀ k, v2.ownBlock = some k → v.ownBlock = some k ∨ W1.heap.size ≤ k)
    (hy : Own intK 3 (fun k => W.heap.size ≤ k) W1 y.kv.val y.x.kids) (ha : Row attrK (fun k => W.heap.size ≤ k ∧ y.kv.val.ownBlock ≠ some k) W1 y.av.val y.x.attrs) : Grove base R (L.length + 1) W2 v2 (L ++ [y]) := by
  have hkp : Kpt (fun b => v.ownBlock = some b) W1 W2 := Kpt.of_grown hk fun k h => h
  have hvl : ∀ k, v.ownBlock = some k → k < W.heap.size := fun k h => own_lt (own_nv G.out) k h
  have hz := hst.size
  refine ⟨hout, fun i hi him => ?_, fun i hi him => ?_, fun i hi h => by rw [List.length_append] at hi; simp at hi; omega, fun i j hi hj him hjm hne k h1 h2 => ?_⟩
  · by_cases h : i < L.length
    · simp only [List.getElem_append_left h]
      have h0 := (G.kid i h (by omega)).stp hst
      refine (h0.kpt hkp fun k hk' _ e => hk'.2 e).to fun k hk' => ?_
      have h1 := h0.blk k hk'
      have h2 := own_lt (own_ints h0) k hk'
      exact ⟨h1.1, fun e => (hv2 k e).elim h1.2 (fun h3 => by omega)⟩
    · rw [List.length_append, List.length_singleton] at hi
      obtain rfl : i = L.length := by omega
      simp only [List.getElem_append_right (Nat.le_refl _), Nat.sub_self, List.getElem_cons_zero]
      refine (hy.kpt hkp fun k hk' _ e => by have := hvl k e; omega).to fun k hk' => ?_
      have h1 := hy.blk k hk'
      have h2 := own_lt (own_ints hy) k hk'
      exact ⟨by omega, fun e => (hv2 k e).elim (fun h3 => by have := hvl k h3; omega) (fun h3 => by omega)⟩
  · by_cases h : i < L.length
    · simp only [List.getElem_append_left h]
      refine (((G.att i h (by omega)).bound.stp hst).kpt hkp fun k hk' _ e => hk'.1.2.1 e).mono fun k hk' => ⟨hk'.1.1, fun e => (hv2 k e).elim hk'.1.2.1 (fun h3 => by have := hk'.2; omega), fun j hj hjm => ?_⟩
      by_cases h' : j < L.length
      · simp only [List.getElem_append_left h']
        exact hk'.1.2.2 j h' (by omega)
      · rw [List.length_append, List.length_singleton] at hj
        obtain rfl : j = L.length := by omega
        simp only [List.getElem_append_right (Nat.le_refl _), Nat.sub_self, List.getElem_cons_zero]
        intro e
        have h3 := hy.blk k e
        have := hk'.2
        omega
    · rw [List.length_append, List.length_singleton] at hi
      obtain rfl : i = L.length := by omega
      simp only [List.getElem_append_right (Nat.le_refl _), Nat.sub_self, List.getElem_cons_zero]
      refine (ha.bound.kpt hkp fun k hk' _ e => by have := hvl k e; have := hk'.1.1; omega).mono fun k hk' => ⟨by have := hk'.1.1; omega, fun e => (hv2 k e).elim (fun h3 => by have := hvl k h3; have := hk'.1.1; omega) (fun h3 => by have := hk'.2; omega), fun j hj hjm => ?_⟩
      by_cases h' : j < L.length
      · simp only [List.getElem_append_left h']
        intro e
        have h3 := own_lt (own_ints (G.kid j h' (by omega))) k e
        have := hk'.1.1
        omega
      · rw [List.length_append, List.length_singleton] at hj
        obtain rfl : j = L.length := by omega
        simp only [List.getElem_append_right (Nat.le_refl _), Nat.sub_self, List.getElem_cons_zero]
        exact hk'.1.2
  · rw [List.length_append, List.length_singleton] at hi hj
    by_cases h : i < L.length
    · simp only [List.getElem_append_left h] at h1
      by_cases h' : j < L.length
      · simp only [List.getElem_append_left h'] at h2
        exact G.apart i j h h' (by omega) (by omega) hne k h1 h2
      · obtain rfl : j = L.length := by omega
        simp only [List.getElem_append_right (Nat.le_refl _), Nat.sub_self, List.getElem_cons_zero] at h2
        have h3 := own_lt (own_ints (G.kid i h (by omega))) k h1
        have h4 := hy.blk k h2
        omega
    · obtain rfl : i = L.length := by omega
      simp only [List.getElem_append_right (Nat.le_refl _), Nat.sub_self, List.getElem_cons_zero] at h1
      have h' : j < L.length := by omega
      simp only [List.getElem_append_left h'] at h2
      have h3 := own_lt (own_ints (G.kid j h' (by omega))) k h2
      have h4 := hy.blk k h1
      omega
/-- A node's kids written: a new list. -/
theorem Grove.setK {g c n : Nat} (hn : L.length = n) (G : Grove base R m W (.slice (some ⟨g, 0, none⟩) n c) L) (hm : L.length ≤ m) {i : Nat} (hi : i < L.length) (hst : Stp W W1) (hb : base ≤ W.heap.size) {A : Option Addr} {cap : Nat} {ys : List Int} (hy : Own intK 3 (fun k => W.heap.size ≤ k) W1 (.slice A ys.length cap) ys) :
    Grove base R m (W1.setCell ⟨g, i * 7 + 3, none⟩ (.slice A ys.length cap)) (.slice (some ⟨g, 0, none⟩) n c) (L.set i ⟨L[i].x.kidsTo ys, ⟨A, ys.length, cap⟩, L[i].av⟩) := by
  subst hn
  have hgl : g < W.heap.size := own_lt (own_nv G.out) g rfl
  have hk : Kpt (fun k => k = g) W1 (W1.setCell ⟨g, i * 7 + 3, none⟩ (.slice A ys.length cap)) := kpt_store (Kpt.refl _ _) rfl
  have o3 := Own.put7 (j := 3) (u := .slice A ys.length cap) (y := ⟨L[i].x.kidsTo ys, ⟨A, ys.length, cap⟩, L[i].av⟩) rfl (G.out.stp hst) hi (by omega) rfl
  refine G.upd hm hi o3 ((Kpt.of_stp (O := fun k => (Value.slice (some ⟨g, 0, none⟩) L.length c).ownBlock = some k ∨ L[i].kv.val.ownBlock = some k) hst).trans hk fun x hx => .inl (.inl (by rw [hx]; rfl))) hb ?_ ⟨rfl, rfl⟩
  exact (hy.kpt hk fun k hk' _ e => by omega).to fun k hk' => .inr (hy.blk k hk')
/-- A node's parent written. -/
theorem Grove.setP {g c n : Nat} (hn : L.length = n) (G : Grove base R m W (.slice (some ⟨g, 0, none⟩) n c) L) (hm : L.length ≤ m) {i : Nat} (hi : i < L.length) (hb : base ≤ W.heap.size) (q : Int) :
    Grove base R m (W.setCell ⟨g, i * 7 + 2, none⟩ (.int .i64 q)) (.slice (some ⟨g, 0, none⟩) n c) (L.set i ⟨L[i].x.parTo q, L[i].kv, L[i].av⟩) := by
  subst hn
  have o8 := Own.put7 (j := 2) (u := .int .i64 q) (y := ⟨L[i].x.parTo q, L[i].kv, L[i].av⟩) rfl G.out hi (by omega) rfl
  exact G.num hm hi o8 (kpt_store (Kpt.refl _ _) rfl) hb ⟨rfl, rfl⟩ ⟨rfl, rfl⟩
end
set_option maxRecDepth 100000 in
set_option maxHeartbeats 8000000 in
theorem rcopy_c {S : Nat → Prop} {w : World} {v : Value} {t : List Nd} (hr : Row nodeK S w v t) (hok : okT t = true) :
    Calls Try.prog 16 #[v] w fun e w' => ∃ u, e = .returned u ∧ ∃ L, Grove w.heap.size (fun k => S k ∧ k < w.heap.size) L.length w' u L ∧ L.map Nv.x = t ∧ Stp w w' := by
  rw [okT_iff] at hok
  have hlt : t.length ≤ 1000 := hok.1
  have hkk : ∀ i (h : i < t.length), t[i].kids.length ≤ 1000 ∧ t[i].attrs.length ≤ 1000 := fun i h => hok.2 _ (List.getElem_mem h)
  obtain ⟨A, c, rfl, hc, hm⟩ := hr.form
  clear hok
  go_enter Try.func16, Try.ntmps16
  go_wp2
  go_loopg [3, 4] t.length (fun gg s3 s4 W' => ∃ (i : Nat) (L : List Nv), t.length - i ≤ gg ∧ s4 = .int .i64 i ∧ i ≤ t.length ∧ L.length = i ∧ Stp w W' ∧ Aside (Grove w.heap.size (fun k => S k ∧ k < w.heap.size) L.length W' s3 L ∧ L.map Nv.x = t.take i))
  case atStart => exact ⟨0, [], by omega, rfl, Nat.zero_le _, rfl, Stp.refl w, ⟨⟨Own.nil _ _ _ _, fun i h => absurd h (Nat.not_lt_zero i), fun i h => absurd h (Nat.not_lt_zero i), fun i h => absurd h (Nat.not_lt_zero i), fun i j h => absurd h (Nat.not_lt_zero i)⟩, by simp⟩⟩
  case round =>
    obtain ⟨i, L, hg, rfl, hi, hLl, hst, HA⟩ := hrel
    obtain ⟨G, hLx⟩ := HA.out
    clear HA
    have HLl := Lib.hid hLl
    by_cases hlt2 : i < t.length
    · have hltz : (i : Int) < (t.length : Int) := by omega
      obtain ⟨b, o, Ak, ck, Aa, ca, rfl, _, _, k0, k1, k2, k3, k4, k5, k6, rk, ra, _, _, _, _⟩ := node_at (hr.stp hst) i hlt2
      have hkl := hkk i hlt2
      have HT := Lib.hid (show t.take (i + 1) = t.take i ++ [t[i]] from List.take_succ_eq_append_getElem hlt2)
      have HLx := Lib.hid hLx
      have HG := Lib.hid G
      obtain ⟨A3, c3, rfl, _, _⟩ := G.out.reads.form
      have HGo := Lib.hid G.out
      clear hLx hLl G
      generalize hx : t[i] = x at k0 k1 k2 k3 k4 k5 k6 rk ra hkl HT
      have HX := Lib.hid hx
      clear hx hkk
      go_upto_region 6 with fail
      obtain ⟨wb, hwb, hsb, hzb, _⟩ := box_named wr #[.int .i64 x.kind, .int .i64 x.tag, .int .i64 x.parent, .slice Ak x.kids.length ck, .int .i64 x.host, .int .i64 x.root, .slice Aa x.attrs.length ca] 49
      have hB0 : wb.heap[wr.heap.size]? = some (.cells #[.int .i64 x.kind, .int .i64 x.tag, .int .i64 x.parent, .slice Ak x.kids.length ck, .int .i64 x.host, .int .i64 x.root, .slice Aa x.attrs.length ca] 49 (0, 0)) := by rw [← hwb]; exact World.alloc_heap_new wr _
      have HZB := Lib.hid hzb
      clear hzb
      rw [hwb]
      replace rk := rk.stp hsb
      have y3 := ((Stp.refl wb).alloc (.cells #[] 3)).cell (inC hB0 3 _ rfl).1
      clear hwb k0 k1 k2 k3 k4 k5 k6
      go_upto_region 7 with (at_builtin; go_loud (refine wpl_appendrow (d := intK) (S := (wb.heap.size ≤ ·)) (T' := fun _ => False) rfl (.tmp 16) (.tmp 18) 46 3 _ 8 rfl Try.underlying46 infoInt rfl (by decide) (by decide) (.slice (some ⟨wb.heap.size, 0, none⟩) 0 0) [] (.slice Ak x.kids.length ck) x.kids rfl rfl (rk.stp ((Stp.refl wb).alloc _)) (fun _ _ h => h) (fun _ h _ => h.elim) (Own.fresh _ _ _ wb (Nat.le_refl _)) (fun k hk => Nat.le_trans (Stp.size Lime.stp_) hk) (by simp; omega) ?_; intro v1 w1 ho1 hg1; have hb1 : Stp wb w1 := Stp.grown Lime.stp_ hg1 (Own.fresh intK 3 (wb.heap.size ≤ ·) wb (Nat.le_refl _)).blk; obtain ⟨A1, c1, rfl, _, _⟩ := ho1.reads.form; obtain ⟨q3, p3⟩ := inC (hb1.heap hB0) 3 _ rfl))
      have hB1 := hb1.heap hB0
      obtain ⟨w2, hw2⟩ : ∃ w2, w1.setCell ⟨wr.heap.size, 3, none⟩ (.slice A1 x.kids.length c1) = w2 := ⟨_, rfl⟩
      have hB2 := blk_set hB1 3 (.slice A1 x.kids.length c1)
      have hk12 : Kpt (fun k => k = wr.heap.size) w1 w2 := by rw [← hw2]; exact kpt_store (Kpt.refl _ _) rfl
      rw [hw2] at hB2
      have ho2 : Own intK 3 (fun k => wr.heap.size < k) w2 (.slice A1 x.kids.length c1) x.kids := (ho1.kpt hk12 fun k hk _ e => by have h' : wb.heap.size ≤ k := hk; have := HZB.out; omega).to fun k hk => by have h' : wb.heap.size ≤ k := ho1.blk k hk; have := HZB.out; omega
      have HZ2 := Lib.hid (show wr.heap.size < w2.heap.size by have := HZB.out; have := hb1.size; have := hk12.size; omega)
      have hs12 : Stp wr w2 := by rw [← hw2]; exact (hsb.trans hb1).setCell (Nat.le_refl _) _
      replace ra := ra.stp hs12
      have y6 := ((Stp.refl w2).alloc (.cells #[] 65)).cell (inC hB2 6 _ rfl).1
      rw [hw2]
      clear hw2 y3 q3 p3 hB1 hB0 ho1 hg1
      go_upto_region 8 with (at_builtin; go_loud (refine wpl_appendrow (d := attrK) (S := (w2.heap.size ≤ ·)) (T' := fun _ => False) rfl (.tmp 21) (.tmp 23) 47 65 _ 16 rfl Try.underlying47 infoAttr rfl (by decide) (by decide) (.slice (some ⟨w2.heap.size, 0, none⟩) 0 0) [] (.slice Aa x.attrs.length ca) x.attrs rfl rfl (ra.stp ((Stp.refl w2).alloc _)) (fun _ _ h => h) (fun _ h _ => h.elim) (Own.fresh _ _ _ w2 (Nat.le_refl _)) (fun k hk => Nat.le_trans (Stp.size Lime.stp_) hk) (by simp; omega) ?_; intro v3 w3 ho3 hg3; have hb3 : Stp w2 w3 := Stp.grown Lime.stp_ hg3 (Own.fresh attrK 65 (w2.heap.size ≤ ·) w2 (Nat.le_refl _)).blk; obtain ⟨A5, c5, rfl, _, _⟩ := ho3.reads.form; obtain ⟨q6, p6⟩ := inC (hb3.heap hB2) 6 _ rfl))
      obtain ⟨w4, hw4⟩ : ∃ w4, w3.setCell ⟨wr.heap.size, 6, none⟩ (.slice A5 x.attrs.length c5) = w4 := ⟨_, rfl⟩
      have hB4 := blk_set (hb3.heap hB2) 6 (.slice A5 x.attrs.length c5)
      have hk34 : Kpt (fun k => k = wr.heap.size) w3 w4 := by rw [← hw4]; exact kpt_store (Kpt.refl _ _) rfl
      rw [hw4] at hB4
      have HK4 := Lib.hid (show Own intK 3 (fun k => wr.heap.size ≤ k) w4 (.slice A1 x.kids.length c1) x.kids from ((ho2.stp hb3).kpt hk34 fun k hk _ e => by omega).to fun k hk => Nat.le_of_lt (ho2.blk k hk))
      have HA4 := Lib.hid (show Row attrK (fun k => wr.heap.size ≤ k ∧ (Value.slice A1 x.kids.length c1).ownBlock ≠ some k) w4 (.slice A5 x.attrs.length c5) x.attrs from (ho3.reads.kpt hk34 fun k hk _ e => by have h' : w2.heap.size ≤ k := hk; have := HZ2.out; omega).mono fun k hk => ⟨by have h' : w2.heap.size ≤ k := hk; have := HZ2.out; omega, fun e => by have := own_lt (own_ints ho2) k e; have h' : w2.heap.size ≤ k := hk; omega⟩)
      have hs34 : Stp wr w4 := by rw [← hw4]; exact (hs12.trans hb3).setCell (Nat.le_refl _) _
      have d0 := (inC hB4 0 _ rfl).1
      have d1 := (inC hB4 1 _ rfl).1
      have d2 := (inC hB4 2 _ rfl).1
      have d3 := (inC hB4 3 _ rfl).1
      have d4 := (inC hB4 4 _ rfl).1
      have d5 := (inC hB4 5 _ rfl).1
      have d6 := (inC hB4 6 _ rfl).1
      rw [hw4]
      clear hw4 y6 q6 p6 ho2 ho3 hg3 hB4 hB2 hk34 hk12 rk ra
      go_wp2_with (at_builtin; go_loud (refine wpl_append1 (d := nvK) (S := fun k => (Value.slice A3 L.length c3).ownBlock = some k ∨ w4.heap.size ≤ k) (T := fun _ => False) rfl (.tmp 26) (.tmp 28) 23 49 _ 88 rfl Try.underlying23 infoNode rfl (by decide) (by decide) (.slice A3 L.length c3) L ⟨x, ⟨A1, x.kids.length, c1⟩, ⟨A5, x.attrs.length, c5⟩⟩ [.int .i64 x.kind, .int .i64 x.tag, .int .i64 x.parent, .slice A1 x.kids.length c1, .int .i64 x.host, .int .i64 x.root, .slice A5 x.attrs.length c5] rfl rfl rfl (fun _ h => h.elim) ((HGo.out.stp hs34).tight7 _ (fun k h => .inl h)) (fun k hk => .inr hk) (by have := HLl.out; omega) ?_; intro v5 w5 ho5 hg5))
      have hz4 := hs34.size
      have hz0 := hst.size
      have G5 := HG.out.add (Nat.le_refl _) hs34 hz0 (ho5.mono fun k hk _ => hk.elim (HG.out.out.blk k) (fun h => by omega)) hg5 (fun k hk => ho5.blk k hk) HK4.out HA4.out
      have hst5 : Stp w w5 := Stp.grown (hst.trans hs34) hg5 fun k hk => HG.out.out.blk k hk
      have hLx5 : (L ++ [(⟨x, ⟨A1, x.kids.length, c1⟩, ⟨A5, x.attrs.length, c5⟩⟩ : Nv)]).map Nv.x = t.take (i + 1) := by rw [List.map_append, HLx.out, HT.out]; rfl
      go_roundg (t.length - (i + 1))
      case measure => omega
      case rel => exact ⟨i + 1, L ++ [⟨x, ⟨A1, x.kids.length, c1⟩, ⟨A5, x.attrs.length, c5⟩⟩], Nat.le_refl _, by go_num, hlt2, by rw [List.length_append, HLl.out]; rfl, hst5, by rw [List.length_append]; exact G5, hLx5⟩
    · have hltz : ¬ (i : Int) < (t.length : Int) := by omega
      obtain rfl : i = t.length := by omega
      rw [List.take_length] at hLx
      have HS := Lib.hid hLx
      clear hLx hLl
      go_wp2
      go_ret
      exact ⟨_, rfl, L, G, HS.out, hst⟩
end Go.Proofs.Lime
namespace Go.Proofs.Lime
open Go.RowKit
set_option linter.unusedVariables false
set_option linter.unusedSimpArgs false
attribute [local go_sem] Oper.semAt_some
theorem take_eq {L : List Nv} {c p : Nat} (hc : c < L.length) (hp : p < L.length) (hpp : L[c].x.parent = p) : takeT (L.map Nv.x) c = ((L.map Nv.x).set p (L[p].x.kidsTo (outI c L[p].x.kids))).set c ((((L.map Nv.x).set p (L[p].x.kidsTo (outI c L[p].x.kids))).getD c noNd).parTo (-1)) := by
  rw [takeT, getD_x hc, if_neg (by omega), hpp]
  simp only [Int.toNat_natCast]
  rw [getD_x hp]
set_option maxRecDepth 100000 in
set_option maxHeartbeats 4000000 in
theorem rremove_c {S : Nat → Prop} {w : World} {v : Value} {t : List Nd} (hr : Row nodeK S w v t) (hok : okT t = true) (c : Int) :
    Calls Try.prog 21 #[v, .int .i64 c] w (RmRet v t (rmR t c) w) := by
  have hks : ∀ k (hk : k < t.length), t[k].kids.length ≤ 1000 := fun k hk => ((okT_iff.1 hok).2 _ (List.getElem_mem hk)).1
  have cm := fun W (h : Stp w W) => rmay_tree_c (hr.stp h)
  have cc := fun W (h : Stp w W) => rcopy_c (hr.stp h) hok
  obtain ⟨A, cv, rfl, hc, hm⟩ := hr.form
  have ci := fun W => isR_c W A t cv c
  have HKS := Lib.hid hks
  clear hok hks
  cases hmy : mayT t with
  | false =>
    rw [hmy] at cm
    have HE := Lib.hid (show rmR t c = ([], 1) from if_pos hmy)
    clear hmy
    go_enter Try.func21, Try.ntmps21
    go_wp2_with (first | (go_at_call 23; refine (cm _ Lime.stp_).mono ?_; rintro e w1 ⟨rfl, hb1⟩; (try replace k2 := hb1.cell k2)) | (go_at_call 24; refine (ci _).mono ?_; rintro e w0 ⟨rfl, hb0⟩; (try replace k2 := hb0.cell k2)))
    refine bodyPost_ret (results_tmp2 rfl _ _ _) rfl ?_
    exact rmRet_none HE.out Lime.stp_
  | true =>
    rw [hmy] at cm
    have HM := Lib.hid hmy
    clear hmy
    cases hn : isN t c with
    | false =>
      rw [hn] at ci
      have HE := Lib.hid (show rmR t c = (t, 2) by rw [rmR, if_neg (by simp [HM.out]), if_pos hn])
      clear hn
      go_enter Try.func21, Try.ntmps21
      go_wp2_with (first | (go_at_call 23; refine (cm _ Lime.stp_).mono ?_; rintro e w1 ⟨rfl, hb1⟩; (try replace k2 := hb1.cell k2)) | (go_at_call 24; refine (ci _).mono ?_; rintro e w0 ⟨rfl, hb0⟩; (try replace k2 := hb0.cell k2)))
      refine bodyPost_ret (results_tmp2 rfl _ _ _) rfl ?_
      exact rmRet_same HE.out Lime.stp_
    | true =>
      rw [hn] at ci
      obtain ⟨n, rfl, hnl⟩ := isN_nat hn
      have HN := Lib.hid hn
      have HD := Lib.hid (nd_nat hnl)
      have hpar := par_ok HM.out hnl
      clear hn
      obtain ⟨b, o, rfl, _, _, hat⟩ := tree_base hr (by omega)
      obtain ⟨Ak, ck, Aa, ca, at0⟩ := hat n hnl
      have k2 := at0.c2
      have hnz : (n : Int) < (t.length : Int) := by omega
      clear at0 hat hr
      by_cases hp1 : t[n].parent = -1
      · rw [hp1] at k2
        have HE := Lib.hid (show rmR t n = (t, 3) by rw [rmR, if_neg (by simp [HM.out]), if_neg (by simp [HN.out]), HD.out, if_pos hp1])
        clear hp1 hpar
        go_enter Try.func21, Try.ntmps21
        go_wp2_with (first | (go_at_call 23; refine (cm _ Lime.stp_).mono ?_; rintro e w1 ⟨rfl, hb1⟩; (try replace k2 := hb1.cell k2)) | (go_at_call 24; refine (ci _).mono ?_; rintro e w0 ⟨rfl, hb0⟩; (try replace k2 := hb0.cell k2)))
        refine bodyPost_ret (results_tmp2 rfl _ _ _) rfl ?_
        exact rmRet_same HE.out Lime.stp_
      · have hp1z : (t[n].parent == -1) = false := by simpa using hp1
        have HE := Lib.hid (show rmR t n = (takeT t n, 0) by rw [rmR, if_neg (by simp [HM.out]), if_neg (by simp [HN.out]), HD.out, if_neg hp1]; rfl)
        obtain ⟨p, hpp, hpl⟩ := hpar.resolve_left hp1
        have HPP := Lib.hid hpp
        have HPL := Lib.hid hpl
        clear hp1 hpp hpl
        go_enter Try.func21, Try.ntmps21
        go_upto_region 7 with (first | (go_at_call 23; refine (cm _ Lime.stp_).mono ?_; rintro e w1 ⟨rfl, hb1⟩; replace k2 := hb1.cell k2) | (go_at_call 24; refine (ci _).mono ?_; rintro e w0 ⟨rfl, hb0⟩; replace k2 := hb0.cell k2))
        clear k2
        go_upto_region 8 with (go_at_call 16; refine (cc _ Lime.stp_).mono ?_; rintro e w2 ⟨v2, rfl, L, G, hLx, hb2⟩)
        have hsw2 : Stp w w2 := by (exact Lime.stp_)
        have hLl : L.length = t.length := by have := congrArg List.length hLx; simpa using this
        have hnL : n < L.length := by omega
        have hpL : p < L.length := by have := HPL.out; omega
        have hgx : ∀ i (h : i < L.length), L[i].x = t[i]'(by omega) := fun i h => by
          have h1 : (L.map Nv.x)[i]'(by simpa using h) = t[i]'(by omega) := by simp only [hLx]
          simpa using h1
        have hpn : L[n].x.parent = p := by rw [hgx n hnL]; exact HPP.out
        have hkp : L[p].x.kids.length ≤ 1000 := by rw [hgx p hpL]; exact HKS.out p _
        have HT := Lib.hid (take_eq hnL hpL hpn)
        obtain ⟨g, cg, rfl, hob, hgb, hgl, hgc, hg63, ⟨cur, hcur, hcu⟩, hatL⟩ := G.out.at7 (Nat.lt_of_le_of_lt (Nat.zero_le n) hnL)
        have k2 := (hatL n hnL).c2
        rw [hpn] at k2
        have k3 := (hatL p hpL).c3
        simp only [SV.val] at k3
        have q3 := hcu p hpL 3 _ (by omega) rfl
        obtain ⟨u2, q2⟩ : ∃ u, cur[n * 7 + 2]? = some u := ⟨_, hcu n hnL 2 _ (by omega) rfl⟩
        have hin := (G.kid p hpL hpL).reads
        simp only [SV.val] at hin
        have hpz : (p : Int) < (L.length : Int) := by omega
        have hnLz : (n : Int) < (L.length : Int) := by omega
        have HLx := Lib.hid hLx
        have HLl := Lib.hid hLl
        have HG := Lib.hid G
        have HOB := Lib.hid hob
        have cw := rwithout_c hin (by omega) n
        have HZ := Lib.hid hb2.size
        clear hgx hLx hLl hpn hatL hcu G hob hin hkp
        go_upto_region 9 with fail
        go_upto_region 10 with (go_at_call 38; refine cw.mono ?_; rintro e w3 ⟨v3, rfl, o3, hb3⟩; obtain ⟨A3, c3, rfl, _, _⟩ := o3.reads.form; obtain ⟨z3, f3⟩ := inC (hb3.heap hcur) (p * 7 + 3) _ q3)
        have hB4 := blk_set (hb3.heap hcur) (p * 7 + 3) (.slice A3 (outI n L[p].x.kids).length c3)
        have G4 := HG.out.setK rfl (Nat.le_refl _) hpL hb3 HZ.out o3
        have hl4 : (L.set p ⟨L[p].x.kidsTo (outI n L[p].x.kids), ⟨A3, (outI n L[p].x.kids).length, c3⟩, L[p].av⟩).length = L.length := List.length_set
        have hm4 : (L.set p ⟨L[p].x.kidsTo (outI n L[p].x.kids), ⟨A3, (outI n L[p].x.kids).length, c3⟩, L[p].av⟩).map Nv.x = (L.map Nv.x).set p (L[p].x.kidsTo (outI n L[p].x.kids)) := by rw [List.map_set]
        generalize L.set p ⟨L[p].x.kidsTo (outI n L[p].x.kids), ⟨A3, (outI n L[p].x.kids).length, c3⟩, L[p].av⟩ = L4 at G4 hl4 hm4
        have HB := Lib.hid (show Stp w (w3.setCell ⟨g, p * 7 + 3, none⟩ (.slice A3 (outI n L[p].x.kids).length c3)) from (hsw2.trans hb3).setCell (Nat.le_trans (Stp.size Lime.stp_) hgb) _)
        obtain ⟨w4, hw4⟩ : ∃ w4, w3.setCell ⟨g, p * 7 + 3, none⟩ (.slice A3 (outI n L[p].x.kids).length c3) = w4 := ⟨_, rfl⟩
        obtain ⟨z2, f2⟩ := inC hB4 (n * 7 + 2) u2 (by rw [Array.getElem?_setIfInBounds_ne (by omega)]; exact q2)
        rw [hw4] at HB G4 z2 f2 ⊢
        rw [← hm4] at HT
        have HL4 := Lib.hid hl4
        have HG4 := Lib.hid G4
        have HM4 := Lib.hid hm4
        have HZ4 := Lib.hid (show w2.heap.size ≤ w4.heap.size by rw [← hw4]; exact Nat.le_trans hb3.size (kpt_store (O := fun _ => True) (Kpt.refl _ w3) trivial).size)
        clear hw4 hl4 G4 hm4 hB4 o3
        go_wp2
        refine bodyPost_ret (results_tmp2 rfl _ _ _) rfl ?_
        have hl4 := HL4.out
        have hn4 : n < L4.length := by rw [hl4]; exact hnL
        have G5 := HG4.out.setP hl4 (Nat.le_of_eq hl4) hn4 (Nat.le_trans HZ.out HZ4.out) (-1)
        have hr5 := G5.reads (by rw [List.length_set]; exact Nat.le_of_eq hl4)
        rw [List.map_set] at hr5
        have hfin : (L4.map Nv.x).set n (L4[n].x.parTo (-1)) = takeT t n := by
          rw [← HLx.out, HT.out, getD_x hn4]
        rw [hfin] at hr5
        exact rmRet_new HE.out (hr5.mono fun k hk => Nat.le_trans (Stp.size Lime.stp_) hk) (HB.out.setCell (Nat.le_trans (Stp.size Lime.stp_) hgb) _)
end Go.Proofs.Lime
namespace Go.Proofs.Lime
open Go.RowKit
set_option linter.unusedVariables false
set_option linter.unusedSimpArgs false
attribute [local go_sem] Oper.semAt_some
theorem isR_e (w : World) (A : Option Addr) (t : List Nd) (c : Nat) (n : Int) : Calls Try.prog 24 #[.slice A t.length c, .int .i64 n] w fun e w' => e = .returned (.bool (isN t n)) ∧ w' = w := by
  go_enter Try.func24, Try.ntmps24
  go_wp2
  all_goals
    go_ret
    exact ⟨ret_bool (by grind [isN]), rfl⟩
set_option maxRecDepth 100000 in
set_option maxHeartbeats 4000000 in
theorem rabove_c {S : Nat → Prop} {w : World} {v : Value} {t : List Nd} (hr : Row nodeK S w v t) (M : May t) (a b : Int) (hb : b = -1 ∨ isN t b = true) :
    Calls Try.prog 54 #[v, .int .i64 a, .int .i64 b] w fun e w' => e = .returned (.bool ((upsT t b).contains a)) ∧ Stp w w' := by
  have hup := fun (k : Nat) (hk : k < t.length) W (h : Stp w W) => rup_c (hr.stp h) hk
  obtain ⟨A, c, rfl, hc, hm⟩ := hr.form
  go_enter Try.func54, Try.ntmps54
  go_wp2
  go_loopg [2] (dep t b) (fun gg s2 W => ∃ x : Int, s2 = .int .i64 x ∧ dep t x ≤ gg ∧ (x = -1 ∨ isN t x = true) ∧ Stp w W ∧ Aside ((upsT t b).contains a = (upsT t x).contains a))
  case atStart => exact ⟨b, rfl, Nat.le_refl _, hb, Stp.refl w, rfl⟩
  case round =>
    obtain ⟨x, rfl, hg, hx, hst, HA⟩ := hrel
    have HE := Lib.hid HA.out
    clear HA
    rcases hx with rfl | hx
    · have HF := Lib.hid (show (upsT t b).contains a = false by rw [HE.out, upsT_none]; rfl)
      go_wp2
      go_ret
      exact ⟨ret_bool HF.out.symm, hst⟩
    · obtain ⟨n, rfl, hn⟩ := isN_nat hx
      have HS := Lib.hid (M.ups_step hx)
      have HD := Lib.hid (M.dep_step hx)
      have HU := Lib.hid (M.up hx)
      have hnz : ((n : Int) != -1) = true := by simp
      clear hx
      by_cases han : a = (n : Int)
      · subst han
        have HF := Lib.hid (show (upsT t b).contains (n : Int) = true by rw [HE.out, HS.out]; simp)
        go_wp2
        go_ret
        exact ⟨ret_bool HF.out.symm, hst⟩
      · have hanz : (a == (n : Int)) = false := by simpa using han
        have HF := Lib.hid (show (upsT t b).contains a = (upsT t (upN t n)).contains a by rw [HE.out, HS.out, List.contains_cons, hanz, Bool.false_or])
        clear han
        go_wp2_with (go_at_call 57; refine (hup n hn _ Lime.stp_).mono ?_; rintro e w2 ⟨rfl, hb2⟩)
        go_roundg (dep t (upN t n))
        case measure => have := HD.out; omega
        case rel => exact ⟨upN t n, rfl, Nat.le_refl _, HU.out, by (exact Lime.stp_), HF.out⟩
set_option maxRecDepth 100000 in
set_option maxHeartbeats 4000000 in
theorem rwrong_c {S : Nat → Prop} {w : World} {v : Value} {t : List Nd} (hr : Row nodeK S w v t) (hmy : mayT t = true) (p c b : Int) :
    Calls Try.prog 37 #[v, .agg #[.int .i64 p, .int .i64 c, .int .i64 b]] w fun e w' => e = .returned (.int .i64 (wrongR t p c b)) ∧ Stp w w' := by
  obtain ⟨A, cv, rfl, hc, hm⟩ := hr.form
  obtain ⟨wa, hwa, hsa, hza, ga⟩ := box_named w #[.int .i64 p, .int .i64 c, .int .i64 b] 33
  have p0 := ga 0 _ rfl
  have p1 := ga 1 _ rfl
  have p2 := ga 2 _ rfl
  clear ga
  cases hip : isN t p with
  | false =>
    have HR := Lib.hid (show wrongR t p c b = 2 by rw [wrongR, hip]; rfl)
    go_enter Try.func37, Try.ntmps37
    go_wp2_with (go_at_call 24; refine (isR_e _ _ t _ _).mono ?_; rintro e w2 ⟨rfl, rfl⟩)
    go_ret
    exact ⟨ret_int (by rw [HR.out]), by (exact Lime.stp_)⟩
  | true =>
    obtain ⟨pn, rfl, hpl⟩ := isN_nat hip
    have HIP := Lib.hid hip
    cases hic : isN t c with
    | false =>
      have HR := Lib.hid (show wrongR t pn c b = 2 by rw [wrongR, HIP.out, hic]; rfl)
      go_enter Try.func37, Try.ntmps37
      go_wp2_with (go_at_call 24; refine (isR_e _ _ t _ _).mono ?_; rintro e w2 ⟨rfl, rfl⟩)
      go_ret
      exact ⟨ret_int (by rw [HR.out]), by (exact Lime.stp_)⟩
    | true =>
      obtain ⟨cn, rfl, hcl⟩ := isN_nat hic
      have HIC := Lib.hid hic
      by_cases hb1 : b = -1
      · subst hb1
        have hbz : ((-1 : Int) != -1) = false := rfl
        have HB1 := Lib.hid (show ((-1 : Int) == -1 || isN t (-1)) = true from rfl)
        obtain ⟨b0, o0, rfl, _, hb0x, hat⟩ := tree_base hr (by omega)
        obtain ⟨_, _, _, _, atp⟩ := hat pn hpl
        obtain ⟨_, _, _, _, atc⟩ := hat cn hcl
        have kp := atp.c0
        have kc := atc.c0
        have hpz : (pn : Int) < (t.length : Int) := by omega
        have hcz : (cn : Int) < (t.length : Int) := by omega
        replace kp := hsa.cell kp
        replace kc := hsa.cell kc
        have HDp := Lib.hid (nd_nat hpl)
        have HDc := Lib.hid (nd_nat hcl)
        have HAT := Lib.hid hat
        clear atp atc hat
        have HW := Lib.hid (show wrongR t pn cn (-1) = if ((nd t pn).kind == 2 || ((nd t cn).kind == 0 || (nd t cn).kind == 3)) = true then 3 else if (upsT t pn).contains (cn : Int) = true then 5 else if (!((-1) == -1) && !((nd t (-1)).parent == (pn : Int))) = true then 2 else 0 by rw [wrongR, HIP.out, HIC.out, HB1.out]; rfl)
        rw [HDp.out, HDc.out] at HW
        cases hk1 : (t[pn].kind == 2) with
        | true =>
          have HR := Lib.hid (show wrongR t pn cn (-1) = 3 by rw [HW.out, hk1]; rfl)
          go_enter Try.func37, Try.ntmps37
          go_wp2_with (go_at_call 24; refine (isR_e _ _ t _ _).mono ?_; rintro e w2 ⟨rfl, rfl⟩)
          go_ret
          exact ⟨ret_int (by rw [HR.out]), by (exact Lime.stp_)⟩
        | false =>
          cases hk2 : (t[cn].kind == 0) with
          | true =>
            have HR := Lib.hid (show wrongR t pn cn (-1) = 3 by rw [HW.out, hk1, hk2]; rfl)
            go_enter Try.func37, Try.ntmps37
            go_wp2_with (go_at_call 24; refine (isR_e _ _ t _ _).mono ?_; rintro e w2 ⟨rfl, rfl⟩)
            go_ret
            exact ⟨ret_int (by rw [HR.out]), by (exact Lime.stp_)⟩
          | false =>
            cases hk3 : (t[cn].kind == 3) with
            | true =>
              have HR := Lib.hid (show wrongR t pn cn (-1) = 3 by rw [HW.out, hk1, hk2, hk3]; rfl)
              go_enter Try.func37, Try.ntmps37
              go_wp2_with (go_at_call 24; refine (isR_e _ _ t _ _).mono ?_; rintro e w2 ⟨rfl, rfl⟩)
              go_ret
              exact ⟨ret_int (by rw [HR.out]), by (exact Lime.stp_)⟩
            | false =>
              rw [hk1, hk2, hk3] at HW
              have HW2 := Lib.hid (show wrongR t pn cn (-1) = if (upsT t pn).contains (cn : Int) = true then 5 else if (!((-1) == -1) && !((nd t (-1)).parent == (pn : Int))) = true then 2 else 0 from HW.out)
              have cab := fun W (h : Stp w W) => rabove_c (hr.stp h) (May.of hmy) cn pn (.inr HIP.out)
              clear HW
              cases hct : (upsT t pn).contains (cn : Int) with
              | true =>
                have HR := Lib.hid (show wrongR t pn cn (-1) = 5 by rw [HW2.out, hct]; rfl)
                rw [hct] at cab
                go_enter Try.func37, Try.ntmps37
                go_wp2_with (first | (go_at_call 24; refine (isR_e _ _ t _ _).mono ?_; rintro e w2 ⟨rfl, rfl⟩) | (go_at_call 54; refine (cab _ Lime.stp_).mono ?_; rintro e w3 ⟨rfl, hb3⟩))
                go_ret
                exact ⟨ret_int (by rw [HR.out]), by (exact Lime.stp_)⟩
              | false =>
                have HR := Lib.hid (show wrongR t pn cn (-1) = if (!((-1) == -1) && !((nd t (-1)).parent == (pn : Int))) = true then 2 else 0 by rw [HW2.out, hct]; rfl)
                rw [hct] at cab
                have HR2 := Lib.hid (show wrongR t pn cn (-1) = 0 by rw [HR.out]; rfl)
                go_enter Try.func37, Try.ntmps37
                go_wp2_with (first | (go_at_call 24; refine (isR_e _ _ t _ _).mono ?_; rintro e w2 ⟨rfl, rfl⟩) | (go_at_call 54; refine (cab _ Lime.stp_).mono ?_; rintro e w3 ⟨rfl, hb3⟩; replace p2 := hb3.cell p2))
                go_ret
                exact ⟨ret_int (by rw [HR2.out]), by (exact Lime.stp_)⟩
      · have hbz : (b != -1) = true := by simpa using hb1
        cases hib : isN t b with
        | false =>
          have HR := Lib.hid (show wrongR t pn cn b = 2 by rw [wrongR, HIP.out, HIC.out, hib, show (b == -1) = false by simpa using hb1]; rfl)
          clear hb1
          go_enter Try.func37, Try.ntmps37
          go_wp2_with (go_at_call 24; refine (isR_e _ _ t _ _).mono ?_; rintro e w2 ⟨rfl, rfl⟩)
          go_ret
          exact ⟨ret_int (by rw [HR.out]), by (exact Lime.stp_)⟩
        | true =>
          obtain ⟨bn, rfl, hbl⟩ := isN_nat hib
          have HB1 := Lib.hid (show ((bn : Int) == -1 || isN t bn) = true by rw [hib, Bool.or_true])
          clear hb1
          obtain ⟨b0, o0, rfl, _, hb0x, hat⟩ := tree_base hr (by omega)
          obtain ⟨_, _, _, _, atp⟩ := hat pn hpl
          obtain ⟨_, _, _, _, atc⟩ := hat cn hcl
          have kp := atp.c0
          have kc := atc.c0
          have hpz : (pn : Int) < (t.length : Int) := by omega
          have hcz : (cn : Int) < (t.length : Int) := by omega
          replace kp := hsa.cell kp
          replace kc := hsa.cell kc
          have HDp := Lib.hid (nd_nat hpl)
          have HDc := Lib.hid (nd_nat hcl)
          have HAT := Lib.hid hat
          clear atp atc hat
          have HW := Lib.hid (show wrongR t pn cn (bn : Int) = if ((nd t pn).kind == 2 || ((nd t cn).kind == 0 || (nd t cn).kind == 3)) = true then 3 else if (upsT t pn).contains (cn : Int) = true then 5 else if (!((bn : Int) == -1) && !((nd t (bn : Int)).parent == (pn : Int))) = true then 2 else 0 by rw [wrongR, HIP.out, HIC.out, HB1.out]; rfl)
          rw [HDp.out, HDc.out] at HW
          cases hk1 : (t[pn].kind == 2) with
          | true =>
            have HR := Lib.hid (show wrongR t pn cn (bn : Int) = 3 by rw [HW.out, hk1]; rfl)
            go_enter Try.func37, Try.ntmps37
            go_wp2_with (go_at_call 24; refine (isR_e _ _ t _ _).mono ?_; rintro e w2 ⟨rfl, rfl⟩)
            go_ret
            exact ⟨ret_int (by rw [HR.out]), by (exact Lime.stp_)⟩
          | false =>
            cases hk2 : (t[cn].kind == 0) with
            | true =>
              have HR := Lib.hid (show wrongR t pn cn (bn : Int) = 3 by rw [HW.out, hk1, hk2]; rfl)
              go_enter Try.func37, Try.ntmps37
              go_wp2_with (go_at_call 24; refine (isR_e _ _ t _ _).mono ?_; rintro e w2 ⟨rfl, rfl⟩)
              go_ret
              exact ⟨ret_int (by rw [HR.out]), by (exact Lime.stp_)⟩
            | false =>
              cases hk3 : (t[cn].kind == 3) with
              | true =>
                have HR := Lib.hid (show wrongR t pn cn (bn : Int) = 3 by rw [HW.out, hk1, hk2, hk3]; rfl)
                go_enter Try.func37, Try.ntmps37
                go_wp2_with (go_at_call 24; refine (isR_e _ _ t _ _).mono ?_; rintro e w2 ⟨rfl, rfl⟩)
                go_ret
                exact ⟨ret_int (by rw [HR.out]), by (exact Lime.stp_)⟩
              | false =>
                rw [hk1, hk2, hk3] at HW
                have HW2 := Lib.hid (show wrongR t pn cn (bn : Int) = if (upsT t pn).contains (cn : Int) = true then 5 else if (!((bn : Int) == -1) && !((nd t (bn : Int)).parent == (pn : Int))) = true then 2 else 0 from HW.out)
                have cab := fun W (h : Stp w W) => rabove_c (hr.stp h) (May.of hmy) cn pn (.inr HIP.out)
                clear HW
                cases hct : (upsT t pn).contains (cn : Int) with
                | true =>
                  have HR := Lib.hid (show wrongR t pn cn (bn : Int) = 5 by rw [HW2.out, hct]; rfl)
                  rw [hct] at cab
                  go_enter Try.func37, Try.ntmps37
                  go_wp2_with (first | (go_at_call 24; refine (isR_e _ _ t _ _).mono ?_; rintro e w2 ⟨rfl, rfl⟩) | (go_at_call 54; refine (cab _ Lime.stp_).mono ?_; rintro e w3 ⟨rfl, hb3⟩))
                  go_ret
                  exact ⟨ret_int (by rw [HR.out]), by (exact Lime.stp_)⟩
                | false =>
                  have HR := Lib.hid (show wrongR t pn cn (bn : Int) = if (!((bn : Int) == -1) && !((nd t (bn : Int)).parent == (pn : Int))) = true then 2 else 0 by rw [HW2.out, hct]; rfl)
                  rw [hct] at cab
                  obtain ⟨_, _, _, _, atb⟩ := HAT.out bn hbl
                  have kb := hsa.cell atb.c2
                  have hbz2 : (bn : Int) < (t.length : Int) := by omega
                  clear atb
                  have HDb := Lib.hid (nd_nat hbl)
                  have hbn1 : ((bn : Int) == -1) = false := by simp
                  by_cases hpar : t[bn].parent = (pn : Int)
                  · rw [hpar] at kb
                    have HE := Lib.hid (show wrongR t pn cn bn = 0 by rw [HR.out, HDb.out, hpar]; simp)
                    clear hpar hbn1
                    go_enter Try.func37, Try.ntmps37
                    go_upto_region 8 with (first | (go_at_call 24; refine (isR_e _ _ t _ _).mono ?_; rintro e w2 ⟨rfl, rfl⟩) | (go_at_call 54; refine (cab _ Lime.stp_).mono ?_; rintro e w3 ⟨rfl, hb3⟩; replace p0 := hb3.cell p0; replace p2 := hb3.cell p2; replace kb := hb3.cell kb))
                    refine wp_region_plan (Plan.calm 0 (Plan.calm 1 (Plan.calm 2 (Plan.calm 3 (Plan.calm 4 (Plan.calm 5 (Plan.calm 6 (Plan.calm 7 (Plan.calm 8 Plan.done))))))))) (by kernel_rfl) (by kernel_rfl) (by kernel_rfl) ?_
                    have hS : Stp w3 w3.drew := (Stp.refl _).drew
                    iterate 2 ((first | (refine plan_calm (v := ?_) Lime.getop_ (by rfl) (fun W hW => ?_) ?_; rotate_left; (focus (exact Lime.calm_))) | (refine plan_calm_skip Lime.getop_ (by rfl) ?_)); (try simp only [Act.put, List.setIfInBounds_toArray, List.set_cons_zero, List.set_cons_succ]))
                    (first | (refine plan_calm (v := ?_) Lime.getop_ (by rfl) (fun W hW => ?_) ?_; rotate_left; (focus (have q0_ := (hS.trans hW).cell p0; have q1_ := (hS.trans hW).cell p2; have q2_ := (hS.trans hW).cell kb; clear hW; (exact Lime.calm_)))) | (refine plan_calm_skip Lime.getop_ (by rfl) ?_)); (try simp only [Act.put, List.setIfInBounds_toArray, List.set_cons_zero, List.set_cons_succ])
                    iterate 2 ((first | (refine plan_calm (v := ?_) Lime.getop_ (by rfl) (fun W hW => ?_) ?_; rotate_left; (focus (exact Lime.calm_))) | (refine plan_calm_skip Lime.getop_ (by rfl) ?_)); (try simp only [Act.put, List.setIfInBounds_toArray, List.set_cons_zero, List.set_cons_succ]))
                    (first | (refine plan_calm (v := ?_) Lime.getop_ (by rfl) (fun W hW => ?_) ?_; rotate_left; (focus (have q0_ := (hS.trans hW).cell p0; have q1_ := (hS.trans hW).cell p2; have q2_ := (hS.trans hW).cell kb; clear hW; (exact Lime.calm_)))) | (refine plan_calm_skip Lime.getop_ (by rfl) ?_)); (try simp only [Act.put, List.setIfInBounds_toArray, List.set_cons_zero, List.set_cons_succ])
                    (first | (refine plan_calm (v := ?_) Lime.getop_ (by rfl) (fun W hW => ?_) ?_; rotate_left; (focus (exact Lime.calm_))) | (refine plan_calm_skip Lime.getop_ (by rfl) ?_)); (try simp only [Act.put, List.setIfInBounds_toArray, List.set_cons_zero, List.set_cons_succ])
                    (first | (refine plan_calm (v := ?_) Lime.getop_ (by rfl) (fun W hW => ?_) ?_; rotate_left; (focus (have q0_ := (hS.trans hW).cell p0; have q1_ := (hS.trans hW).cell p2; have q2_ := (hS.trans hW).cell kb; clear hW; (exact Lime.calm_)))) | (refine plan_calm_skip Lime.getop_ (by rfl) ?_)); (try simp only [Act.put, List.setIfInBounds_toArray, List.set_cons_zero, List.set_cons_succ])
                    (first | (refine plan_calm (v := ?_) Lime.getop_ (by rfl) (fun W hW => ?_) ?_; rotate_left; (focus (exact Lime.calm_))) | (refine plan_calm_skip Lime.getop_ (by rfl) ?_)); (try simp only [Act.put, List.setIfInBounds_toArray, List.set_cons_zero, List.set_cons_succ])
                    refine plan_done ?_
                    go_wp2
                    go_ret
                    exact ⟨ret_int (by rw [HE.out]), by (exact Lime.stp_)⟩
                  · have hpz2 : (t[bn].parent != (pn : Int)) = true := by simpa using hpar
                    have HE := Lib.hid (show wrongR t pn cn bn = 2 by
                      have h1 : (!((bn : Int) == -1) && !((nd t bn).parent == (pn : Int))) = true := by rw [HDb.out, hbn1]; simpa using hpar
                      rw [HR.out, if_pos h1])
                    clear hpar hbn1
                    go_enter Try.func37, Try.ntmps37
                    go_upto_region 8 with (first | (go_at_call 24; refine (isR_e _ _ t _ _).mono ?_; rintro e w2 ⟨rfl, rfl⟩) | (go_at_call 54; refine (cab _ Lime.stp_).mono ?_; rintro e w3 ⟨rfl, hb3⟩; replace p0 := hb3.cell p0; replace p2 := hb3.cell p2; replace kb := hb3.cell kb))
                    refine wp_region_plan (Plan.calm 0 (Plan.calm 1 (Plan.calm 2 (Plan.calm 3 (Plan.calm 4 (Plan.calm 5 (Plan.calm 6 (Plan.calm 7 (Plan.calm 8 Plan.done))))))))) (by kernel_rfl) (by kernel_rfl) (by kernel_rfl) ?_
                    have hS : Stp w3 w3.drew := (Stp.refl _).drew
                    iterate 2 ((first | (refine plan_calm (v := ?_) Lime.getop_ (by rfl) (fun W hW => ?_) ?_; rotate_left; (focus (exact Lime.calm_))) | (refine plan_calm_skip Lime.getop_ (by rfl) ?_)); (try simp only [Act.put, List.setIfInBounds_toArray, List.set_cons_zero, List.set_cons_succ]))
                    (first | (refine plan_calm (v := ?_) Lime.getop_ (by rfl) (fun W hW => ?_) ?_; rotate_left; (focus (have q0_ := (hS.trans hW).cell p0; have q1_ := (hS.trans hW).cell p2; have q2_ := (hS.trans hW).cell kb; clear hW; (exact Lime.calm_)))) | (refine plan_calm_skip Lime.getop_ (by rfl) ?_)); (try simp only [Act.put, List.setIfInBounds_toArray, List.set_cons_zero, List.set_cons_succ])
                    iterate 2 ((first | (refine plan_calm (v := ?_) Lime.getop_ (by rfl) (fun W hW => ?_) ?_; rotate_left; (focus (exact Lime.calm_))) | (refine plan_calm_skip Lime.getop_ (by rfl) ?_)); (try simp only [Act.put, List.setIfInBounds_toArray, List.set_cons_zero, List.set_cons_succ]))
                    (first | (refine plan_calm (v := ?_) Lime.getop_ (by rfl) (fun W hW => ?_) ?_; rotate_left; (focus (have q0_ := (hS.trans hW).cell p0; have q1_ := (hS.trans hW).cell p2; have q2_ := (hS.trans hW).cell kb; clear hW; (exact Lime.calm_)))) | (refine plan_calm_skip Lime.getop_ (by rfl) ?_)); (try simp only [Act.put, List.setIfInBounds_toArray, List.set_cons_zero, List.set_cons_succ])
                    (first | (refine plan_calm (v := ?_) Lime.getop_ (by rfl) (fun W hW => ?_) ?_; rotate_left; (focus (exact Lime.calm_))) | (refine plan_calm_skip Lime.getop_ (by rfl) ?_)); (try simp only [Act.put, List.setIfInBounds_toArray, List.set_cons_zero, List.set_cons_succ])
                    (first | (refine plan_calm (v := ?_) Lime.getop_ (by rfl) (fun W hW => ?_) ?_; rotate_left; (focus (have q0_ := (hS.trans hW).cell p0; have q1_ := (hS.trans hW).cell p2; have q2_ := (hS.trans hW).cell kb; clear hW; (exact Lime.calm_)))) | (refine plan_calm_skip Lime.getop_ (by rfl) ?_)); (try simp only [Act.put, List.setIfInBounds_toArray, List.set_cons_zero, List.set_cons_succ])
                    (first | (refine plan_calm (v := ?_) Lime.getop_ (by rfl) (fun W hW => ?_) ?_; rotate_left; (focus (exact Lime.calm_))) | (refine plan_calm_skip Lime.getop_ (by rfl) ?_)); (try simp only [Act.put, List.setIfInBounds_toArray, List.set_cons_zero, List.set_cons_succ])
                    refine plan_done ?_
                    go_wp2
                    go_ret
                    exact ⟨ret_int (by rw [HE.out]), by (exact Lime.stp_)⟩
end Go.Proofs.Lime
namespace Go.Proofs.Lime
open Go.RowKit
set_option linter.unusedVariables false
set_option linter.unusedSimpArgs false
def insL (l : List Int) (b c : Int) : List Int := l.flatMap fun k => if k = b then [c, k] else [k]
theorem insL_snoc (l : List Int) (b c x : Int) : insL (l ++ [x]) b c = if x = b then insL l b c ++ [c] ++ [x] else insL l b c ++ [x] := by
  unfold insL
  rw [List.flatMap_append, List.flatMap_singleton]
  split <;> simp
theorem insL_len (l : List Int) (b c : Int) : (insL l b c).length ≤ 2 * l.length := by
  induction l with
  | nil => simp [insL]
  | cons x l ih =>
    unfold insL at ih ⊢
    rw [List.flatMap_cons, List.length_append, List.length_cons]
    split <;> simp only [List.length_cons, List.length_nil] <;> omega
theorem insL_none {l : List Int} {b c : Int} (h : b ∉ l) : insL l b c = l := by
  induction l with
  | nil => rfl
  | cons x l ih =>
    rw [List.mem_cons, not_or] at h
    have h2 := ih h.2
    unfold insL at h2 ⊢
    rw [List.flatMap_cons, h2, if_neg (fun e => h.1 e.symm)]
    rfl
theorem insL_at {l : List Int} {b c : Int} (hd : l.Nodup) (hb : (b = -1 ∧ (-1 : Int) ∉ l) ∨ (b ≠ -1 ∧ b ∈ l)) : (if b = -1 then insL l b c ++ [c] else insL l b c) = insAt l b c := by
  by_cases hi : idx (· == b) l < 0
  · have hn : b ∉ l := by
      have h1 := idx_any (· == b) l
      rw [show decide (0 ≤ idx (· == b) l) = false by simpa using hi] at h1
      intro hm
      have : l.any (· == b) = true := List.any_eq_true.2 ⟨b, hm, by simp⟩
      rw [this] at h1; cases h1
    rcases hb with ⟨rfl, _⟩ | ⟨_, hm⟩
    · rw [if_pos rfl, insL_none hn, insAt, if_pos hi, List.take_length, List.drop_length]
    · exact absurd hm hn
  · obtain ⟨i, h1, h2, h3⟩ := idx_nat (Int.not_lt.1 hi)
    have hx : l[i] = b := by simpa using h3
    have hmem : b ∈ l := by rw [← hx]; exact List.getElem_mem h2
    have hb1 : b ≠ -1 := by
      rcases hb with ⟨e, hn⟩ | ⟨h, _⟩
      · rw [e] at hmem; exact absurd hmem hn
      · exact h
    have hsp : l = l.take i ++ b :: l.drop (i + 1) := by
      conv => lhs; rw [← List.take_append_drop i l, List.drop_eq_getElem_cons h2, hx]
    have hd' := hd
    rw [hsp, List.nodup_append] at hd'
    obtain ⟨_, d2, d3⟩ := hd'
    have n1 : b ∉ l.take i := fun h => d3 b h b List.mem_cons_self rfl
    have n2 : b ∉ l.drop (i + 1) := (List.nodup_cons.1 d2).1
    rw [if_neg hb1, insAt, if_neg hi, h1, Int.toNat_natCast, List.drop_eq_getElem_cons h2, hx]
    have : insL l b c = insL (l.take i) b c ++ ([c, b] ++ insL (l.drop (i + 1)) b c) := by
      conv => lhs; rw [hsp]
      unfold insL
      rw [List.flatMap_append, List.flatMap_cons, if_pos rfl]
    rw [this, insL_none n1, insL_none n2]
    rfl
/-- A child out of its parent's kids; its own Parent stays. -/
def takeK (t : List Nd) (c : Nat) : List Nd := if (t.getD c noNd).parent = -1 then t else t.set (t.getD c noNd).parent.toNat ((t.getD (t.getD c noNd).parent.toNat noNd).kidsTo (outI c (t.getD (t.getD c noNd).parent.toNat noNd).kids))
theorem takeK_len (t : List Nd) (c : Nat) : (takeK t c).length = t.length := by
  unfold takeK; split
  · rfl
  · simp
theorem takeT_K (t : List Nd) (c : Nat) : takeT t c = takeK t c ∨ takeT t c = (takeK t c).set c (((takeK t c).getD c noNd).parTo (-1)) := by
  unfold takeT takeK
  split
  · exact .inl rfl
  · exact .inr rfl
theorem getD_set_ne {t : List Nd} {i j : Nat} (x : Nd) (h : i ≠ j) : (t.set i x).getD j noNd = t.getD j noNd := by
  rw [List.getD_eq_getElem?_getD, List.getElem?_set_ne h, ← List.getD_eq_getElem?_getD]
theorem getD_set_self {t : List Nd} {i : Nat} (x : Nd) (h : i < t.length) : (t.set i x).getD i noNd = x := by
  rw [List.getD_eq_getElem?_getD, List.getElem?_set_self h]; rfl
theorem takeK_kids {t : List Nd} {p c : Nat} (h : p ≠ c) : (takeT t c).getD p noNd = (takeK t c).getD p noNd := by
  rcases takeT_K t c with e | e
  · rw [e]
  · rw [e, getD_set_ne _ (fun h2 => h h2.symm)]
theorem insT_K {t : List Nd} {p c : Nat} {b : Int} (hb : b ≠ c) (hc : c < t.length) (hne : p ≠ c) {xs : List Int} (hx : xs = insAt ((takeK t c).getD p noNd).kids b c) :
    insT t p c b = ((takeK t c).set p (((takeK t c).getD p noNd).kidsTo xs)).set c ((((takeK t c).set p (((takeK t c).getD p noNd).kidsTo xs)).getD c noNd).parTo p) := by
  subst hx
  have hI : insT t p c b = ((takeT t c).set p (((takeT t c).getD p noNd).kidsTo (insAt ((takeT t c).getD p noNd).kids b c))).set c ((((takeT t c).set p (((takeT t c).getD p noNd).kidsTo (insAt ((takeT t c).getD p noNd).kids b c))).getD c noNd).parTo p) := if_neg hb
  rw [hI, takeK_kids hne]
  generalize ((takeK t c).getD p noNd).kidsTo (insAt ((takeK t c).getD p noNd).kids b c) = y
  rw [getD_set_ne y hne, getD_set_ne y hne]
  rcases takeT_K t c with e | e
  · rw [e]
  · have hcl : c < (takeK t c).length := by rw [takeK_len]; exact hc
    rw [e, getD_set_self _ hcl, List.set_comm _ _ hne, List.set_set]
    conv => rhs; rw [List.set_comm _ _ hne]
    rfl
/-- What the list among which c is put is like. -/
theorem kids_K {t : List Nd} (M : May t) {p c : Nat} {b : Int} (h : wrongR t p c b = 0) (hb : b ≠ c) : p ≠ c ∧ ((takeK t c).getD p noNd).kids.Nodup ∧ ((b = -1 ∧ (-1 : Int) ∉ ((takeK t c).getD p noNd).kids) ∨ (b ≠ -1 ∧ b ∈ ((takeK t c).getD p noNd).kids)) := by
  obtain ⟨h1, h2, h3, h4, h5, h6, h7⟩ := wrong_zero h
  have hc : c < t.length := by have := isN_iff.1 h2; omega
  have hne : p ≠ c := by rintro rfl; exact h6 (by rw [M.ups_step h1]; exact List.mem_cons_self)
  have M1 := may_take M hc
  have hl := takeT_len t c
  have hi := isN_len hl
  have hp1 : isN (takeT t c) p = true := by rw [hi]; exact h1
  rw [← takeK_kids hne]
  refine ⟨hne, kid_nodup M1 hp1, ?_⟩
  rcases h7 with rfl | ⟨h7, h8⟩
  · refine .inl ⟨rfl, fun hm => ?_⟩
    have h9 : isN (takeT t c) (-1) = true := (M1.kid hp1 hm).1
    simp [isN] at h9
  · refine .inr ⟨M.ne1 h7, ?_⟩
    have hpb : parN (takeT t c) b = p := by
      by_cases hpc : parN t c = -1
      · have : takeT t c = t := by unfold takeT; exact if_pos hpc
        rw [this]; exact h8
      · unfold parN
        rw [(nd_take M hc hpc).2 b h7, if_neg hb]
        split
        · rename_i e; rw [← e]; exact h8
        · exact h8
    have h9 := M1.par_mem (n := b) (by rw [hi]; exact h7) (by rw [hpb]; omega)
    rw [hpb] at h9
    exact h9.2
end Go.Proofs.Lime
namespace Go.Proofs.Lime
open Go.RowKit
set_option linter.unusedVariables false
set_option linter.unusedSimpArgs false
attribute [local go_sem] Oper.semAt_some
set_option maxRecDepth 100000 in
set_option maxHeartbeats 8000000 in
theorem rinsert_c {S : Nat → Prop} {w : World} {v : Value} {t : List Nd} (hr : Row nodeK S w v t) (hok : okT t = true) (p c b : Int) :
    Calls Try.prog 19 #[v, .agg #[.int .i64 p, .int .i64 c, .int .i64 b]] w (RmRet v t (insR t p c b) w) := by
  have hks : ∀ k (hk : k < t.length), t[k].kids.length ≤ 1000 := fun k hk => ((okT_iff.1 hok).2 _ (List.getElem_mem hk)).1
  have cm := fun W (h : Stp w W) => rmay_tree_c (hr.stp h)
  have cc := fun W (h : Stp w W) => rcopy_c (hr.stp h) hok
  obtain ⟨A, cv, rfl, hc, hm⟩ := hr.form
  have HKS := Lib.hid hks
  clear hok hks
  obtain ⟨wa, hwa, hsa, hza, ga⟩ := box_named w #[.int .i64 p, .int .i64 c, .int .i64 b] 33
  have p0 := ga 0 _ rfl
  have p1 := ga 1 _ rfl
  have p2 := ga 2 _ rfl
  clear ga
  cases hmy : mayT t with
  | false =>
    rw [hmy] at cm
    have HE := Lib.hid (show insR t p c b = ([], 1) from if_pos hmy)
    clear hmy
    go_enter Try.func19, Try.ntmps19
    go_wp2_with (go_at_call 23; refine (cm _ Lime.stp_).mono ?_; rintro e w1 ⟨rfl, hb1⟩)
    refine bodyPost_ret (results_tmp2 rfl _ _ _) rfl ?_
    exact rmRet_none HE.out Lime.stp_
  | true =>
    rw [hmy] at cm
    have HM := Lib.hid hmy
    have cw := fun W (h : Stp w W) => rwrong_c (hr.stp h) hmy p c b
    clear hmy
    by_cases hwr : wrongR t p c b = 0
    · have HKK := Lib.hid hwr
      rw [hwr] at cw
      have HE := Lib.hid (show insR t p c b = (insT t p.toNat c.toNat b, 0) by rw [insR, if_neg (by simp [HM.out]), if_neg (by simp [hwr])])
      obtain ⟨hp, hcN, _⟩ := wrong_ok hwr
      obtain ⟨pn, rfl, hpl⟩ := isN_nat hp
      obtain ⟨cn, rfl, hcl⟩ := isN_nat hcN
      have hpar := par_ok HM.out hcl
      clear hwr hp hcN hr
      by_cases hbc : b = (cn : Int)
      · subst hbc
        have HE2 := Lib.hid (show insR t pn cn cn = (t, 0) by rw [HE.out]; simp [insT])
        clear HE
        go_enter Try.func19, Try.ntmps19
        go_wp2_with (first | (go_at_call 23; refine (cm _ Lime.stp_).mono ?_; rintro e w1 ⟨rfl, hb1⟩; replace p0 := hb1.cell p0; replace p1 := hb1.cell p1; replace p2 := hb1.cell p2) | (go_at_call 37; refine (cw _ Lime.stp_).mono ?_; rintro e w2 ⟨rfl, hb2⟩; replace p0 := hb2.cell p0; replace p1 := hb2.cell p1; replace p2 := hb2.cell p2) | (go_at_call 16; refine (cc _ Lime.stp_).mono ?_; rintro e w3 ⟨v3, rfl, L, G, hLx, hb3⟩; replace p0 := hb3.cell p0; replace p1 := hb3.cell p1; replace p2 := hb3.cell p2))
        refine bodyPost_ret (results_tmp2 rfl _ _ _) rfl ?_
        have hr3 := G.reads (Nat.le_refl _)
        rw [hLx] at hr3
        exact rmRet_new HE2.out (hr3.mono fun k hk => Nat.le_trans (Stp.size Lime.stp_) hk) Lime.stp_
      · have hbcz : (b == (cn : Int)) = false := by simpa using hbc
        have HBC := Lib.hid hbc
        have HPar := Lib.hid hpar
        clear hbc hpar
        go_enter Try.func19, Try.ntmps19
        go_upto_region 9 with (first | (go_at_call 23; refine (cm _ Lime.stp_).mono ?_; rintro e w1 ⟨rfl, hb1⟩; replace p0 := hb1.cell p0; replace p1 := hb1.cell p1; replace p2 := hb1.cell p2) | (go_at_call 37; refine (cw _ Lime.stp_).mono ?_; rintro e w2 ⟨rfl, hb2⟩; replace p0 := hb2.cell p0; replace p1 := hb2.cell p1; replace p2 := hb2.cell p2) | (go_at_call 16; refine (cc _ Lime.stp_).mono ?_; rintro e w3 ⟨v3, rfl, L, G, hLx, hb3⟩; replace p0 := hb3.cell p0; replace p1 := hb3.cell p1; replace p2 := hb3.cell p2))
        have HSW3 := Lib.hid (show Stp w w3 by (exact Lime.stp_))
        have HZ3 := Lib.hid hb3.size
        have HWZ2 := Lib.hid (show w.heap.size + 1 ≤ w2.heap.size by rw [← hza]; exact Stp.size (hb1.trans hb2))
        have hLl : L.length = t.length := by have := congrArg List.length hLx; simpa using this
        have hgx : ∀ i (h : i < L.length), L[i].x = t[i]'(by omega) := fun i h => by
          have h1 : (L.map Nv.x)[i]'(by simpa using h) = t[i]'(by omega) := by simp only [hLx]
          simpa using h1
        have hcL : cn < L.length := by omega
        have hpL : pn < L.length := by omega
        obtain ⟨g, cg, rfl, hob, hgb, hgl, hgc, hg63, ⟨cur, hcur, hcu⟩, hat⟩ := G.out.at7 (Nat.lt_of_le_of_lt (Nat.zero_le cn) hcL)
        have k2 := (hat cn hcL).c2
        have hpz : (pn : Int) < (L.length : Int) := by omega
        have hcz : (cn : Int) < (L.length : Int) := by omega
        have HWG := Lib.hid (show w.heap.size < g by have := HWZ2.out; omega)
        have HG := Lib.hid G
        have hgc2 := hgx cn hcL
        rw [hgc2] at k2
        by_cases hp1 : t[cn].parent = -1
        · rw [hp1] at k2
          have HM4 := Lib.hid (show L.map Nv.x = takeK t cn by rw [hLx, takeK, if_pos (by simpa [hcl] using hp1)])
          obtain ⟨L4, hL4⟩ : ∃ L4 : List Nv, L4 = L := ⟨_, rfl⟩
          have HL4 := Lib.hid (show L4.length = L.length by rw [hL4])
          have HG4 := HG
          rw [← hL4] at HM4
          have HG4 := Lib.hid (show Grove w2.heap.size (fun k => S k ∧ k < w2.heap.size) L.length w3 (.slice (some ⟨g, 0, none⟩) L.length cg) L4 by rw [hL4]; exact HG.out)
          have HSW := HSW3
          have HZ4 := HZ3
          clear hp1 hgx hLx hLl G hat hcu hgc2 hcur hwa hsa hza hb1 hb2 hb3 hL4 HG
          go_upto_region 12 with fail
          clear k2
          have hpL4 : pn < L4.length := by have := HL4.out; omega
          have hcL4 : cn < L4.length := by have := HL4.out; omega
          obtain ⟨g', cg', hv, _, _, _, _, _, ⟨cur4, hcur4, hcu4⟩, hat4⟩ := HG4.out.out.at7 (Nat.lt_of_le_of_lt (Nat.zero_le pn) hpL4)
          obtain rfl : g = g' := by injection hv with h1 h2 h3; injection h1 with h1; injection h1
          clear hv
          obtain ⟨y, hy⟩ : ∃ y, L4[pn]'hpL4 = y := ⟨_, rfl⟩
          obtain ⟨yx, ⟨ka, kn, kc⟩, yav⟩ := y
          have k3 := (hat4 pn hpL4).c3
          have q3 := hcu4 pn hpL4 3 (.slice ka kn kc) (by omega) (by rw [hy]; rfl)
          obtain ⟨q4v, q4⟩ : ∃ u, cur4[cn * 7 + 2]? = some u := ⟨_, hcu4 cn hcL4 2 _ (by omega) rfl⟩
          have hin := (HG4.out.kid pn hpL4 hpL).reads
          rw [hy] at hin k3
          simp only [SV.val] at hin k3
          have HX := Lib.hid (show (L4[pn]'hpL4).x = (takeK t cn).getD pn noNd by rw [← HM4.out, getD_x hpL4])
          have hkx : yx.kids = ((takeK t cn).getD pn noNd).kids := by rw [← HX.out, hy]
          have hKK := kids_K (May.of HM.out) HKK.out HBC.out
          rw [← hkx] at hKK
          have HNE := Lib.hid hKK.1
          have HIN := Lib.hid (insL_at (c := (cn : Int)) hKK.2.1 hKK.2.2)
          have hkl : yx.kids.length ≤ 1000 := by
            rw [hkx, ← takeK_kids hKK.1]
            exact takeT_kids fun k => by
              by_cases hk : k < t.length
              · have := HKS.out k hk; simpa [hk] using this
              · simp [hk]
          have HKX := Lib.hid hkx
          clear hKK hkx hcu4 hat4
          generalize yx.kids = xs at hin hkl HIN HKX
          clear hy
          obtain ⟨Ak, ck, ekv, hkc, hkm⟩ := hin.form
          injection ekv with ea en ec
          subst ea en ec
          have HWZ := Lib.hid (Nat.le_of_lt HWZ2.out)
          go_wp2
          go_loopg [9, 10] xs.length (fun gg s9 s10 W' => ∃ (i : Nat) (ys : List Int), xs.length - i ≤ gg ∧ s10 = .int .i64 i ∧ i ≤ xs.length ∧ ys.length ≤ 2 * i ∧ Stp w3 W' ∧ Aside (Own intK 3 (fun k => w3.heap.size ≤ k) W' s9 ys ∧ ys = insL (xs.take i) b cn))
          case atStart => exact ⟨0, [], by omega, rfl, Nat.zero_le _, Nat.zero_le _, (Stp.refl _).alloc _, Own.fresh _ _ _ w3 (Nat.le_refl _), rfl⟩
          case round =>
            obtain ⟨i, ys, hg, rfl, hi, hyl, hst, HA⟩ := hrel
            obtain ⟨ho, hys⟩ := HA.out
            clear HA
            have s0 := hst.cell p0
            have s1 := hst.cell p1
            have s2 := hst.cell p2
            have s3 := hst.cell k3
            by_cases hlt : i < xs.length
            · have hltz : (i : Int) < (xs.length : Int) := by omega
              obtain ⟨bk, ok, rfl, _, _, x0⟩ := int_at (hin.stp hst) i hlt
              have hT := Lib.hid (show insL (xs.take (i + 1)) b cn = if xs[i] = b then ys ++ [(cn : Int)] ++ [xs[i]] else ys ++ [xs[i]] by rw [List.take_succ_eq_append_getElem hlt, insL_snoc, ← hys])
              clear hys p0 p1 p2 k3
              generalize xs[i] = x at x0 hT
              obtain ⟨A9, c9, rfl, _, _⟩ := ho.reads.form
              by_cases hx : x = b
              · have hE := Lib.hid (show insL (xs.take (i + 1)) b cn = ys ++ [(cn : Int)] ++ [x] by rw [hT.out, if_pos hx])
                have hxz : (x == b) = true := by simpa using hx
                clear hT hx
                go_upto_region 19 with (at_builtin; go_loud (refine wpl_append1 (d := intK) (S := fun k => w3.heap.size ≤ k) (T := fun _ => False) rfl (.tmp 75) (.tmp 78) 46 3 _ 8 rfl Try.underlying46 infoInt rfl (by decide) (by decide) (.slice A9 ys.length c9) ys (cn : Int) [.int .i64 cn] rfl rfl rfl (fun _ h => h.elim) ho (fun k hk => Nat.le_trans hst.size hk) (by omega) ?_; intro v1 w1 ho1 hg1; have hst1 : Stp w3 w1 := Stp.grown hst hg1 ho.blk))
                obtain ⟨A1, c1, rfl, _, _⟩ := ho1.reads.form
                go_wp2_with (at_builtin; go_loud (refine wpl_append1 (d := intK) (S := fun k => w3.heap.size ≤ k) (T := fun _ => False) rfl (.tmp 80) (.tmp 82) 46 3 _ 8 rfl Try.underlying46 infoInt rfl (by decide) (by decide) (.slice A1 (ys ++ [(cn : Int)]).length c1) (ys ++ [(cn : Int)]) x [.int .i64 x] rfl rfl rfl (fun _ h => h.elim) ho1 (fun k hk => Nat.le_trans hst1.size hk) (by simp only [List.length_append, List.length_singleton]; omega) ?_; intro v2 w2' ho2 hg2; have hst2 : Stp w3 w2' := Stp.grown hst1 hg2 ho1.blk))
                go_roundg (xs.length - (i + 1))
                case measure => omega
                case rel => exact ⟨i + 1, ys ++ [(cn : Int)] ++ [x], Nat.le_refl _, by go_num, hlt, by simp only [List.length_append, List.length_singleton]; omega, hst2, ho2, hE.out.symm⟩
              · have hE := Lib.hid (show insL (xs.take (i + 1)) b cn = ys ++ [x] by rw [hT.out, if_neg hx])
                have hxz : (x == b) = false := by simpa using hx
                clear hT hx
                go_wp2_with (at_builtin; go_loud (refine wpl_append1 (d := intK) (S := fun k => w3.heap.size ≤ k) (T := fun _ => False) rfl (.tmp 80) (.tmp 82) 46 3 _ 8 rfl Try.underlying46 infoInt rfl (by decide) (by decide) (.slice A9 ys.length c9) ys x [.int .i64 x] rfl rfl rfl (fun _ h => h.elim) ho (fun k hk => Nat.le_trans hst.size hk) (by omega) ?_; intro v2 w2' ho2 hg2; have hst2 : Stp w3 w2' := Stp.grown hst hg2 ho.blk))
                go_roundg (xs.length - (i + 1))
                case measure => omega
                case rel => exact ⟨i + 1, ys ++ [x], Nat.le_refl _, by go_num, hlt, by simp only [List.length_append, List.length_singleton]; omega, hst2, ho2, hE.out.symm⟩
            · have hltz : ¬ (i : Int) < (xs.length : Int) := by omega
              obtain rfl : i = xs.length := by omega
              rw [List.take_length] at hys
              have HYS := Lib.hid hys
              clear hys
              by_cases hb1 : b = -1
              · have hb1z : (b == -1) = true := by simpa using hb1
                have HZS0 := Lib.hid (show ys ++ [(cn : Int)] = insAt ((takeK t cn).getD pn noNd).kids b cn by rw [← HKX.out, ← HIN.out, if_pos hb1, HYS.out])
                clear hb1
                obtain ⟨A9, c9, rfl, _, _⟩ := ho.reads.form
                go_upto_region 22 with (at_builtin; go_loud (refine wpl_append1 (d := intK) (S := fun k => w3.heap.size ≤ k) (T := fun _ => False) rfl (.tmp 87) (.tmp 90) 46 3 _ 8 rfl Try.underlying46 infoInt rfl (by decide) (by decide) (.slice A9 ys.length c9) ys (cn : Int) [.int .i64 cn] rfl rfl rfl (fun _ h => h.elim) ho (fun k hk => Nat.le_trans hst.size hk) (by omega) ?_; intro v6 w6 o6 hg6; have hst6 : Stp w3 w6 := Stp.grown hst hg6 ho.blk))
                obtain ⟨zs, hzs⟩ : ∃ zs, ys ++ [(cn : Int)] = zs := ⟨_, rfl⟩
                rw [hzs] at o6 HZS0
                have HZS := HZS0
                clear s0 s1 s2 s3 hzs ho hst
                obtain ⟨A6, c6, rfl, _, _⟩ := o6.reads.form
                obtain ⟨z3, f3⟩ := inC (hst6.heap hcur4) (pn * 7 + 3) _ q3
                have r0 := hst6.cell p0
                have r1 := hst6.cell p1
                go_upto_region 23 with fail
                have hk67 : Kpt (fun k => k = g) w6 (w6.setCell ⟨g, pn * 7 + 3, none⟩ (.slice A6 zs.length c6)) := kpt_store (Kpt.refl _ _) rfl
                have G7 := HG4.out.setK HL4.out (Nat.le_of_eq HL4.out) hpL4 hst6 HZ4.out o6
                have hl7 : (L4.set pn ⟨(L4[pn]'hpL4).x.kidsTo zs, ⟨A6, zs.length, c6⟩, (L4[pn]'hpL4).av⟩).length = L.length := List.length_set.trans HL4.out
                have hm7 : (L4.set pn ⟨(L4[pn]'hpL4).x.kidsTo zs, ⟨A6, zs.length, c6⟩, (L4[pn]'hpL4).av⟩).map Nv.x = (takeK t cn).set pn (((takeK t cn).getD pn noNd).kidsTo zs) := by rw [List.map_set, HM4.out, HX.out]
                generalize L4.set pn ⟨(L4[pn]'hpL4).x.kidsTo zs, ⟨A6, zs.length, c6⟩, (L4[pn]'hpL4).av⟩ = L7 at G7 hl7 hm7
                have hcur7 := blk_set (hst6.heap hcur4) (pn * 7 + 3) (.slice A6 zs.length c6)
                have HS7 := Lib.hid (show Stp w (w6.setCell ⟨g, pn * 7 + 3, none⟩ (.slice A6 zs.length c6)) from (HSW.out.trans hst6).setCell (Nat.le_trans HWZ.out hgb) _)
                have HZ7 := Lib.hid (Nat.le_trans (Nat.le_trans HZ4.out hst6.size) hk67.size)
                replace r0 := hk67.cell (p := ⟨w.heap.size, 0, none⟩) (by show ¬ w.heap.size = g; have := HWG.out; omega) r0
                replace r1 := hk67.cell (p := ⟨w.heap.size, 1, none⟩) (by show ¬ w.heap.size = g; have := HWG.out; omega) r1
                obtain ⟨z2, f2⟩ := inC hcur7 (cn * 7 + 2) q4v (by rw [Array.getElem?_setIfInBounds_ne (by have := HNE.out; omega)]; exact q4)
                obtain ⟨w7, hw7⟩ : ∃ w7, w6.setCell ⟨g, pn * 7 + 3, none⟩ (.slice A6 zs.length c6) = w7 := ⟨_, rfl⟩
                rw [hw7] at G7 HS7 HZ7 r0 r1 z2 f2 ⊢
                have HG7 := Lib.hid G7
                have HM7 := Lib.hid hm7
                have HL7 := Lib.hid hl7
                clear G7 hm7 hl7 hcur7 hw7 hk67 z3 f3 o6 hst6 p0 p1 p2 k3 q3 q4 hcur4
                go_wp2
                refine bodyPost_ret (results_tmp2 rfl _ _ _) rfl ?_
                have hl7 := HL7.out
                have hc7 : cn < L7.length := by rw [hl7]; exact hcL
                have G8 := HG7.out.setP hl7 (Nat.le_of_eq hl7) hc7 HZ7.out pn
                have hr8 := G8.reads (by rw [List.length_set]; exact Nat.le_of_eq hl7)
                rw [List.map_set] at hr8
                have hfin : (L7.map Nv.x).set cn (L7[cn].x.parTo pn) = insT t pn cn b := by rw [insT_K HBC.out hcl HNE.out HZS.out, ← HM7.out, getD_x hc7]
                rw [hfin] at hr8
                exact rmRet_new HE.out (hr8.mono fun k hk => Nat.le_trans HWZ.out hk) (HS7.out.setCell (Nat.le_trans HWZ.out hgb) _)
              · have hb1z : (b == -1) = false := by simpa using hb1
                have HZS := Lib.hid (show ys = insAt ((takeK t cn).getD pn noNd).kids b cn by rw [← HKX.out, ← HIN.out, if_neg hb1, HYS.out])
                clear hb1
                have o6 := ho
                have hst6 := hst
                clear ho hst
                obtain ⟨A9, c9, rfl, _, _⟩ := o6.reads.form
                go_upto_region 22 with fail
                clear s0 s1 s2 s3
                obtain ⟨z3, f3⟩ := inC (hst6.heap hcur4) (pn * 7 + 3) _ q3
                have r0 := hst6.cell p0
                have r1 := hst6.cell p1
                go_upto_region 23 with fail
                have hk67 : Kpt (fun k => k = g) wr (wr.setCell ⟨g, pn * 7 + 3, none⟩ (.slice A9 ys.length c9)) := kpt_store (Kpt.refl _ _) rfl
                have G7 := HG4.out.setK HL4.out (Nat.le_of_eq HL4.out) hpL4 hst6 HZ4.out o6
                have hl7 : (L4.set pn ⟨(L4[pn]'hpL4).x.kidsTo ys, ⟨A9, ys.length, c9⟩, (L4[pn]'hpL4).av⟩).length = L.length := List.length_set.trans HL4.out
                have hm7 : (L4.set pn ⟨(L4[pn]'hpL4).x.kidsTo ys, ⟨A9, ys.length, c9⟩, (L4[pn]'hpL4).av⟩).map Nv.x = (takeK t cn).set pn (((takeK t cn).getD pn noNd).kidsTo ys) := by rw [List.map_set, HM4.out, HX.out]
                generalize L4.set pn ⟨(L4[pn]'hpL4).x.kidsTo ys, ⟨A9, ys.length, c9⟩, (L4[pn]'hpL4).av⟩ = L7 at G7 hl7 hm7
                have hcur7 := blk_set (hst6.heap hcur4) (pn * 7 + 3) (.slice A9 ys.length c9)
                have HS7 := Lib.hid (show Stp w (wr.setCell ⟨g, pn * 7 + 3, none⟩ (.slice A9 ys.length c9)) from (HSW.out.trans hst6).setCell (Nat.le_trans HWZ.out hgb) _)
                have HZ7 := Lib.hid (Nat.le_trans (Nat.le_trans HZ4.out hst6.size) hk67.size)
                replace r0 := hk67.cell (p := ⟨w.heap.size, 0, none⟩) (by show ¬ w.heap.size = g; have := HWG.out; omega) r0
                replace r1 := hk67.cell (p := ⟨w.heap.size, 1, none⟩) (by show ¬ w.heap.size = g; have := HWG.out; omega) r1
                obtain ⟨z2, f2⟩ := inC hcur7 (cn * 7 + 2) q4v (by rw [Array.getElem?_setIfInBounds_ne (by have := HNE.out; omega)]; exact q4)
                obtain ⟨w7, hw7⟩ : ∃ w7, wr.setCell ⟨g, pn * 7 + 3, none⟩ (.slice A9 ys.length c9) = w7 := ⟨_, rfl⟩
                rw [hw7] at G7 HS7 HZ7 r0 r1 z2 f2 ⊢
                have HG7 := Lib.hid G7
                have HM7 := Lib.hid hm7
                have HL7 := Lib.hid hl7
                clear G7 hm7 hl7 hcur7 hw7 hk67 z3 f3 o6 hst6 p0 p1 p2 k3 q3 q4 hcur4
                go_wp2
                refine bodyPost_ret (results_tmp2 rfl _ _ _) rfl ?_
                have hl7 := HL7.out
                have hc7 : cn < L7.length := by rw [hl7]; exact hcL
                have G8 := HG7.out.setP hl7 (Nat.le_of_eq hl7) hc7 HZ7.out pn
                have hr8 := G8.reads (by rw [List.length_set]; exact Nat.le_of_eq hl7)
                rw [List.map_set] at hr8
                have hfin : (L7.map Nv.x).set cn (L7[cn].x.parTo pn) = insT t pn cn b := by rw [insT_K HBC.out hcl HNE.out HZS.out, ← HM7.out, getD_x hc7]
                rw [hfin] at hr8
                exact rmRet_new HE.out (hr8.mono fun k hk => Nat.le_trans HWZ.out hk) (HS7.out.setCell (Nat.le_trans HWZ.out hgb) _)
        · obtain ⟨q, hq, hql⟩ := HPar.out.resolve_left hp1
          rw [hq] at k2
          have hqL : q < L.length := by omega
          have hqz : (q : Int) < (L.length : Int) := by omega
          have hqn1 : ((q : Int) != -1) = true := by simp
          have k3 := (hat q hqL).c3
          simp only [SV.val] at k3
          have q3 := hcu q hqL 3 _ (by omega) rfl
          have hin := (G.kid q hqL hqL).reads
          simp only [SV.val] at hin
          have hgq := hgx q hqL
          have hkq : L[q].x.kids.length ≤ 1000 := by rw [hgq]; exact HKS.out q _
          have cwo := fun W (h : Stp w3 W) => rwithout_c (hin.stp h) (by omega) cn
          have HM0 := Lib.hid (show (L.map Nv.x).set q (L[q].x.kidsTo (outI cn L[q].x.kids)) = takeK t cn by
            have e1 : (t.getD cn noNd).parent = q := by simpa [hcl] using hq
            have e2 : t.getD q noNd = t[q] := by simp [hql]
            rw [takeK, e1, if_neg (by omega), Int.toNat_natCast, e2, hLx, hgq])
          clear hp1 hgx hLx hLl G hat hcu hgc2 hwa hsa hza hb1 hb2 hb3 hgq hq
          go_upto_region 11 with fail
          clear k2
          refine wp_region_noPanic ?_
          refine Go.Proofs.YtclhmgchllenlaaW.PrintLast.start_ (n := 13) (S := fun W_ => Stp w3 W_) (ds := [12]) #[false, false, false, false, false, false, false, false, false, false, false, false, false] (by kernel_rfl) rfl (by kernel_rfl) (Stp.refl _).drew (fun hS => ?_)
          refine Go.Proofs.YtclhmgchllenlaaW.PrintLast.pure_ (i := 0) (v := ?_) (a' := ?_) #[true, false, false, false, false, false, false, false, false, false, false, false, false] Lime.getop_ rfl (by kernel_rfl) (fun _ _ _ h => h) (Or.inl ⟨by rfl, ?_⟩) ?_ ?_
          rotate_left
          focus (intro w_; (exact Lime.calm_))
          rotate_left
          focus (simp only [Act.put, List.setIfInBounds_toArray, List.set_cons_zero, List.set_cons_succ]; first | done | rfl)
          refine Go.Proofs.YtclhmgchllenlaaW.PrintLast.pure_ (i := 1) (v := ?_) (a' := ?_) #[true, true, false, false, false, false, false, false, false, false, false, false, false] Lime.getop_ rfl (by kernel_rfl) (fun _ _ _ h => h) (Or.inl ⟨by rfl, ?_⟩) ?_ ?_
          rotate_left
          focus (intro w_; (exact Lime.calm_))
          rotate_left
          focus (simp only [Act.put, List.setIfInBounds_toArray, List.set_cons_zero, List.set_cons_succ]; first | done | rfl)
          refine Go.Proofs.YtclhmgchllenlaaW.PrintLast.pure_ (i := 2) (v := ?_) (a' := ?_) #[true, true, true, false, false, false, false, false, false, false, false, false, false] Lime.getop_ rfl (by kernel_rfl) (fun _ _ _ h => h) (Or.inl ⟨by rfl, ?_⟩) ?_ ?_
          rotate_left
          focus (intro w_; (exact Lime.calm_))
          rotate_left
          focus (simp only [Act.put, List.setIfInBounds_toArray, List.set_cons_zero, List.set_cons_succ]; first | done | rfl)
          refine Go.Proofs.YtclhmgchllenlaaW.PrintLast.pure_ (i := 3) (v := ?_) (a' := ?_) #[true, true, true, true, false, false, false, false, false, false, false, false, false] Lime.getop_ rfl (by kernel_rfl) (fun _ _ _ h => h) (Or.inl ⟨by rfl, ?_⟩) ?_ ?_
          rotate_left
          focus (intro w_; (exact Lime.calm_))
          rotate_left
          focus (simp only [Act.put, List.setIfInBounds_toArray, List.set_cons_zero, List.set_cons_succ]; first | done | rfl)
          refine Go.Proofs.YtclhmgchllenlaaW.PrintLast.pure_ (i := 4) (v := ?_) (a' := ?_) #[true, true, true, true, true, false, false, false, false, false, false, false, false] Lime.getop_ rfl (by kernel_rfl) (fun _ _ _ h => h) (Or.inl ⟨by rfl, ?_⟩) ?_ ?_
          rotate_left
          focus (intro w_; (exact Lime.calm_))
          rotate_left
          focus (simp only [Act.put, List.setIfInBounds_toArray, List.set_cons_zero, List.set_cons_succ]; first | done | rfl)
          refine Go.Proofs.YtclhmgchllenlaaW.PrintLast.pure_ (i := 5) (v := ?_) (a' := ?_) #[true, true, true, true, true, true, false, false, false, false, false, false, false] Lime.getop_ rfl (by kernel_rfl) (fun _ _ _ h => h) (Or.inl ⟨by rfl, ?_⟩) ?_ ?_
          rotate_left
          focus (intro w_; (exact Lime.calm_))
          rotate_left
          focus (simp only [Act.put, List.setIfInBounds_toArray, List.set_cons_zero, List.set_cons_succ]; first | done | rfl)
          refine Go.Proofs.YtclhmgchllenlaaW.PrintLast.pure_ (i := 7) (v := ?_) (a' := ?_) #[true, true, true, true, true, true, false, true, false, false, false, false, false] Lime.getop_ rfl (by kernel_rfl) (fun _ _ _ h => h) (Or.inl ⟨by rfl, ?_⟩) ?_ ?_
          rotate_left
          focus (intro w_; (exact Lime.calm_))
          rotate_left
          focus (simp only [Act.put, List.setIfInBounds_toArray, List.set_cons_zero, List.set_cons_succ]; first | done | rfl)
          refine Go.Proofs.YtclhmgchllenlaaW.PrintLast.take_ (i := 6) (v := ?_) (a' := ?_) #[true, true, true, true, true, true, true, true, false, false, false, false, false] Lime.getop_ rfl (by kernel_rfl) (fun _ _ _ h => h) (Or.inl ⟨by rfl, ?_⟩) hS ?_ ?_
          rotate_left
          focus (intro w_ hw_; have q0_ := hw_.cell p1; have q1_ := hw_.cell k3; (exact Lime.calm_))
          rotate_left
          focus (simp only [Act.put, List.setIfInBounds_toArray, List.set_cons_zero, List.set_cons_succ]; first | done | rfl)
          refine Go.Proofs.YtclhmgchllenlaaW.PrintLast.take_ (i := 8) (v := ?_) (a' := ?_) #[true, true, true, true, true, true, true, true, true, false, false, false, false] Lime.getop_ rfl (by kernel_rfl) (fun _ _ _ h => h) (Or.inl ⟨by rfl, ?_⟩) hS ?_ ?_
          rotate_left
          focus (intro w_ hw_; have q0_ := hw_.cell p1; have q1_ := hw_.cell k3; (exact Lime.calm_))
          rotate_left
          focus (simp only [Act.put, List.setIfInBounds_toArray, List.set_cons_zero, List.set_cons_succ]; first | done | rfl)
          refine Go.Proofs.YtclhmgchllenlaaW.PrintLast.one_ (i := 9) #[true, true, true, true, true, true, true, true, true, true, false, false, false] Lime.getop_ rfl (by kernel_rfl) (by decide) (fun K hK => ?_)
          rw [if_pos (by rfl)]; go_simp; refine (show Calls Try.prog 38 _ _ _ from cwo _ Lime.stp_).mono ?_; rintro e w4 ⟨v4, rfl, o4, hb4⟩; obtain ⟨A4, c4, rfl, _, _⟩ := o4.reads.form
          refine hK.out _ _ Lime.stp_ (fun hst => ?_); replace hS := hst
          clear hK K
          (try simp only [Act.put, List.setIfInBounds_toArray, List.set_cons_zero, List.set_cons_succ])
          refine Go.Proofs.YtclhmgchllenlaaW.PrintLast.pure_ (i := 10) (v := ?_) (a' := ?_) #[true, true, true, true, true, true, true, true, true, true, true, false, false] Lime.getop_ rfl (by kernel_rfl) (fun _ _ _ h => h) (Or.inl ⟨by rfl, ?_⟩) ?_ ?_
          rotate_left
          focus (intro w_; (exact Lime.calm_))
          rotate_left
          focus (simp only [Act.put, List.setIfInBounds_toArray, List.set_cons_zero, List.set_cons_succ]; first | done | rfl)
          refine Go.Proofs.YtclhmgchllenlaaW.PrintLast.pure_ (i := 11) (v := ?_) (a' := ?_) #[true, true, true, true, true, true, true, true, true, true, true, true, false] Lime.getop_ rfl (by kernel_rfl) (fun _ _ _ h => h) (Or.inl ⟨by rfl, ?_⟩) ?_ ?_
          rotate_left
          focus (intro w_; (exact Lime.calm_))
          rotate_left
          focus (simp only [Act.put, List.setIfInBounds_toArray, List.set_cons_zero, List.set_cons_succ]; first | done | rfl)
          refine Go.Proofs.YtclhmgchllenlaaW.PrintLast.last_ (i := 12) #[true, true, true, true, true, true, true, true, true, true, true, true, true] Lime.getop_ rfl (by kernel_rfl) (by decide) (fun K hK => ?_)
          rw [if_pos (by rfl)]; obtain ⟨z3, y3⟩ := inC (hS.heap hcur) (q * 7 + 3) _ q3; go_simp
          refine hK.out _ _ ?_
          clear hK K
          (try simp only [Act.put, List.setIfInBounds_toArray, List.set_cons_zero, List.set_cons_succ])
          refine Go.Proofs.YtclhmgchllenlaaW.PrintLast.done_ (by kernel_rfl) (noPanic_n ?_)
          have o4' := o4.to (S' := fun k => w3.heap.size ≤ k) (fun k hk => o4.blk k hk)
          have G4 := HG.out.setK rfl (Nat.le_refl _) hqL hS HZ3.out o4'
          have hk45 : Kpt (fun k => k = g) w4 (w4.setCell ⟨g, q * 7 + 3, none⟩ (.slice A4 (outI cn L[q].x.kids).length c4)) := kpt_store (Kpt.refl _ _) rfl
          have hl4 : (L.set q ⟨L[q].x.kidsTo (outI cn L[q].x.kids), ⟨A4, (outI cn L[q].x.kids).length, c4⟩, L[q].av⟩).length = L.length := List.length_set
          have hm4 : (L.set q ⟨L[q].x.kidsTo (outI cn L[q].x.kids), ⟨A4, (outI cn L[q].x.kids).length, c4⟩, L[q].av⟩).map Nv.x = takeK t cn := by rw [← HM0.out, List.map_set]
          generalize L.set q ⟨L[q].x.kidsTo (outI cn L[q].x.kids), ⟨A4, (outI cn L[q].x.kids).length, c4⟩, L[q].av⟩ = L4 at G4 hl4 hm4
          have HSW := Lib.hid (show Stp w (w4.setCell ⟨g, q * 7 + 3, none⟩ (.slice A4 (outI cn L[q].x.kids).length c4)) from (HSW3.out.trans hS).setCell (Nat.le_of_lt HWG.out) _)
          have HZ4 := Lib.hid (Nat.le_trans (Nat.le_trans HZ3.out hS.size) hk45.size)
          replace p0 := hk45.cell (p := ⟨w.heap.size, 0, none⟩) (by show ¬ w.heap.size = g; have := HWG.out; omega) (hS.cell p0)
          replace p1 := hk45.cell (p := ⟨w.heap.size, 1, none⟩) (by show ¬ w.heap.size = g; have := HWG.out; omega) (hS.cell p1)
          replace p2 := hk45.cell (p := ⟨w.heap.size, 2, none⟩) (by show ¬ w.heap.size = g; have := HWG.out; omega) (hS.cell p2)
          obtain ⟨w5, hw5⟩ : ∃ w5, w4.setCell ⟨g, q * 7 + 3, none⟩ (.slice A4 (outI cn L[q].x.kids).length c4) = w5 := ⟨_, rfl⟩
          rw [hw5] at G4 HSW HZ4 p0 p1 p2 ⊢
          have HG4 := Lib.hid G4
          have HM4 := Lib.hid hm4
          have HL4 := Lib.hid hl4
          clear G4 hm4 hl4 hw5 hk45 o4 o4' hS hcur k3 q3 hin cwo hkq
          have hpL4 : pn < L4.length := by have := HL4.out; omega
          have hcL4 : cn < L4.length := by have := HL4.out; omega
          obtain ⟨g', cg', hv, _, _, _, _, _, ⟨cur4, hcur4, hcu4⟩, hat4⟩ := HG4.out.out.at7 (Nat.lt_of_le_of_lt (Nat.zero_le pn) hpL4)
          obtain rfl : g = g' := by injection hv with h1 h2 h3; injection h1 with h1; injection h1
          clear hv
          obtain ⟨y, hy⟩ : ∃ y, L4[pn]'hpL4 = y := ⟨_, rfl⟩
          obtain ⟨yx, ⟨ka, kn, kc⟩, yav⟩ := y
          have k3 := (hat4 pn hpL4).c3
          have q3 := hcu4 pn hpL4 3 (.slice ka kn kc) (by omega) (by rw [hy]; rfl)
          obtain ⟨q4v, q4⟩ : ∃ u, cur4[cn * 7 + 2]? = some u := ⟨_, hcu4 cn hcL4 2 _ (by omega) rfl⟩
          have hin := (HG4.out.kid pn hpL4 hpL).reads
          rw [hy] at hin k3
          simp only [SV.val] at hin k3
          have HX := Lib.hid (show (L4[pn]'hpL4).x = (takeK t cn).getD pn noNd by rw [← HM4.out, getD_x hpL4])
          have hkx : yx.kids = ((takeK t cn).getD pn noNd).kids := by rw [← HX.out, hy]
          have hKK := kids_K (May.of HM.out) HKK.out HBC.out
          rw [← hkx] at hKK
          have HNE := Lib.hid hKK.1
          have HIN := Lib.hid (insL_at (c := (cn : Int)) hKK.2.1 hKK.2.2)
          have hkl : yx.kids.length ≤ 1000 := by
            rw [hkx, ← takeK_kids hKK.1]
            exact takeT_kids fun k => by
              by_cases hk : k < t.length
              · have := HKS.out k hk; simpa [hk] using this
              · simp [hk]
          have HKX := Lib.hid hkx
          clear hKK hkx hcu4 hat4
          generalize yx.kids = xs at hin hkl HIN HKX
          clear hy
          obtain ⟨Ak, ck, ekv, hkc, hkm⟩ := hin.form
          injection ekv with ea en ec
          subst ea en ec
          have HWZ := Lib.hid (Nat.le_of_lt HWZ2.out)
          go_wp2
          go_loopg [9, 10] xs.length (fun gg s9 s10 W' => ∃ (i : Nat) (ys : List Int), xs.length - i ≤ gg ∧ s10 = .int .i64 i ∧ i ≤ xs.length ∧ ys.length ≤ 2 * i ∧ Stp w5 W' ∧ Aside (Own intK 3 (fun k => w5.heap.size ≤ k) W' s9 ys ∧ ys = insL (xs.take i) b cn))
          case atStart => exact ⟨0, [], by omega, rfl, Nat.zero_le _, Nat.zero_le _, (Stp.refl _).alloc _, Own.fresh _ _ _ w5 (Nat.le_refl _), rfl⟩
          case round =>
            obtain ⟨i, ys, hg, rfl, hi, hyl, hst, HA⟩ := hrel
            obtain ⟨ho, hys⟩ := HA.out
            clear HA
            have s0 := hst.cell p0
            have s1 := hst.cell p1
            have s2 := hst.cell p2
            have s3 := hst.cell k3
            by_cases hlt : i < xs.length
            · have hltz : (i : Int) < (xs.length : Int) := by omega
              obtain ⟨bk, ok, rfl, _, _, x0⟩ := int_at (hin.stp hst) i hlt
              have hT := Lib.hid (show insL (xs.take (i + 1)) b cn = if xs[i] = b then ys ++ [(cn : Int)] ++ [xs[i]] else ys ++ [xs[i]] by rw [List.take_succ_eq_append_getElem hlt, insL_snoc, ← hys])
              clear hys p0 p1 p2 k3
              generalize xs[i] = x at x0 hT
              obtain ⟨A9, c9, rfl, _, _⟩ := ho.reads.form
              by_cases hx : x = b
              · have hE := Lib.hid (show insL (xs.take (i + 1)) b cn = ys ++ [(cn : Int)] ++ [x] by rw [hT.out, if_pos hx])
                have hxz : (x == b) = true := by simpa using hx
                clear hT hx
                go_upto_region 19 with (at_builtin; go_loud (refine wpl_append1 (d := intK) (S := fun k => w5.heap.size ≤ k) (T := fun _ => False) rfl (.tmp 75) (.tmp 78) 46 3 _ 8 rfl Try.underlying46 infoInt rfl (by decide) (by decide) (.slice A9 ys.length c9) ys (cn : Int) [.int .i64 cn] rfl rfl rfl (fun _ h => h.elim) ho (fun k hk => Nat.le_trans hst.size hk) (by omega) ?_; intro v1 w1 ho1 hg1; have hst1 : Stp w5 w1 := Stp.grown hst hg1 ho.blk))
                obtain ⟨A1, c1, rfl, _, _⟩ := ho1.reads.form
                go_wp2_with (at_builtin; go_loud (refine wpl_append1 (d := intK) (S := fun k => w5.heap.size ≤ k) (T := fun _ => False) rfl (.tmp 80) (.tmp 82) 46 3 _ 8 rfl Try.underlying46 infoInt rfl (by decide) (by decide) (.slice A1 (ys ++ [(cn : Int)]).length c1) (ys ++ [(cn : Int)]) x [.int .i64 x] rfl rfl rfl (fun _ h => h.elim) ho1 (fun k hk => Nat.le_trans hst1.size hk) (by simp only [List.length_append, List.length_singleton]; omega) ?_; intro v2 w2' ho2 hg2; have hst2 : Stp w5 w2' := Stp.grown hst1 hg2 ho1.blk))
                go_roundg (xs.length - (i + 1))
                case measure => omega
                case rel => exact ⟨i + 1, ys ++ [(cn : Int)] ++ [x], Nat.le_refl _, by go_num, hlt, by simp only [List.length_append, List.length_singleton]; omega, hst2, ho2, hE.out.symm⟩
              · have hE := Lib.hid (show insL (xs.take (i + 1)) b cn = ys ++ [x] by rw [hT.out, if_neg hx])
                have hxz : (x == b) = false := by simpa using hx
                clear hT hx
                go_wp2_with (at_builtin; go_loud (refine wpl_append1 (d := intK) (S := fun k => w5.heap.size ≤ k) (T := fun _ => False) rfl (.tmp 80) (.tmp 82) 46 3 _ 8 rfl Try.underlying46 infoInt rfl (by decide) (by decide) (.slice A9 ys.length c9) ys x [.int .i64 x] rfl rfl rfl (fun _ h => h.elim) ho (fun k hk => Nat.le_trans hst.size hk) (by omega) ?_; intro v2 w2' ho2 hg2; have hst2 : Stp w5 w2' := Stp.grown hst hg2 ho.blk))
                go_roundg (xs.length - (i + 1))
                case measure => omega
                case rel => exact ⟨i + 1, ys ++ [x], Nat.le_refl _, by go_num, hlt, by simp only [List.length_append, List.length_singleton]; omega, hst2, ho2, hE.out.symm⟩
            · have hltz : ¬ (i : Int) < (xs.length : Int) := by omega
              obtain rfl : i = xs.length := by omega
              rw [List.take_length] at hys
              have HYS := Lib.hid hys
              clear hys
              by_cases hb1 : b = -1
              · have hb1z : (b == -1) = true := by simpa using hb1
                have HZS0 := Lib.hid (show ys ++ [(cn : Int)] = insAt ((takeK t cn).getD pn noNd).kids b cn by rw [← HKX.out, ← HIN.out, if_pos hb1, HYS.out])
                clear hb1
                obtain ⟨A9, c9, rfl, _, _⟩ := ho.reads.form
                go_upto_region 22 with (at_builtin; go_loud (refine wpl_append1 (d := intK) (S := fun k => w5.heap.size ≤ k) (T := fun _ => False) rfl (.tmp 87) (.tmp 90) 46 3 _ 8 rfl Try.underlying46 infoInt rfl (by decide) (by decide) (.slice A9 ys.length c9) ys (cn : Int) [.int .i64 cn] rfl rfl rfl (fun _ h => h.elim) ho (fun k hk => Nat.le_trans hst.size hk) (by omega) ?_; intro v6 w6 o6 hg6; have hst6 : Stp w5 w6 := Stp.grown hst hg6 ho.blk))
                obtain ⟨zs, hzs⟩ : ∃ zs, ys ++ [(cn : Int)] = zs := ⟨_, rfl⟩
                rw [hzs] at o6 HZS0
                have HZS := HZS0
                clear s0 s1 s2 s3 hzs ho hst
                obtain ⟨A6, c6, rfl, _, _⟩ := o6.reads.form
                obtain ⟨z3, f3⟩ := inC (hst6.heap hcur4) (pn * 7 + 3) _ q3
                have r0 := hst6.cell p0
                have r1 := hst6.cell p1
                go_upto_region 23 with fail
                have hk67 : Kpt (fun k => k = g) w6 (w6.setCell ⟨g, pn * 7 + 3, none⟩ (.slice A6 zs.length c6)) := kpt_store (Kpt.refl _ _) rfl
                have G7 := HG4.out.setK HL4.out (Nat.le_of_eq HL4.out) hpL4 hst6 HZ4.out o6
                have hl7 : (L4.set pn ⟨(L4[pn]'hpL4).x.kidsTo zs, ⟨A6, zs.length, c6⟩, (L4[pn]'hpL4).av⟩).length = L.length := List.length_set.trans HL4.out
                have hm7 : (L4.set pn ⟨(L4[pn]'hpL4).x.kidsTo zs, ⟨A6, zs.length, c6⟩, (L4[pn]'hpL4).av⟩).map Nv.x = (takeK t cn).set pn (((takeK t cn).getD pn noNd).kidsTo zs) := by rw [List.map_set, HM4.out, HX.out]
                generalize L4.set pn ⟨(L4[pn]'hpL4).x.kidsTo zs, ⟨A6, zs.length, c6⟩, (L4[pn]'hpL4).av⟩ = L7 at G7 hl7 hm7
                have hcur7 := blk_set (hst6.heap hcur4) (pn * 7 + 3) (.slice A6 zs.length c6)
                have HS7 := Lib.hid (show Stp w (w6.setCell ⟨g, pn * 7 + 3, none⟩ (.slice A6 zs.length c6)) from (HSW.out.trans hst6).setCell (Nat.le_trans HWZ.out hgb) _)
                have HZ7 := Lib.hid (Nat.le_trans (Nat.le_trans HZ4.out hst6.size) hk67.size)
                replace r0 := hk67.cell (p := ⟨w.heap.size, 0, none⟩) (by show ¬ w.heap.size = g; have := HWG.out; omega) r0
                replace r1 := hk67.cell (p := ⟨w.heap.size, 1, none⟩) (by show ¬ w.heap.size = g; have := HWG.out; omega) r1
                obtain ⟨z2, f2⟩ := inC hcur7 (cn * 7 + 2) q4v (by rw [Array.getElem?_setIfInBounds_ne (by have := HNE.out; omega)]; exact q4)
                obtain ⟨w7, hw7⟩ : ∃ w7, w6.setCell ⟨g, pn * 7 + 3, none⟩ (.slice A6 zs.length c6) = w7 := ⟨_, rfl⟩
                rw [hw7] at G7 HS7 HZ7 r0 r1 z2 f2 ⊢
                have HG7 := Lib.hid G7
                have HM7 := Lib.hid hm7
                have HL7 := Lib.hid hl7
                clear G7 hm7 hl7 hcur7 hw7 hk67 z3 f3 o6 hst6 p0 p1 p2 k3 q3 q4 hcur4
                go_wp2
                refine bodyPost_ret (results_tmp2 rfl _ _ _) rfl ?_
                have hl7 := HL7.out
                have hc7 : cn < L7.length := by rw [hl7]; exact hcL
                have G8 := HG7.out.setP hl7 (Nat.le_of_eq hl7) hc7 HZ7.out pn
                have hr8 := G8.reads (by rw [List.length_set]; exact Nat.le_of_eq hl7)
                rw [List.map_set] at hr8
                have hfin : (L7.map Nv.x).set cn (L7[cn].x.parTo pn) = insT t pn cn b := by rw [insT_K HBC.out hcl HNE.out HZS.out, ← HM7.out, getD_x hc7]
                rw [hfin] at hr8
                exact rmRet_new HE.out (hr8.mono fun k hk => Nat.le_trans HWZ.out hk) (HS7.out.setCell (Nat.le_trans HWZ.out hgb) _)
              · have hb1z : (b == -1) = false := by simpa using hb1
                have HZS := Lib.hid (show ys = insAt ((takeK t cn).getD pn noNd).kids b cn by rw [← HKX.out, ← HIN.out, if_neg hb1, HYS.out])
                clear hb1
                have o6 := ho
                have hst6 := hst
                clear ho hst
                obtain ⟨A9, c9, rfl, _, _⟩ := o6.reads.form
                go_upto_region 22 with fail
                clear s0 s1 s2 s3
                obtain ⟨z3, f3⟩ := inC (hst6.heap hcur4) (pn * 7 + 3) _ q3
                have r0 := hst6.cell p0
                have r1 := hst6.cell p1
                go_upto_region 23 with fail
                have hk67 : Kpt (fun k => k = g) wr (wr.setCell ⟨g, pn * 7 + 3, none⟩ (.slice A9 ys.length c9)) := kpt_store (Kpt.refl _ _) rfl
                have G7 := HG4.out.setK HL4.out (Nat.le_of_eq HL4.out) hpL4 hst6 HZ4.out o6
                have hl7 : (L4.set pn ⟨(L4[pn]'hpL4).x.kidsTo ys, ⟨A9, ys.length, c9⟩, (L4[pn]'hpL4).av⟩).length = L.length := List.length_set.trans HL4.out
                have hm7 : (L4.set pn ⟨(L4[pn]'hpL4).x.kidsTo ys, ⟨A9, ys.length, c9⟩, (L4[pn]'hpL4).av⟩).map Nv.x = (takeK t cn).set pn (((takeK t cn).getD pn noNd).kidsTo ys) := by rw [List.map_set, HM4.out, HX.out]
                generalize L4.set pn ⟨(L4[pn]'hpL4).x.kidsTo ys, ⟨A9, ys.length, c9⟩, (L4[pn]'hpL4).av⟩ = L7 at G7 hl7 hm7
                have hcur7 := blk_set (hst6.heap hcur4) (pn * 7 + 3) (.slice A9 ys.length c9)
                have HS7 := Lib.hid (show Stp w (wr.setCell ⟨g, pn * 7 + 3, none⟩ (.slice A9 ys.length c9)) from (HSW.out.trans hst6).setCell (Nat.le_trans HWZ.out hgb) _)
                have HZ7 := Lib.hid (Nat.le_trans (Nat.le_trans HZ4.out hst6.size) hk67.size)
                replace r0 := hk67.cell (p := ⟨w.heap.size, 0, none⟩) (by show ¬ w.heap.size = g; have := HWG.out; omega) r0
                replace r1 := hk67.cell (p := ⟨w.heap.size, 1, none⟩) (by show ¬ w.heap.size = g; have := HWG.out; omega) r1
                obtain ⟨z2, f2⟩ := inC hcur7 (cn * 7 + 2) q4v (by rw [Array.getElem?_setIfInBounds_ne (by have := HNE.out; omega)]; exact q4)
                obtain ⟨w7, hw7⟩ : ∃ w7, wr.setCell ⟨g, pn * 7 + 3, none⟩ (.slice A9 ys.length c9) = w7 := ⟨_, rfl⟩
                rw [hw7] at G7 HS7 HZ7 r0 r1 z2 f2 ⊢
                have HG7 := Lib.hid G7
                have HM7 := Lib.hid hm7
                have HL7 := Lib.hid hl7
                clear G7 hm7 hl7 hcur7 hw7 hk67 z3 f3 o6 hst6 p0 p1 p2 k3 q3 q4 hcur4
                go_wp2
                refine bodyPost_ret (results_tmp2 rfl _ _ _) rfl ?_
                have hl7 := HL7.out
                have hc7 : cn < L7.length := by rw [hl7]; exact hcL
                have G8 := HG7.out.setP hl7 (Nat.le_of_eq hl7) hc7 HZ7.out pn
                have hr8 := G8.reads (by rw [List.length_set]; exact Nat.le_of_eq hl7)
                rw [List.map_set] at hr8
                have hfin : (L7.map Nv.x).set cn (L7[cn].x.parTo pn) = insT t pn cn b := by rw [insT_K HBC.out hcl HNE.out HZS.out, ← HM7.out, getD_x hc7]
                rw [hfin] at hr8
                exact rmRet_new HE.out (hr8.mono fun k hk => Nat.le_trans HWZ.out hk) (HS7.out.setCell (Nat.le_trans HWZ.out hgb) _)
    · have hwz : (wrongR t p c b != 0) = true := by simpa using hwr
      have HE := Lib.hid (show insR t p c b = (t, wrongR t p c b) by rw [insR, if_neg (by simp [HM.out]), if_pos hwr])
      clear hwr
      go_enter Try.func19, Try.ntmps19
      go_wp2_with (first | (go_at_call 23; refine (cm _ Lime.stp_).mono ?_; rintro e w1 ⟨rfl, hb1⟩; replace p0 := hb1.cell p0; replace p1 := hb1.cell p1; replace p2 := hb1.cell p2) | (go_at_call 37; refine (cw _ Lime.stp_).mono ?_; rintro e w2 ⟨rfl, hb2⟩; replace p0 := hb2.cell p0; replace p1 := hb2.cell p1; replace p2 := hb2.cell p2) | (go_at_call 16; refine (cc _ Lime.stp_).mono ?_; rintro e w3 ⟨v3, rfl, L, G, hLx, hb3⟩; replace p0 := hb3.cell p0; replace p1 := hb3.cell p1; replace p2 := hb3.cell p2))
      refine bodyPost_ret (results_tmp2 rfl _ _ _) rfl ?_
      exact rmRet_same HE.out Lime.stp_
end Go.Proofs.Lime
