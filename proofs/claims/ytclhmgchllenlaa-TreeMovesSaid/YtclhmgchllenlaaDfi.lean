/- Walks: lists of numbers copied; those taken out, in place, of which something holds. -/
import Derived.Test.YtclhmgchllenlaaMA
import Derived.Test.YtclhmgchllenlaaClr
namespace Go.Proofs.Lime
open Go.RowKit
set_option linter.unusedVariables false
set_option linter.unusedSimpArgs false

theorem own_ints {e : TypeId} {S : Nat → Prop} {w : World} {v : Value} {xs : List Int} (h : Own intK e S w v xs) : w.ownsRow 0 e 1 v xs.length (xs.map (Value.int .i64)) := by
  obtain ⟨hb, inner, ho, he⟩ := h
  have hz : intK.sz = 1 := rfl
  have : inner = xs.map (Value.int .i64) := by
    apply List.ext_getElem?
    intro k
    have hil : inner.length = xs.length := by have := ho.1; rw [hz, Nat.mul_one] at this; exact this
    by_cases hk : k < xs.length
    · obtain ⟨cs, hK, hc⟩ := he k hk
      have hK' : cs = [.int .i64 xs[k]] := hK
      subst hK'
      have h2 := hc 0 _ rfl
      rw [hz, Nat.mul_one, Nat.add_zero] at h2
      rw [h2, List.getElem?_map, List.getElem?_eq_getElem hk]; rfl
    · rw [List.getElem?_eq_none (by omega), List.getElem?_eq_none (by rw [List.length_map]; omega)]
  rw [← this]
  exact ho
theorem own_of_ints {e : TypeId} {S : Nat → Prop} {w : World} {v : Value} {xs : List Int} (h : w.ownsRow 0 e 1 v xs.length (xs.map (Value.int .i64))) (hS : ∀ k, v.ownBlock = some k → S k) : Own intK e S w v xs :=
  ⟨hS, _, h, fun j hj => ⟨_, rfl, fun i u hi => by
    have hi' : ([Value.int .i64 xs[j]] : List Value)[i]? = some u := hi
    have h1 : i < 1 := (List.getElem?_eq_some_iff.1 hi').1
    obtain rfl : i = 0 := by omega
    have hz : intK.sz = 1 := rfl
    rw [hz, Nat.mul_one, Nat.add_zero, List.getElem?_map, List.getElem?_eq_getElem hj]
    simpa using hi'⟩⟩
theorem cloneI_c {S : Nat → Prop} {w : World} {v : Value} {xs : List Int} (hr : Row intK S w v xs) (hl : xs.length ≤ 1000000) :
    Calls Try.prog 47 #[v] w fun e w' => ∃ v', e = .returned v' ∧ Own intK 3 (w.heap.size ≤ ·) w' v' xs ∧ Stp w w' := by
  obtain ⟨A, c, rfl, hc, hm⟩ := hr.form
  have hnil := fun (w : World) (a : Option Addr) (n c : Nat) => Lib.run_eql_slice_nil (P := Try.prog) w 46 3 a n c 0 0 Try.underlying46
  have hr' := hr.stp ((Stp.refl w).alloc (.cells #[] 3))
  cases A with
  | none =>
    have h0 : xs = [] := by
      cases xs with
      | nil => rfl
      | cons y ys => obtain ⟨b, o, c, cs, e, _⟩ := hr.get 0 (by simp); injection e with e; cases e
    subst h0
    clear hr hr'
    go_enter Try.func47, Try.ntmps47
    go_wp2
    go_ret
    exact ⟨_, rfl, Own.nil _ _ _ _, Stp.refl w⟩
  | some a =>
    clear hr
    go_enter Try.func47, Try.ntmps47
    go_wp2_with (at_builtin; refine wpl_appendrow (d := intK) (S := (w.heap.size ≤ ·)) (T' := fun _ => False) rfl (.tmp 5) (.tmp 6) 46 3 _ 8 rfl Try.underlying46 infoInt rfl (by decide) (by decide) _ [] _ xs rfl rfl hr' (fun _ _ h => h) (fun _ h _ => h.elim) (Own.fresh _ _ _ w (Nat.le_refl _)) (fun k hk => Nat.le_trans (Stp.size Lime.stp_) hk) (by simp; omega) ?_; intro v1 w1 ho hg2; have hb2 : Stp w w1 := Stp.grown Lime.stp_ hg2 (Own.fresh intK 3 (w.heap.size ≤ ·) w (Nat.le_refl _)).blk)
    go_ret
    exact ⟨_, rfl, ho, hb2⟩

/-- What is held while numbers are taken out of block g: j are looked at. -/
structure DelSt (p : Int → Bool) (xs : List Int) (g cap : Nat) (w : World) (j : Nat) (W : World) : Prop where mk ::
  kp : Kpt (· = g) w W
  row : ∃ cur, W.heap[g]? = some (.cells cur 3 (0, 0)) ∧ cur.size = cap ∧ (∀ a, (h : a < ((xs.take j).filter (!p ·)).length) → cur[a]? = some (.int .i64 ((xs.take j).filter (!p ·))[a])) ∧ ∀ k, j ≤ k → (h : k < xs.length) → cur[k]? = some (.int .i64 xs[k])
theorem take_filter {p : Int → Bool} {xs : List Int} {j : Nat} (h : j < xs.length) : (xs.take (j + 1)).filter (!p ·) = (xs.take j).filter (!p ·) ++ (if p xs[j] = true then [] else [xs[j]]) := by
  rw [List.take_succ_eq_append_getElem h, List.filter_append]
  congr 1
  cases hp : p xs[j] <;> simp [hp]
theorem DelSt.cell {p : Int → Bool} {xs : List Int} {g cap j : Nat} {w W : World} (D : DelSt p xs g cap w j W) (hj : j < xs.length) : W.cell? ⟨g, j, none⟩ = some (.int .i64 xs[j]) := by
  obtain ⟨cur, h1, _, _, h2⟩ := D.row
  simp only [World.cell?, h1]
  simpa using h2 j (Nat.le_refl _) hj
theorem DelSt.len {p : Int → Bool} {xs : List Int} {j : Nat} : ((xs.take j).filter (!p ·)).length ≤ j := by
  have h1 := List.length_filter_le (!p ·) (xs.take j)
  have h2 := List.length_take_le j xs
  omega
theorem DelSt.stp {p : Int → Bool} {xs : List Int} {g cap j : Nat} {w W W2 : World} (D : DelSt p xs g cap w j W) (h : Stp W W2) : DelSt p xs g cap w j W2 := by
  obtain ⟨cur, h1, h2, h3, h4⟩ := D.row
  exact ⟨D.kp.trans (Kpt.of_stp (O := fun _ => False) h) fun x hx => hx.elim, cur, h.heap h1, h2, h3, h4⟩
theorem DelSt.there {p : Int → Bool} {xs : List Int} {g cap j : Nat} {w W : World} (D : DelSt p xs g cap w j W) {k : Nat} (hk : k < cap) : (∃ u, W.cell? ⟨g, k, none⟩ = some u) ∧ W.frozen? ⟨g, k, none⟩ = false := by
  obtain ⟨cur, h1, h2, _⟩ := D.row
  refine ⟨?_, by simp [World.frozen?, h1]⟩
  simp only [World.cell?, h1]
  exact ⟨cur[k], by simp [show k < cur.size by omega]⟩
theorem DelSt.gone {p : Int → Bool} {xs : List Int} {g cap j : Nat} {w W : World} (D : DelSt p xs g cap w j W) (hj : j < xs.length) (hp : p xs[j] = true) : DelSt p xs g cap w (j + 1) W := by
  obtain ⟨cur, h1, h2, h3, h4⟩ := D.row
  have e := take_filter (p := p) hj
  rw [if_pos hp, List.append_nil] at e
  refine ⟨D.kp, cur, h1, h2, fun a h => ?_, fun k hk h => h4 k (by omega) h⟩
  simp only [e] at h ⊢
  exact h3 a h
theorem DelSt.keep {p : Int → Bool} {xs : List Int} {g cap j : Nat} {w W : World} (D : DelSt p xs g cap w j W) (hj : j < xs.length) (hc : xs.length ≤ cap) (hp : p xs[j] = false) : DelSt p xs g cap w (j + 1) (W.setCell ⟨g, ((xs.take j).filter (!p ·)).length, none⟩ (.int .i64 xs[j])) ∧ ((xs.take (j + 1)).filter (!p ·)).length = ((xs.take j).filter (!p ·)).length + 1 := by
  obtain ⟨cur, h1, h2, h3, h4⟩ := D.row
  have e := take_filter (p := p) hj
  rw [if_neg (by simp [hp])] at e
  have hl := DelSt.len (p := p) (xs := xs) (j := j)
  refine ⟨⟨D.kp.trans (Kpt.setCell (O := (· = g)) W _ rfl) fun x hx => .inl hx, _, blk_set h1 _ _, by simp [h2], fun a h => ?_, fun k hk h => ?_⟩, by rw [e]; simp⟩
  · simp only [e] at h ⊢
    rw [Array.getElem?_setIfInBounds]
    by_cases ha : ((xs.take j).filter (!p ·)).length = a
    · subst ha
      rw [if_pos rfl, if_pos (by omega)]
      simp
    · rw [if_neg ha]
      have h' : a < ((xs.take j).filter (!p ·)).length := by rw [List.length_append] at h; simp at h; omega
      rw [List.getElem_append_left h']
      exact h3 a h'
  · rw [Array.getElem?_setIfInBounds, if_neg (by omega)]
    exact h4 k (by omega) h
theorem filter_miss {p : Int → Bool} {xs : List Int} (h : idx p xs < 0) : xs.filter (!p ·) = xs := by
  have h1 := idx_any p xs
  rw [decide_eq_false (by omega)] at h1
  rw [List.filter_eq_self]
  intro x hx
  have := List.any_eq_false.1 h1.symm x hx
  cases hx' : p x
  · rfl
  · exact absurd hx' this
theorem filter_hit {p : Int → Bool} {xs : List Int} {i : Nat} (hi : i < xs.length) (h : idx p xs = i) : (xs.take i).filter (!p ·) = xs.take i ∧ p xs[i] = true := by
  have h3 : p xs[i] = true := by
    obtain ⟨i', h1, h2, h3⟩ := idx_nat (p := p) (xs := xs) (by omega)
    have e : i' = i := by omega
    subst e
    exact h3
  refine ⟨?_, h3⟩
  rw [List.filter_eq_self]
  intro x hx
  have h4 := idx_lt p xs 0 i (by omega) (List.any_eq_true.2 ⟨_, List.getElem_mem hi, h3⟩)
  rw [show idxFrom p 0 xs = (i : Int) from h, decide_eq_false (by omega)] at h4
  have := List.any_eq_false.1 h4.symm x hx
  cases hx' : p x
  · rfl
  · exact absurd hx' this
set_option maxHeartbeats 2000000 in
theorem delFuncI_c {S : Nat → Prop} {w : World} {v : Value} {xs : List Int} (ho : Own intK 3 S w v xs) (hl : xs.length ≤ 1000000) (p : Int → Bool) (gf : Nat) (lb : Array Value)
    (eg : ∀ args w, (callFunc gf args).run Try.prog w = .ok (.enter gf args) w)
    (hp : ∀ (W : World) (x : Int), Kpt (fun b => v.ownBlock = some b) w W → Calls Try.prog gf (#[.int .i64 x] ++ lb) W fun e w' => e = .returned (.bool (p x)) ∧ Stp W w') :
    Calls Try.prog 50 #[v, .func (.func gf) #[] lb] w fun e w' => ∃ v', e = .returned v' ∧ Own intK 3 (fun k => v.ownBlock = some k ∨ w.heap.size ≤ k) w' v' (xs.filter (!p ·)) ∧ Kpt (fun b => v.ownBlock = some b) w w' := by
  have ci := indexFuncI_c ho.reads p gf lb eg (fun W x hW => hp W x (Kpt.of_stp hW))
  by_cases hi : 0 ≤ idx p xs
  · obtain ⟨i, hi1, hil, _⟩ := idx_nat hi
    have hof := own_ints ho
    clear ho hi
    obtain ⟨hfl, hv⟩ := hof
    rcases hv with ⟨_, h0⟩ | ⟨g, cap, cur, rfl, _, hg, hnc, hcm, hcs, htake⟩
    · omega
    obtain ⟨hf1, hf2⟩ := filter_hit hil hi1
    rw [hi1] at ci
    rw [Nat.mul_one] at hcs htake
    have hob : ∀ b, (Value.slice (some ⟨g, 0, none⟩) xs.length cap).ownBlock = some b ↔ b = g := fun b => by simp [Value.ownBlock, eq_comm]
    simp only [hob] at hp ⊢
    have D0 : DelSt p xs g cap w i w := by
      have hcur : ∀ k, (h : k < xs.length) → cur[k]? = some (.int .i64 xs[k]) := fun k h => by
        have h1 : (cur.toList.take xs.length)[k]? = some (.int .i64 xs[k]) := by rw [htake, List.getElem?_map, List.getElem?_eq_getElem h]; rfl
        rw [List.getElem?_take, if_pos h] at h1
        simpa using h1
      refine ⟨Kpt.refl _ _, cur, hg, hcs, fun a h => ?_, fun k hk h => hcur k h⟩
      simp only [hf1] at h ⊢
      rw [List.getElem_take]
      exact hcur a (by rw [List.length_take] at h; omega)
    have D1 := D0.gone hil hf2
    have hil1 : ((xs.take (i + 1)).filter (!p ·)).length = i := by
      rw [take_filter hil, if_pos hf2, List.append_nil, hf1, List.length_take]; omega
    have D1' := Lib.hid D1
    have hil1' := Lib.hid hil1
    have hlt0 : i < xs.length := hil
    simp only [maxLen] at hcm
    have hin1 : ((i : Int) == -1) = false := by simp
    have hiz : (i : Int) < (xs.length : Int) := by omega
    clear hg hcs htake hf1 hf2 D0 D1 hil1 hi1 hfl
    go_enter Try.func50, Try.ntmps50
    go_wp2_with (go_at_call 65; refine ci.mono ?_; rintro e w1 ⟨rfl, hb1⟩)
    have D2 := Lib.hid (D1'.out.stp hb1)
    clear D1'
    go_loopw [5, 6, 7] (fun s5 s6 s7 wr => ∃ j : Nat, s6 = .int .i64 j ∧ s5 = .int .i64 ((xs.take j).filter (!p ·)).length ∧ Aside (i < j ∧ j ≤ xs.length ∧ ((xs.take j).filter (!p ·)).length < j ∧ DelSt p xs g cap w j wr)) (fun _ s6 _ _ => xs.length - (intOf s6).toNat)
    case atStart => exact ⟨i + 1, by go_num, by rw [hil1'.out], by omega, by omega, by have := hil1'.out; omega, D2.out⟩
    case round =>
      obtain ⟨j, rfl, rfl, HA⟩ := hrel
      have hij := HA.out.1
      have hjl := HA.out.2.1
      have hml := HA.out.2.2.1
      have D := HA.out.2.2.2
      by_cases hlt : j < xs.length
      · have hltz : (j : Int) < (xs.length : Int) := by omega
        have y0 := D.cell hlt
        have hcall := hp wr xs[j] D.kp
        have HG := fun (h : p xs[j] = true) => D.gone hlt h
        have HL := fun (h : p xs[j] = true) => show ((xs.take (j + 1)).filter (!p ·)).length = ((xs.take j).filter (!p ·)).length by rw [take_filter hlt, if_pos h, List.append_nil]
        have HK := fun (h : p xs[j] = false) (W2 : World) (hb : Stp wr W2) => (D.stp hb).keep hlt hnc h
        have HT := fun (W2 : World) (hb : Stp wr W2) (k : Nat) (hk : k < cap) => (D.stp hb).there hk
        generalize hm : ((xs.take j).filter (!p ·)).length = m at hml HK HL
        have hmz : (m : Int) < (xs.length : Int) := by omega
        have hm2 := Lib.hid hm
        generalize xs[j] = y at y0 hcall HG HK HL
        clear hm D HA D2 hp
        cases hq : p y with
        | true =>
          rw [hq] at hcall
          have HG2 := Lib.hid (HG hq)
          have HL2 := Lib.hid (HL hq)
          clear HG HK HT HL
          go_wp2_with (go_at_fn gf; refine hcall.mono ?_; rintro e w2 ⟨rfl, hb2⟩)
          go_roundw
          case rel => exact ⟨j + 1, by go_num, by rw [HL2.out], by omega, by omega, by have := HL2.out; omega, HG2.out.stp hb2⟩
          case measure => simp [intOf]; omega
        | false =>
          rw [hq] at hcall
          have HK2 := Lib.hid (HK hq)
          have HT2 := Lib.hid HT
          clear HG HK HT HL
          go_wp2_with (go_at_fn gf; refine hcall.mono ?_; rintro e w2 ⟨rfl, hb2⟩; obtain ⟨⟨u2, g2⟩, f2⟩ := HT2.out w2 hb2 m (by omega))
          go_roundw
          case rel => exact ⟨j + 1, by go_num, by rw [(HK2.out w2 hb2).2]; go_num, by omega, by omega, by have := (HK2.out w2 hb2).2; omega, (HK2.out w2 hb2).1⟩
          case measure => simp [intOf]; omega
      · have hltz : ¬ (j : Int) < (xs.length : Int) := by omega
        have hjx : j = xs.length := by omega
        subst hjx
        have hall : xs.take xs.length = xs := List.take_of_length_le (Nat.le_refl _)
        rw [hall] at hml ⊢
        obtain ⟨curE, e1, e2, e3, _⟩ := D.row
        rw [hall] at e3
        have hkpE := D.kp
        have hthere := fun (k : Nat) (hk : k < cap) => D.there hk
        clear D HA D2 hall ci hp hil1'
        obtain ⟨ys, hys⟩ : ∃ ys, xs.filter (!p ·) = ys := ⟨_, rfl⟩
        rw [hys] at e3 hml ⊢
        have HY := Lib.hid hys
        clear hys
        obtain ⟨zs, hzs⟩ : ∃ zs, (Builtin.zeroCells (Value.int .i64 0).cells (xs.length - ys.length)).toList = zs := ⟨_, rfl⟩
        have hzl : zs.length = xs.length - ys.length := by rw [← hzs, Array.length_toList, size_zeroCells]; exact Nat.mul_one _
        have hz1 : ∀ u ∈ zs, u.oneCell' = true := by
          rw [← hzs]
          intro u hu
          simp [Builtin.zeroCells, Value.cells] at hu
          obtain ⟨_, _, rfl⟩ := hu
          rw [Nat.mod_one]; rfl
        obtain ⟨cur2, hg2, hs2, hl2⟩ := setCells_row (e := 3) zs ys.length wr curE e1 (by omega)
        have hclear := run_clear_some (P := Try.prog) (t := 46) (ty := 0) Try.underlying46 (W := wr) Try.zeroValue3 g ys.length (xs.length - ys.length) (cap - ys.length) (by omega) zs hzs (fun j hj => by obtain ⟨⟨u, hu⟩, _⟩ := hthere (ys.length + j) (by omega); rw [hu]; rfl) (fun j hj => (hthere (ys.length + j) (by omega)).2) hz1
        have hgr := setCells_grown g ys.length zs wr
        obtain ⟨w2, hw2⟩ : ∃ w2, wr.setCells g ys.length zs = w2 := ⟨_, rfl⟩
        rw [hw2] at hclear hg2 hgr
        have hkp2 : Kpt (· = g) w w2 := hkpE.trans (Kpt.of_grown (O := (· = g)) hgr fun k hk => by injection hk with hk; exact hk.symm) fun x hx => .inl hx
        have hend : w2.ownsRow 0 3 1 (.slice (some ⟨g, 0, none⟩) ys.length cap) ys.length (ys.map (Value.int .i64)) := by
          refine ⟨by simp, .inr ⟨g, cap, cur2, rfl, Nat.zero_le _, hg2, by omega, by simp only [maxLen]; omega, by rw [hs2, e2, Nat.mul_one], ?_⟩⟩
          rw [Nat.mul_one, hl2, List.append_assoc, List.take_append_of_le_length (by rw [List.length_take, show curE.toList.length = curE.size from Array.length_toList, e2]; omega), List.take_take, Nat.min_self]
          apply List.ext_getElem?
          intro k
          rw [List.getElem?_take, List.getElem?_map]
          split
          · rename_i hk
            rw [Array.getElem?_toList, e3 k hk, List.getElem?_eq_getElem hk]; rfl
          · rename_i hk
            rw [List.getElem?_eq_none (by omega)]; rfl
        have h1 : (ys.length : Int) ≤ (xs.length : Int) := by omega
        have h2 : (xs.length : Int) ≤ (cap : Int) := by omega
        have h3 : (ys.length : Int) ≤ (cap : Int) := by omega
        have h4 : ¬ cap = ys.length := by omega
        have h5 := Lib.hid hend
        have h6 := Lib.hid hkp2
        have hclear2 := Lib.hid hclear
        clear hthere e1 e2 e3 hkpE hzs hzl hz1 hg2 hs2 hl2 hgr hw2 hclear hend hkp2 hob
        have hcl := hclear2.out
        go_wp2
        go_ret
        exact ⟨_, rfl, by rw [HY.out]; exact own_of_ints h5.out (fun k hk => .inl (by simpa [Value.ownBlock, eq_comm] using hk)), h6.out⟩
  · have hin : idx p xs < 0 := by omega
    have HF := Lib.hid (filter_miss hin)
    have hi1 : idx p xs = -1 := (idxFrom_ge p xs 0).resolve_right (fun h => by have h' : 0 ≤ idx p xs := h; omega)
    rw [hi1] at ci
    obtain ⟨A, c, rfl, hc, hm⟩ := ho.reads.form
    clear hi hin hi1
    go_enter Try.func50, Try.ntmps50
    go_wp2_with (go_at_call 65; refine ci.mono ?_; rintro e w1 ⟨rfl, hb1⟩)
    go_ret
    exact ⟨_, rfl, by rw [HF.out]; exact own_of_ints (own_ints (ho.stp hb1)) (fun k hk => .inl hk), Kpt.of_stp hb1⟩
end Go.Proofs.Lime
