/- Lists of lists of numbers: how they lie; copied; those taken out, in place, of which something holds. No conditions. A list of lists of numbers, all of the call's own and apart from each other. No conditions. Walks: who watches, copied; an act; one more. Walks: an act; one more who watches. Walk: one more who watches. Walk: one dropped. Walk: a close request. The contracts of who watches in the print's form. No conditions. -/
import Derived.Test.YtpklhnggbhkmiaaMA
import Derived.Test.YtpklhnggbhkmiaaWLast
import Derived.Deep.Cut
import Derived.Test.YtpklhnggbhkmiaaWMore
import Derived.Test.YtpklhnggbhkmiaaME
import Derived.Test.YtpklhnggbhkmiaaWApart
namespace Go.Proofs.Lime
open Go.RowKit
set_option linter.unusedVariables false
set_option linter.unusedSimpArgs false

/-- A slice's value. -/
structure SV where
  a : Option Addr
  n : Nat
  c : Nat
abbrev SV.val (s : SV) : Value := .slice s.a s.n s.c
instance : Inhabited SV := ⟨⟨none, 0, 0⟩⟩
def svK : Kd SV := Kd.flat 1 (fun s => [s.val]) (fun _ => rfl) (fun x u hu => by rw [List.mem_singleton.1 hu]; rfl)
theorem infoSl : (Try.prog.info? 22).map (fun i => (i.zero, i.size, i.bytes)) = some (some (.slice none 0 0), 1, 24) := by kernel_rfl
theorem sv_at {S : Nat → Prop} {w : World} {A : Option Addr} {n c : Nat} {xs : List SV} (h : Row svK S w (.slice A n c) xs) (k : Nat) (hk : k < xs.length) :
    ∃ b o, A = some ⟨b, o, none⟩ ∧ S b ∧ b < w.heap.size ∧ w.cell? ⟨b, o + k, none⟩ = some xs[k].val := by
  obtain ⟨b, o, c', cs, e, hS, hb, hK, hc⟩ := h.get k hk
  injection e with e1 e2 e3
  have hK' : cs = [xs[k].val] := hK
  subst hK'
  have := hc 0 _ rfl
  rw [show svK.sz = 1 from rfl, Nat.mul_one, Nat.add_zero] at this
  exact ⟨b, o, e1, hS, hb, this⟩
def SvPred (g : Nat) (lb : Array Value) (p : SV → Bool) (w : World) : Prop :=
  ∀ (W : World) (x : SV), Stp w W → Calls Try.prog g (#[x.val] ++ lb) W fun e w' => e = .returned (.bool (p x)) ∧ Stp W w'
theorem indexFuncO_c {S : Nat → Prop} {w : World} {v : Value} {xs : List SV} (h : Row svK S w v xs) (p : SV → Bool) (g : Nat) (lb : Array Value)
    (eg : ∀ args w, (callFunc g args).run Try.prog w = .ok (.enter g args) w) (hp : SvPred g lb p w) :
    Calls Try.prog 29 #[v, .func (.func g) #[] lb] w fun e w' => e = .returned (.int .i64 (idx p xs)) ∧ Stp w w' := by
  obtain ⟨A, c, rfl, hc, hm⟩ := h.form
  go_enter Try.func29, Try.ntmps29
  go_wp2
  go_loopg [5, 8] xs.length (fun gg _ s8 wr => ∃ k : Nat, k ≤ xs.length ∧ xs.length - k ≤ gg ∧ s8 = .int .i64 k ∧ Stp w wr ∧ Aside (idxFrom p k (xs.drop k) = idx p xs))
  case atStart => exact ⟨0, Nat.zero_le _, by omega, rfl, Stp.refl w, rfl⟩
  case round =>
    obtain ⟨k, hk, hg, rfl, hb, A1⟩ := hrel
    by_cases hlt : k < xs.length
    · have hltz : (k : Int) < (xs.length : Int) := by omega
      obtain ⟨b, o, rfl, hS, hbw, x0⟩ := sv_at (h.stp hb) k hlt
      have hcall := hp wr xs[k] hb
      generalize hy : xs[k] = y at x0 hcall
      have B : Aside (xs[k] = y) := hy
      clear hy h hp
      cases hq : p y with
      | true =>
        rw [hq] at hcall
        go_wp2_with (go_at_fn g; refine hcall.mono ?_; rintro e w' ⟨rfl, hb'⟩)
        go_ret
        exact ⟨ret_int (by rw [← A1.out, idxFrom_hit hlt (by rw [B.out]; exact hq)]), hb.trans hb'⟩
      | false =>
        rw [hq] at hcall
        go_wp2_with (go_at_fn g; refine hcall.mono ?_; rintro e w' ⟨rfl, hb'⟩)
        go_roundg (xs.length - (k + 1))
        case measure => omega
        case rel => exact ⟨k + 1, by omega, by omega, by go_num, hb.trans hb', (idxFrom_miss hlt (by rw [B.out]; exact hq)).symm.trans A1.out⟩
    · have hltz : ¬ (k : Int) < (xs.length : Int) := by omega
      go_wp2
      go_ret
      exact ⟨ret_int (by rw [← A1.out, idxFrom_end hlt]), hb⟩
theorem own_svs {e : TypeId} {S : Nat → Prop} {w : World} {v : Value} {xs : List SV} (h : Own svK e S w v xs) : w.ownsRow 0 e 1 v xs.length (xs.map (SV.val)) := by
  obtain ⟨hb, inner, ho, he⟩ := h
  have hz : svK.sz = 1 := rfl
  have : inner = xs.map (SV.val) := by
    apply List.ext_getElem?
    intro k
    have hil : inner.length = xs.length := by have := ho.1; rw [hz, Nat.mul_one] at this; exact this
    by_cases hk : k < xs.length
    · obtain ⟨cs, hK, hc⟩ := he k hk
      have hK' : cs = [xs[k].val] := hK
      subst hK'
      have h2 := hc 0 _ rfl
      rw [hz, Nat.mul_one, Nat.add_zero] at h2
      rw [h2, List.getElem?_map, List.getElem?_eq_getElem hk]; rfl
    · rw [List.getElem?_eq_none (by omega), List.getElem?_eq_none (by rw [List.length_map]; omega)]
  rw [← this]
  exact ho
theorem own_of_svs {e : TypeId} {S : Nat → Prop} {w : World} {v : Value} {xs : List SV} (h : w.ownsRow 0 e 1 v xs.length (xs.map (SV.val))) (hS : ∀ k, v.ownBlock = some k → S k) : Own svK e S w v xs :=
  ⟨hS, _, h, fun j hj => ⟨_, rfl, fun i u hi => by
    have hi' : ([xs[j].val] : List Value)[i]? = some u := hi
    have h1 : i < 1 := (List.getElem?_eq_some_iff.1 hi').1
    obtain rfl : i = 0 := by omega
    have hz : svK.sz = 1 := rfl
    rw [hz, Nat.mul_one, Nat.add_zero, List.getElem?_map, List.getElem?_eq_getElem hj]
    simpa using hi'⟩⟩
theorem cloneO_c {S : Nat → Prop} {w : World} {v : Value} {xs : List SV} (hr : Row svK S w v xs) (hl : xs.length ≤ 1000000) :
    Calls Try.prog 25 #[v] w fun e w' => ∃ v', e = .returned v' ∧ Own svK 22 (w.heap.size ≤ ·) w' v' xs ∧ Stp w w' := by
  obtain ⟨A, c, rfl, hc, hm⟩ := hr.form
  have hnil := fun (w : World) (a : Option Addr) (n c : Nat) => Lib.run_eql_slice_nil (P := Try.prog) w 24 22 a n c 0 0 Try.underlying24
  have hr' := hr.stp ((Stp.refl w).alloc (.cells #[] 22))
  cases A with
  | none =>
    have h0 : xs = [] := by
      cases xs with
      | nil => rfl
      | cons y ys => obtain ⟨b, o, c, cs, e, _⟩ := hr.get 0 (by simp); injection e with e; cases e
    subst h0
    clear hr hr'
    go_enter Try.func25, Try.ntmps25
    go_wp2
    go_ret
    exact ⟨_, rfl, Own.nil _ _ _ _, Stp.refl w⟩
  | some a =>
    clear hr
    go_enter Try.func25, Try.ntmps25
    go_wp2_with (at_builtin; refine wpl_appendrow (d := svK) (S := (w.heap.size ≤ ·)) (T' := fun _ => False) rfl (.tmp 5) (.tmp 6) 24 22 _ 24 rfl Try.underlying24 infoSl rfl (by decide) (by decide) _ [] _ xs rfl rfl hr' (fun _ _ h => h) (fun _ h _ => h.elim) (Own.fresh _ _ _ w (Nat.le_refl _)) (fun k hk => Nat.le_trans (Stp.size Lime.stp_) hk) (by simp; omega) ?_; intro v1 w1 ho hg2; have hb2 : Stp w w1 := Stp.grown Lime.stp_ hg2 (Own.fresh svK 22 (w.heap.size ≤ ·) w (Nat.le_refl _)).blk)
    go_ret
    exact ⟨_, rfl, ho, hb2⟩

/-- What is held while numbers are taken out of block g: j are looked at. -/
structure DelSv (p : SV → Bool) (xs : List SV) (g cap : Nat) (w : World) (j : Nat) (W : World) : Prop where mk ::
  kp : Kpt (· = g) w W
  row : ∃ cur, W.heap[g]? = some (.cells cur 22 (0, 0)) ∧ cur.size = cap ∧ (∀ a, (h : a < ((xs.take j).filter (!p ·)).length) → cur[a]? = some ((xs.take j).filter (!p ·))[a].val) ∧ ∀ k, j ≤ k → (h : k < xs.length) → cur[k]? = some xs[k].val
theorem take_filterO {p : SV → Bool} {xs : List SV} {j : Nat} (h : j < xs.length) : (xs.take (j + 1)).filter (!p ·) = (xs.take j).filter (!p ·) ++ (if p xs[j] = true then [] else [xs[j]]) := by
  rw [List.take_succ_eq_append_getElem h, List.filter_append]
  congr 1
  cases hp : p xs[j] <;> simp [hp]
theorem DelSv.cell {p : SV → Bool} {xs : List SV} {g cap j : Nat} {w W : World} (D : DelSv p xs g cap w j W) (hj : j < xs.length) : W.cell? ⟨g, j, none⟩ = some xs[j].val := by
  obtain ⟨cur, h1, _, _, h2⟩ := D.row
  simp only [World.cell?, h1]
  simpa using h2 j (Nat.le_refl _) hj
theorem DelSv.len {p : SV → Bool} {xs : List SV} {j : Nat} : ((xs.take j).filter (!p ·)).length ≤ j := by
  have h1 := List.length_filter_le (!p ·) (xs.take j)
  have h2 := List.length_take_le j xs
  omega
theorem DelSv.stp {p : SV → Bool} {xs : List SV} {g cap j : Nat} {w W W2 : World} (D : DelSv p xs g cap w j W) (h : Stp W W2) : DelSv p xs g cap w j W2 := by
  obtain ⟨cur, h1, h2, h3, h4⟩ := D.row
  exact ⟨D.kp.trans (Kpt.of_stp (O := fun _ => False) h) fun x hx => hx.elim, cur, h.heap h1, h2, h3, h4⟩
theorem DelSv.there {p : SV → Bool} {xs : List SV} {g cap j : Nat} {w W : World} (D : DelSv p xs g cap w j W) {k : Nat} (hk : k < cap) : (∃ u, W.cell? ⟨g, k, none⟩ = some u) ∧ W.frozen? ⟨g, k, none⟩ = false := by
  obtain ⟨cur, h1, h2, _⟩ := D.row
  refine ⟨?_, by simp [World.frozen?, h1]⟩
  simp only [World.cell?, h1]
  exact ⟨cur[k], by simp [show k < cur.size by omega]⟩
theorem DelSv.gone {p : SV → Bool} {xs : List SV} {g cap j : Nat} {w W : World} (D : DelSv p xs g cap w j W) (hj : j < xs.length) (hp : p xs[j] = true) : DelSv p xs g cap w (j + 1) W := by
  obtain ⟨cur, h1, h2, h3, h4⟩ := D.row
  have e := take_filterO (p := p) hj
  rw [if_pos hp, List.append_nil] at e
  refine ⟨D.kp, cur, h1, h2, fun a h => ?_, fun k hk h => h4 k (by omega) h⟩
  simp only [e] at h ⊢
  exact h3 a h
theorem DelSv.keep {p : SV → Bool} {xs : List SV} {g cap j : Nat} {w W : World} (D : DelSv p xs g cap w j W) (hj : j < xs.length) (hc : xs.length ≤ cap) (hp : p xs[j] = false) : DelSv p xs g cap w (j + 1) (W.setCell ⟨g, ((xs.take j).filter (!p ·)).length, none⟩ xs[j].val) ∧ ((xs.take (j + 1)).filter (!p ·)).length = ((xs.take j).filter (!p ·)).length + 1 := by
  obtain ⟨cur, h1, h2, h3, h4⟩ := D.row
  have e := take_filterO (p := p) hj
  rw [if_neg (by simp [hp])] at e
  have hl := DelSv.len (p := p) (xs := xs) (j := j)
  refine ⟨⟨D.kp.trans (Kpt.setCell (O := (· = g)) W _ rfl) fun x hx => .inl hx, _, blk_set h1 _ _, by simp [h2], fun a h => ?_, fun k hk h => ?_⟩, by rw [e]; simp⟩
  · simp only [e] at h ⊢
    rw [Array.getElem?_setIfInBounds]
    by_cases ha : ((xs.take j).filter (!p ·)).length = a
    · subst ha
      rw [if_pos rfl, if_pos (by omega)]
      simp
    · rw [if_neg ha]
      have h' : a < ((xs.take j).filter (!p ·)).length := by rw [List.length_append] at h; simp at h; omega
      rw [List.getElem_append_left h']
      exact h3 a h'
  · rw [Array.getElem?_setIfInBounds, if_neg (by omega)]
    exact h4 k (by omega) h
theorem filter_missO {p : SV → Bool} {xs : List SV} (h : idx p xs < 0) : xs.filter (!p ·) = xs := by
  have h1 := idx_any p xs
  rw [decide_eq_false (by omega)] at h1
  rw [List.filter_eq_self]
  intro x hx
  have := List.any_eq_false.1 h1.symm x hx
  cases hx' : p x
  · rfl
  · exact absurd hx' this
theorem filter_hitO {p : SV → Bool} {xs : List SV} {i : Nat} (hi : i < xs.length) (h : idx p xs = i) : (xs.take i).filter (!p ·) = xs.take i ∧ p xs[i] = true := by
  have h3 : p xs[i] = true := by
    obtain ⟨i', h1, h2, h3⟩ := idx_nat (p := p) (xs := xs) (by omega)
    have e : i' = i := by omega
    subst e
    exact h3
  refine ⟨?_, h3⟩
  rw [List.filter_eq_self]
  intro x hx
  have h4 := idx_lt p xs 0 i (by omega) (List.any_eq_true.2 ⟨_, List.getElem_mem hi, h3⟩)
  rw [show idxFrom p 0 xs = (i : Int) from h, decide_eq_false (by omega)] at h4
  have := List.any_eq_false.1 h4.symm x hx
  cases hx' : p x
  · rfl
  · exact absurd hx' this
set_option maxHeartbeats 2000000 in
theorem delFuncO_c {S : Nat → Prop} {w : World} {v : Value} {xs : List SV} (ho : Own svK 22 S w v xs) (hl : xs.length ≤ 1000000) (p : SV → Bool) (gf : Nat) (lb : Array Value)
    (eg : ∀ args w, (callFunc gf args).run Try.prog w = .ok (.enter gf args) w)
    (hp : ∀ (W : World) (x : SV), Kpt (fun b => v.ownBlock = some b) w W → Calls Try.prog gf (#[x.val] ++ lb) W fun e w' => e = .returned (.bool (p x)) ∧ Stp W w') :
    Calls Try.prog 23 #[v, .func (.func gf) #[] lb] w fun e w' => ∃ v', e = .returned v' ∧ Own svK 22 (fun k => v.ownBlock = some k ∨ w.heap.size ≤ k) w' v' (xs.filter (!p ·)) ∧ Kpt (fun b => v.ownBlock = some b) w w' := by
  have ci := indexFuncO_c ho.reads p gf lb eg (fun W x hW => hp W x (Kpt.of_stp hW))
  by_cases hi : 0 ≤ idx p xs
  · obtain ⟨i, hi1, hil, _⟩ := idx_nat hi
    have hof := own_svs ho
    clear ho hi
    obtain ⟨hfl, hv⟩ := hof
    rcases hv with ⟨_, h0⟩ | ⟨g, cap, cur, rfl, _, hg, hnc, hcm, hcs, htake⟩
    · omega
    obtain ⟨hf1, hf2⟩ := filter_hitO hil hi1
    rw [hi1] at ci
    rw [Nat.mul_one] at hcs htake
    have hob : ∀ b, (Value.slice (some ⟨g, 0, none⟩) xs.length cap).ownBlock = some b ↔ b = g := fun b => by simp [Value.ownBlock, eq_comm]
    simp only [hob] at hp ⊢
    have D0 : DelSv p xs g cap w i w := by
      have hcur : ∀ k, (h : k < xs.length) → cur[k]? = some xs[k].val := fun k h => by
        have h1 : (cur.toList.take xs.length)[k]? = some xs[k].val := by rw [htake, List.getElem?_map, List.getElem?_eq_getElem h]; rfl
        rw [List.getElem?_take, if_pos h] at h1
        simpa using h1
      refine ⟨Kpt.refl _ _, cur, hg, hcs, fun a h => ?_, fun k hk h => hcur k h⟩
      simp only [hf1] at h ⊢
      rw [List.getElem_take]
      exact hcur a (by rw [List.length_take] at h; omega)
    have D1 := D0.gone hil hf2
    have hil1 : ((xs.take (i + 1)).filter (!p ·)).length = i := by
      rw [take_filterO hil, if_pos hf2, List.append_nil, hf1, List.length_take]; omega
    have D1' := Lib.hid D1
    have hil1' := Lib.hid hil1
    have hlt0 : i < xs.length := hil
    simp only [maxLen] at hcm
    have hin1 : ((i : Int) == -1) = false := by simp
    have hiz : (i : Int) < (xs.length : Int) := by omega
    clear hg hcs htake hf1 hf2 D0 D1 hil1 hi1 hfl
    go_enter Try.func23, Try.ntmps23
    go_wp2_with (go_at_call 29; refine ci.mono ?_; rintro e w1 ⟨rfl, hb1⟩)
    have D2 := Lib.hid (D1'.out.stp hb1)
    clear D1'
    go_loopw [5, 6, 7] (fun s5 s6 s7 wr => ∃ j : Nat, s6 = .int .i64 j ∧ s5 = .int .i64 ((xs.take j).filter (!p ·)).length ∧ Aside (i < j ∧ j ≤ xs.length ∧ ((xs.take j).filter (!p ·)).length < j ∧ DelSv p xs g cap w j wr)) (fun _ s6 _ _ => xs.length - (intOf s6).toNat)
    case atStart => exact ⟨i + 1, by go_num, by rw [hil1'.out], by omega, by omega, by have := hil1'.out; omega, D2.out⟩
    case round =>
      obtain ⟨j, rfl, rfl, HA⟩ := hrel
      have hij := HA.out.1
      have hjl := HA.out.2.1
      have hml := HA.out.2.2.1
      have D := HA.out.2.2.2
      by_cases hlt : j < xs.length
      · have hltz : (j : Int) < (xs.length : Int) := by omega
        have y0 := D.cell hlt
        have hcall := hp wr xs[j] D.kp
        have HG := fun (h : p xs[j] = true) => D.gone hlt h
        have HL := fun (h : p xs[j] = true) => show ((xs.take (j + 1)).filter (!p ·)).length = ((xs.take j).filter (!p ·)).length by rw [take_filterO hlt, if_pos h, List.append_nil]
        have HK := fun (h : p xs[j] = false) (W2 : World) (hb : Stp wr W2) => (D.stp hb).keep hlt hnc h
        have HT := fun (W2 : World) (hb : Stp wr W2) (k : Nat) (hk : k < cap) => (D.stp hb).there hk
        generalize hm : ((xs.take j).filter (!p ·)).length = m at hml HK HL
        have hmz : (m : Int) < (xs.length : Int) := by omega
        have hm2 := Lib.hid hm
        generalize xs[j] = y at y0 hcall HG HK HL
        clear hm D HA D2 hp
        cases hq : p y with
        | true =>
          rw [hq] at hcall
          have HG2 := Lib.hid (HG hq)
          have HL2 := Lib.hid (HL hq)
          clear HG HK HT HL
          go_wp2_with (go_at_fn gf; refine hcall.mono ?_; rintro e w2 ⟨rfl, hb2⟩)
          go_roundw
          case rel => exact ⟨j + 1, by go_num, by rw [HL2.out], by omega, by omega, by have := HL2.out; omega, HG2.out.stp hb2⟩
          case measure => simp [intOf]; omega
        | false =>
          rw [hq] at hcall
          have HK2 := Lib.hid (HK hq)
          have HT2 := Lib.hid HT
          clear HG HK HT HL
          go_wp2_with (go_at_fn gf; refine hcall.mono ?_; rintro e w2 ⟨rfl, hb2⟩; obtain ⟨⟨u2, g2⟩, f2⟩ := HT2.out w2 hb2 m (by omega))
          go_roundw
          case rel => exact ⟨j + 1, by go_num, by rw [(HK2.out w2 hb2).2]; go_num, by omega, by omega, by have := (HK2.out w2 hb2).2; omega, (HK2.out w2 hb2).1⟩
          case measure => simp [intOf]; omega
      · have hltz : ¬ (j : Int) < (xs.length : Int) := by omega
        have hjx : j = xs.length := by omega
        subst hjx
        have hall : xs.take xs.length = xs := List.take_of_length_le (Nat.le_refl _)
        rw [hall] at hml ⊢
        obtain ⟨curE, e1, e2, e3, _⟩ := D.row
        rw [hall] at e3
        have hkpE := D.kp
        have hthere := fun (k : Nat) (hk : k < cap) => D.there hk
        clear D HA D2 hall ci hp hil1'
        obtain ⟨ys, hys⟩ : ∃ ys, xs.filter (!p ·) = ys := ⟨_, rfl⟩
        rw [hys] at e3 hml ⊢
        have HY := Lib.hid hys
        clear hys
        obtain ⟨zs, hzs⟩ : ∃ zs, (Builtin.zeroCells (Value.slice none 0 0).cells (xs.length - ys.length)).toList = zs := ⟨_, rfl⟩
        have hzl : zs.length = xs.length - ys.length := by rw [← hzs, Array.length_toList, size_zeroCells]; exact Nat.mul_one _
        have hz1 : ∀ u ∈ zs, u.oneCell' = true := by
          rw [← hzs]
          intro u hu
          simp [Builtin.zeroCells, Value.cells] at hu
          obtain ⟨_, _, rfl⟩ := hu
          rw [Nat.mod_one]; rfl
        obtain ⟨cur2, hg2, hs2, hl2⟩ := setCells_row (e := 22) zs ys.length wr curE e1 (by omega)
        have hclear := run_clear_some (P := Try.prog) (t := 24) (ty := 0) Try.underlying24 (W := wr) Try.zeroValue22 g ys.length (xs.length - ys.length) (cap - ys.length) (by omega) zs hzs (fun j hj => by obtain ⟨⟨u, hu⟩, _⟩ := hthere (ys.length + j) (by omega); rw [hu]; rfl) (fun j hj => (hthere (ys.length + j) (by omega)).2) hz1
        have hgr := setCells_grown g ys.length zs wr
        obtain ⟨w2, hw2⟩ : ∃ w2, wr.setCells g ys.length zs = w2 := ⟨_, rfl⟩
        rw [hw2] at hclear hg2 hgr
        have hkp2 : Kpt (· = g) w w2 := hkpE.trans (Kpt.of_grown (O := (· = g)) hgr fun k hk => by injection hk with hk; exact hk.symm) fun x hx => .inl hx
        have hend : w2.ownsRow 0 22 1 (.slice (some ⟨g, 0, none⟩) ys.length cap) ys.length (ys.map (SV.val)) := by
          refine ⟨by simp, .inr ⟨g, cap, cur2, rfl, Nat.zero_le _, hg2, by omega, by simp only [maxLen]; omega, by rw [hs2, e2, Nat.mul_one], ?_⟩⟩
          rw [Nat.mul_one, hl2, List.append_assoc, List.take_append_of_le_length (by rw [List.length_take, show curE.toList.length = curE.size from Array.length_toList, e2]; omega), List.take_take, Nat.min_self]
          apply List.ext_getElem?
          intro k
          rw [List.getElem?_take, List.getElem?_map]
          split
          · rename_i hk
            rw [Array.getElem?_toList, e3 k hk, List.getElem?_eq_getElem hk]; rfl
          · rename_i hk
            rw [List.getElem?_eq_none (by omega)]; rfl
        have h1 : (ys.length : Int) ≤ (xs.length : Int) := by omega
        have h2 : (xs.length : Int) ≤ (cap : Int) := by omega
        have h3 : (ys.length : Int) ≤ (cap : Int) := by omega
        have h4 : ¬ cap = ys.length := by omega
        have h5 := Lib.hid hend
        have h6 := Lib.hid hkp2
        have hclear2 := Lib.hid hclear
        clear hthere e1 e2 e3 hkpE hzs hzl hz1 hg2 hs2 hl2 hgr hw2 hclear hend hkp2 hob
        have hcl := hclear2.out
        go_wp2
        go_ret
        exact ⟨_, rfl, by rw [HY.out]; exact own_of_svs h5.out (fun k hk => .inl (by simpa [Value.ownBlock, eq_comm] using hk)), h6.out⟩
  · have hin : idx p xs < 0 := by omega
    have HF := Lib.hid (filter_missO hin)
    have hi1 : idx p xs = -1 := (idxFrom_ge p xs 0).resolve_right (fun h => by have h' : 0 ≤ idx p xs := h; omega)
    rw [hi1] at ci
    obtain ⟨A, c, rfl, hc, hm⟩ := ho.reads.form
    clear hi hin hi1
    go_enter Try.func23, Try.ntmps23
    go_wp2_with (go_at_call 29; refine ci.mono ?_; rintro e w1 ⟨rfl, hb1⟩)
    go_ret
    exact ⟨_, rfl, by rw [HF.out]; exact own_of_svs (own_svs (ho.stp hb1)) (fun k hk => .inl hk), Kpt.of_stp hb1⟩
end Go.Proofs.Lime
namespace Go.Proofs.Lime
open Go.RowKit
set_option linter.unusedVariables false
set_option linter.unusedSimpArgs false

theorem Own.tight {e : TypeId} {S : Nat → Prop} {w : World} {v : Value} {xs : List Int} (h : Own intK e S w v xs) : Own intK e (fun k => v.ownBlock = some k) w v xs := own_of_ints (own_ints h) fun k hk => hk
theorem Own.to {e : TypeId} {S S' : Nat → Prop} {w : World} {v : Value} {xs : List Int} (h : Own intK e S w v xs) (hS : ∀ k, v.ownBlock = some k → S' k) : Own intK e S' w v xs := own_of_ints (own_ints h) hS
/-- v: the outer row; L: its cells, and what each reads. The first m are of the call's own, from base on, and apart; the others are read (their blocks are R's). -/
structure Nest (base : Nat) (R : Nat → Prop) (m : Nat) (W : World) (v : Value) (L : List (SV × List Int)) : Prop where mk ::
  out : Own svK 22 (fun k => base ≤ k) W v (L.map Prod.fst)
  inn : ∀ i (h : i < L.length), i < m → Own intK 3 (fun k => base ≤ k ∧ v.ownBlock ≠ some k) W L[i].1.val L[i].2
  rest : ∀ i (h : i < L.length), m ≤ i → Row intK R W L[i].1.val L[i].2
  apart : ∀ i j (hi : i < L.length) (hj : j < L.length), i < m → j < m → i ≠ j → ∀ k, L[i].1.val.ownBlock = some k → L[j].1.val.ownBlock ≠ some k
section
variable {base m : Nat} {R : Nat → Prop} {W W2 : World} {v : Value} {L : List (SV × List Int)}
theorem Nest.kpt {O : Nat → Prop} (N : Nest base R m W v L) (hk : Kpt O W W2) (hO : ∀ k, base ≤ k → k < W.heap.size → ¬ O k) (hR : ∀ k, R k → k < W.heap.size → ¬ O k) : Nest base R m W2 v L :=
  ⟨N.out.kpt hk hO, fun i h hm => (N.inn i h hm).kpt hk fun k hk' hl => hO k hk'.1 hl, fun i h hm => (N.rest i h hm).kpt hk hR, N.apart⟩
theorem Nest.stp (N : Nest base R m W v L) (h : Stp W W2) : Nest base R m W2 v L := N.kpt (O := fun _ => False) (Kpt.of_stp h) (fun _ _ _ h => h) (fun _ _ _ h => h)
theorem Nest.lower {b : Nat} (N : Nest base R m W v L) (h : b ≤ base) : Nest b R m W v L :=
  ⟨N.out.mono fun k hk _ => Nat.le_trans h hk, fun i hi hm => (N.inn i hi hm).mono fun k hk _ => ⟨Nat.le_trans h hk.1, hk.2⟩, N.rest, N.apart⟩
/-- All is of the call's own: what was read, and was not there, counts no more. -/
theorem Nest.full {R' : Nat → Prop} {m' : Nat} (N : Nest base R m W v L) (h : L.length ≤ m) (h' : L.length ≤ m') : Nest base R' m' W v L :=
  ⟨N.out, fun i hi _ => N.inn i hi (by omega), fun i hi hm => by omega, fun i j hi hj _ _ => N.apart i j hi hj (by omega) (by omega)⟩
theorem Nest.form (N : Nest base R m W v L) : ∃ A c, v = .slice A L.length c ∧ L.length ≤ c ∧ L.length ≤ 9223372036854775807 := by
  have := N.out.reads.form
  rw [List.length_map] at this
  exact this
theorem Nest.at (N : Nest base R m W v L) (i : Nat) (hi : i < L.length) : ∃ g c, v = .slice (some ⟨g, 0, none⟩) L.length c ∧ v.ownBlock = some g ∧ base ≤ g ∧ g < W.heap.size ∧ L.length ≤ c ∧ W.cell? ⟨g, i, none⟩ = some L[i].1.val ∧ W.frozen? ⟨g, i, none⟩ = false := by
  have h := own_svs N.out
  obtain ⟨hl, hv⟩ := h
  rw [List.length_map] at hv
  rcases hv with ⟨_, h0⟩ | ⟨g, cap, cur, rfl, _, hg, hnc, hcm, hcs, htake⟩
  · omega
  · have hob : (Value.slice (some ⟨g, 0, none⟩) L.length cap).ownBlock = some g := rfl
    refine ⟨g, cap, rfl, hob, N.out.blk g hob, (Array.getElem?_eq_some_iff.1 hg).1, hnc, ?_, by simp [World.frozen?, hg]⟩
    simp only [World.cell?, hg]
    have h1 : (cur.toList.take (L.length * 1))[i]? = ((L.map Prod.fst).map SV.val)[i]? := by rw [htake]
    rw [Nat.mul_one, List.getElem?_take, if_pos hi, List.getElem?_map, List.getElem?_map, List.getElem?_eq_getElem hi] at h1
    simpa using h1
theorem Nest.get (N : Nest base R m W v L) (i : Nat) (hi : i < L.length) : ∃ A c, L[i].1 = ⟨A, L[i].2.length, c⟩ := by
  by_cases h : i < m
  · obtain ⟨A, c, e, _⟩ := (N.inn i hi h).reads.form
    refine ⟨A, c, ?_⟩
    have e' : Value.slice L[i].1.a L[i].1.n L[i].1.c = .slice A L[i].2.length c := e
    injection e' with e1 e2 e3
    rw [← e1, ← e2, ← e3]
  · obtain ⟨A, c, e, _⟩ := (N.rest i hi (by omega)).form
    refine ⟨A, c, ?_⟩
    have e' : Value.slice L[i].1.a L[i].1.n L[i].1.c = .slice A L[i].2.length c := e
    injection e' with e1 e2 e3
    rw [← e1, ← e2, ← e3]
/-- A cell of one's own row written. -/
theorem ownsRow_set {e : TypeId} {g cap n i : Nat} {vs : List Value} {u : Value} (h : W.ownsRow 0 e 1 (.slice (some ⟨g, 0, none⟩) n cap) n vs) (hi : i < n) : (W.setCell ⟨g, i, none⟩ u).ownsRow 0 e 1 (.slice (some ⟨g, 0, none⟩) n cap) n (vs.set i u) := by
  obtain ⟨hl, hv⟩ := h
  refine ⟨by rw [List.length_set]; exact hl, ?_⟩
  rcases hv with ⟨h0, _⟩ | ⟨g', cap', cur, e', hb, hg, hnc, hcm, hcs, htake⟩
  · cases h0
  · injection e' with e1 e2 e3
    injection e1 with e1
    injection e1 with e1
    subst e1 e3
    refine .inr ⟨g, cap, cur.setIfInBounds i u, rfl, hb, blk_set hg i u, hnc, hcm, by rw [Array.size_setIfInBounds]; exact hcs, ?_⟩
    rw [Array.toList_setIfInBounds, List.take_set, htake]
/-- The i-th inner list is another one now. -/
theorem Nest.set (N : Nest base R m W v L) {i : Nat} (hi : i < L.length) (him : i ≤ m) {O : Nat → Prop} (hk : Kpt O W W2) (hO : ∀ k, O k → k < W.heap.size → i < m ∧ L[i].1.val.ownBlock = some k) {u : SV} {xs : List Int} (hb : base ≤ W.heap.size) (hR : ∀ k, R k → k < base)
    (hu : Own intK 3 (fun k => (i < m ∧ L[i].1.val.ownBlock = some k) ∨ W.heap.size ≤ k) W2 u.val xs) {g : Nat} (hg : v.ownBlock = some g) :
    Nest base R (max m (i + 1)) (W2.setCell ⟨g, i, none⟩ u.val) v (L.set i (u, xs)) := by
  obtain ⟨g', c, rfl, hob, hgb, hgl, hnc, _, _⟩ := N.at i hi
  obtain rfl : g' = g := by rw [hob] at hg; exact Option.some.inj hg
  have hOg : ¬ O g' := fun h => by
    obtain ⟨h1, h2⟩ := hO g' h hgl
    exact ((N.inn i hi h1).blk g' h2).2 hob
  have hug : ∀ k, u.val.ownBlock = some k → base ≤ k ∧ k ≠ g' := fun k hk => by
    rcases hu.blk k hk with ⟨h1, h2⟩ | h
    · have := (N.inn i hi h1).blk k h2
      exact ⟨this.1, fun e => this.2 (by rw [e]; exact hob)⟩
    · exact ⟨by omega, by omega⟩
  have hfar : ∀ k, k ≠ g' → (W2.setCell ⟨g', i, none⟩ u.val).heap[k]? = W2.heap[k]? := fun k hk => Below.heap_setCell W2 ⟨g', i, none⟩ u.val k hk
  have hOj : ∀ j (hj : j < L.length), j < m → j ≠ i → ∀ k, L[j].1.val.ownBlock = some k → k < W.heap.size → ¬ O k := fun j hj hjm hne k hk hl h => by
    obtain ⟨h1, h2⟩ := hO k h hl
    exact N.apart i j hi hj h1 hjm (Ne.symm hne) k h2 hk
  refine ⟨?_, fun j hj hjm => ?_, fun j hj hjm => ?_, fun j l hj hl hjm hlm hne k hk => ?_⟩
  · have h1 := own_svs N.out
    rw [List.length_map] at h1
    have h2 : W2.ownsRow 0 22 1 (.slice (some ⟨g', 0, none⟩) L.length c) L.length ((L.map Prod.fst).map SV.val) := own_move h1 fun k hk' => by
      have : k = g' := by rw [hob] at hk'; exact (Option.some.inj hk').symm
      subst this
      exact hk.block k hgl hOg
    have h3 := ownsRow_set (u := u.val) h2 hi
    refine own_of_svs ?_ fun k hk' => by rw [hob] at hk'; have := Option.some.inj hk'; omega
    rw [List.length_map, List.length_set]
    rw [show ((L.set i (u, xs)).map Prod.fst).map SV.val = ((L.map Prod.fst).map SV.val).set i u.val by rw [List.map_set, List.map_set]]
    exact h3
  · rw [List.length_set] at hj
    by_cases hji : i = j
    · subst hji
      rw [List.getElem_set_self]
      refine (hu.tight.move fun k hk' hl => hfar k (hug k hk').2).to fun k hk' => ⟨(hug k hk').1, fun e => ?_⟩
      rw [hob] at e
      exact (hug k hk').2 (Option.some.inj e).symm
    · simp only [List.getElem_set_ne hji]
      have hjm' : j < m := by omega
      have h1 := N.inn j hj hjm'
      refine (((h1.tight.kpt hk fun k hk' hl => hOj j hj hjm' (Ne.symm hji) k hk' hl)).move fun k hk' hl => hfar k fun e => ?_).to h1.blk
      have := (h1.blk k hk').2
      rw [hob, e] at this
      exact this rfl
  · rw [List.length_set] at hj
    have hji : i ≠ j := by omega
    simp only [List.getElem_set_ne hji]
    refine ((N.rest j hj (by omega)).kpt hk fun k hk' hl h => ?_).move (fun k hk' _ => hfar k (by have := hR k hk'; omega)) (by simp)
    obtain ⟨h1, h2⟩ := hO k h hl
    have := ((N.inn i hi h1).blk k h2).1
    have := hR k hk'
    omega
  · rw [List.length_set] at hj hl
    have old : ∀ j (hj : j < L.length), j < m → j ≠ i → ∀ k, L[j].1.val.ownBlock = some k → k < W.heap.size ∧ ¬ (i < m ∧ L[i].1.val.ownBlock = some k) := fun j hj hjm hne k hk => ⟨own_lt (own_ints (N.inn j hj hjm)) k hk, fun h => N.apart i j hi hj h.1 hjm (Ne.symm hne) k h.2 hk⟩
    by_cases hji : i = j
    · subst hji
      rw [List.getElem_set_self] at hk
      simp only [List.getElem_set_ne hne]
      intro hk2
      have h1 := old l hl (by omega) (Ne.symm hne) k hk2
      rcases hu.blk k hk with h2 | h2
      · exact h1.2 h2
      · omega
    · simp only [List.getElem_set_ne hji] at hk
      by_cases hli : i = l
      · subst hli
        rw [List.getElem_set_self]
        intro hk2
        have h1 := old j hj (by omega) (Ne.symm hji) k hk
        rcases hu.blk k hk2 with h2 | h2
        · exact h1.2 h2
        · omega
      · simp only [List.getElem_set_ne hli]
        exact N.apart j l hj hl (by omega) (by omega) hne k hk
/-- Those of which something holds are left. -/
theorem Nest.filter (N : Nest base R m W v L) (hm : L.length ≤ m) (p : SV × List Int → Bool) {v2 : Value} (ho : Own svK 22 (fun k => v.ownBlock = some k ∨ W.heap.size ≤ k) W2 v2 ((L.filter p).map Prod.fst)) (hb : base ≤ W.heap.size) (hk : Kpt (fun b => v.ownBlock = some b) W W2) (hv2 : ∀ k, v2.ownBlock = some k → v.ownBlock = some k ∨ W.heap.size ≤ k) :
    Nest base R m W2 v2 (L.filter p) := by
  have hP : L.Pairwise (fun a b => ∀ k, a.1.val.ownBlock = some k → b.1.val.ownBlock ≠ some k) := List.pairwise_iff_getElem.2 fun i j hi hj hij => N.apart i j hi hj (by omega) (by omega) (by omega)
  have hA : ∀ x ∈ L, Own intK 3 (fun k => base ≤ k ∧ v.ownBlock ≠ some k) W x.1.val x.2 := fun x hx => by
    obtain ⟨i, hi, rfl⟩ := List.getElem_of_mem hx
    exact N.inn i hi (by omega)
  have hl := List.length_filter_le p L
  have hP2 := List.pairwise_iff_getElem.1 (hP.filter p)
  refine ⟨ho.mono fun k hk' _ => hk'.elim (N.out.blk k) (fun h => by omega), fun i hi _ => ?_, fun i hi h => by omega, fun i j hi hj _ _ hne k h1 h2 => ?_⟩
  · have h := hA _ (List.mem_filter.1 (List.getElem_mem hi)).1
    refine (h.kpt hk fun k hk' _ e => hk'.2 e).to fun k hk' => ?_
    have h1 := h.blk k hk'
    have h2 := own_lt (own_ints h) k hk'
    exact ⟨h1.1, fun e => (hv2 k e).elim h1.2 (fun h3 => by omega)⟩
  · rcases Nat.lt_or_gt_of_ne hne with h | h
    · exact hP2 i j hi hj h k h1 h2
    · exact hP2 j i hj hi h k h2 h1
/-- A new inner list behind all. -/
theorem Nest.push (N : Nest base R m W v L) (hm : L.length ≤ m) {v2 : Value} {u : SV} {xs : List Int} (hk : W.grownBy W2 v.ownBlock) (ho : Own svK 22 (fun k => base ≤ k) W2 v2 (L.map Prod.fst ++ [u])) {T : Nat → Prop} (hu : Own intK 3 T W u.val xs) (hT : ∀ k, T k → base ≤ k ∧ v.ownBlock ≠ some k ∧ v2.ownBlock ≠ some k ∧ ∀ i (hi : i < L.length), L[i].1.val.ownBlock ≠ some k)
    (hv2 : ∀ k, v2.ownBlock = some k → v.ownBlock = some k ∨ W.heap.size ≤ k) : Nest base R (L.length + 1) W2 v2 (L ++ [(u, xs)]) := by
  have hkp : Kpt (fun b => v.ownBlock = some b) W W2 := Kpt.of_grown hk fun k h => h
  refine ⟨by simpa using ho, fun i hi him => ?_, fun i hi h => by rw [List.length_append] at hi; simp at hi; omega, fun i j hi hj him hjm hne k h1 h2 => ?_⟩
  · by_cases h : i < L.length
    · simp only [List.getElem_append_left h]
      have h0 := N.inn i h (by omega)
      refine (h0.kpt hkp fun k hk' _ e => hk'.2 e).to fun k hk' => ?_
      have h1 := h0.blk k hk'
      have h2 := own_lt (own_ints h0) k hk'
      exact ⟨h1.1, fun e => (hv2 k e).elim h1.2 (fun h3 => by omega)⟩
    · rw [List.length_append, List.length_singleton] at hi
      obtain rfl : i = L.length := by omega
      simp only [List.getElem_append_right (Nat.le_refl _), Nat.sub_self, List.getElem_cons_zero]
      refine (hu.kpt hkp fun k hk' _ e => (hT k hk').2.1 e).to fun k hk' => ⟨(hT k (hu.blk k hk')).1, (hT k (hu.blk k hk')).2.2.1⟩
  · rw [List.length_append, List.length_singleton] at hi hj
    by_cases h : i < L.length
    · simp only [List.getElem_append_left h] at h1
      by_cases h' : j < L.length
      · simp only [List.getElem_append_left h'] at h2
        exact N.apart i j h h' (by omega) (by omega) hne k h1 h2
      · obtain rfl : j = L.length := by omega
        simp only [List.getElem_append_right (Nat.le_refl _), Nat.sub_self, List.getElem_cons_zero] at h2
        exact (hT k (hu.blk k h2)).2.2.2 i h h1
    · obtain rfl : i = L.length := by omega
      simp only [List.getElem_append_right (Nat.le_refl _), Nat.sub_self, List.getElem_cons_zero] at h1
      have h' : j < L.length := by omega
      simp only [List.getElem_append_left h'] at h2
      exact (hT k (hu.blk k h1)).2.2.2 j h' h2
end
end Go.Proofs.Lime
namespace Go.Proofs.Lime
open Go.RowKit
set_option linter.unusedVariables false
set_option linter.unusedSimpArgs false
attribute [local go_sem] Oper.semAt_some

section
variable {P : Program} {o : Oper} {a : Act} {K : Act → World → Prop} {Q : Exit → Act → World → Prop} {W : World} {α : Type} {d : Kd α} {S : Nat → Prop}
/-- append(v, ys...), as an operation. -/
theorem oper_appendrow {T T' : Nat → Prop} (s x : Operand) (t e : TypeId) (z : Value) (bytes : Nat)
    (ho : o.op = .call { callee := .builtin .append, args := #[s, x], argTypes := #[t, t] })
    (ht : P.underlying t = some (.slice e)) (hinfo : (P.info? e).map (fun i => (i.zero, i.size, i.bytes)) = some (some z, d.sz, bytes)) (hz : z.cells.size = d.sz) (hs0 : 0 < d.sz) (hb0 : 0 < bytes)
    (v : Value) (xs : List α) (u : Value) (ys : List α) (hs : a.eval s = v) (hx : a.eval x = u) (HR : Row d T W u ys) (hTT : ∀ x cs, d.K T W x cs → d.K T' W x cs) (hT : ∀ k, T' k → k < W.heap.size → S k ∧ some k ≠ v.ownBlock)
    (HO : Own d e S W v xs) (hfresh : ∀ k, W.heap.size ≤ k → S k) (hl : (xs.length + ys.length) * bytes ≤ 140737488355328)
    (h : ∀ v1 w1, Own d e S w1 v1 (xs ++ ys) → W.grownBy w1 v.ownBlock → K (a.put o.dst v1) w1) : Oper.wp P o a W K Q := by
  obtain ⟨v1, w1, hr, h1, h2, h3⟩ := run_appendrow (P := P) t o.type e z bytes ht hinfo hz hs0 hb0 v xs u ys HR hTT hT HO hfresh hl
  unfold Oper.wp
  simp [execOp, ho, resolve, invoke, builtin, hs, hx, hr, Result.andThen, Oper.upon]
  exact h v1 w1 h1 h2
end
theorem in_block {w : World} {B : Nat} {cs : Array Value} {t : TypeId} (h : w.heap[B]? = some (.cells cs t (0, 0))) (i : Nat) (u : Value) (hu : cs[i]? = some u) : w.cell? ⟨B, i, none⟩ = some u ∧ w.frozen? ⟨B, i, none⟩ = false := by
  refine ⟨by simp only [World.cell?, h]; simpa using hu, ?_⟩
  simp only [World.frozen?, h, Bool.and_eq_false_iff, decide_eq_false_iff_not]
  right; omega
theorem set_block {w : World} {B : Nat} {cs : Array Value} {t : TypeId} {fz : Nat × Nat} (h : w.heap[B]? = some (.cells cs t fz)) (i : Nat) (u : Value) : (w.setCell ⟨B, i, none⟩ u).heap[B]? = some (.cells (cs.setIfInBounds i u) t fz) := by
  unfold World.setCell
  simp only [Array.getElem?_modify, h]
  simp
theorem Kpt.then_set {O : Nat → Prop} {a b : World} (h : Kpt O a b) {B i : Nat} {u : Value} (hB : O B) : Kpt O a (b.setCell ⟨B, i, none⟩ u) := h.trans (Kpt.setCell b u hB) fun x hx => .inl hx
theorem noPanic_n {Q : Exit → Act → World → Prop} {a : Act} {w : World} (h : Q .normal a w) : NoPanic Q .normal a w := h
theorem calls_named {P : Program} {f : FuncId} {args : Array Value} {w : World} {R : Ending → World → Prop} (h : ∀ W, W = w → Calls P f args W R) : Calls P f args w R := h _ rfl
theorem put3 {w : World} {B : Nat} {t : TypeId} {x y z a b c : Value} (h : w.heap[B]? = some (.cells #[x, y, z] t (0, 0))) : (((w.setCell ⟨B, 0, none⟩ a).setCell ⟨B, 1, none⟩ b).setCell ⟨B, 2, none⟩ c).heap[B]? = some (.cells #[a, b, c] t (0, 0)) := set_block (set_block (set_block h 0 a) 1 b) 2 c
theorem far3 {w : World} {B : Nat} {a b c : Value} {k : Nat} (hk : k ≠ B) : (((w.setCell ⟨B, 0, none⟩ a).setCell ⟨B, 1, none⟩ b).setCell ⟨B, 2, none⟩ c).heap[k]? = w.heap[k]? :=
  (Below.heap_setCell _ ⟨B, 2, none⟩ c k hk).trans ((Below.heap_setCell _ ⟨B, 1, none⟩ b k hk).trans (Below.heap_setCell _ ⟨B, 0, none⟩ a k hk))
theorem kpt3 {w : World} {B : Nat} {a b c : Value} : Kpt (fun k => k = B) w (((w.setCell ⟨B, 0, none⟩ a).setCell ⟨B, 1, none⟩ b).setCell ⟨B, 2, none⟩ c) := kpt_store (kpt_store (kpt_store (Kpt.refl _ _) rfl) rfl) rfl
/-- Lists of lists, as they are handed in. -/
structure In2 (w : World) (v : Value) (L : List (SV × List Int)) : Prop where mk ::
  row : Row svK (fun k => k < w.heap.size) w v (L.map Prod.fst)
  inn : ∀ i (h : i < L.length), Row intK (fun k => k < w.heap.size) w L[i].1.val L[i].2
  few : L.length ≤ 100000
  short : ∀ i (h : i < L.length), L[i].2.length ≤ 100000
theorem In2.stp {w w1 : World} {v : Value} {L : List (SV × List Int)} (h : In2 w v L) (hb : Stp w w1) : In2 w1 v L :=
  ⟨(h.row.stp hb).mono fun k hk => Nat.lt_of_lt_of_le hk hb.size, fun i hi => ((h.inn i hi).stp hb).mono fun k hk => Nat.lt_of_lt_of_le hk hb.size, h.few, h.short⟩
set_option maxRecDepth 100000 in
set_option maxHeartbeats 4000000 in
theorem copied_c {w : World} {v : Value} {L : List (SV × List Int)} (h : In2 w v L) (a : Int) (x : Bool) :
    Calls Try.prog 19 #[.agg #[v, .int .i64 a, .bool x]] w fun e w' => ∃ v' L', e = .returned (.agg #[v', .int .i64 a, .bool x]) ∧ Nest w.heap.size (fun _ => False) L.length w' v' L' ∧ L'.map Prod.snd = L.map Prod.snd ∧ Stp w w' := by
  have hfew := h.few
  have cc := fun W (hW : Stp w W) => cloneO_c (h.row.stp hW) (by rw [List.length_map]; omega)
  obtain ⟨A, c, hv, hc, hm⟩ := h.row.form
  rw [List.length_map] at hv hc hm
  subst hv
  go_enter Try.func19, Try.ntmps19
  go_wp2_with fail
  refine calls_named fun w0 hw0 => ?_
  have hs0 : Stp w w0 := by rw [hw0]; (exact Lime.stp_)
  have hz0 : w0.heap.size = w.heap.size + 2 := by rw [hw0]; simp
  have hB1 : w0.heap[w.heap.size]? = some (.cells #[.slice A L.length c, .int .i64 a, .bool x] 26 (0, 0)) := by rw [hw0]; exact heap_old (heap_new _ _ _ rfl)
  have hB2 : w0.heap[w.heap.size + 1]? = some (.cells #[.slice none 0 0, .int .i64 0, .bool false] 26 (0, 0)) := by rw [hw0]; exact heap_new _ _ _ (by simp)
  clear hw0
  refine (show Calls Try.prog 25 _ _ _ from cc _ hs0).mono ?_
  rintro e w1 ⟨v1, rfl, o1, hb1⟩
  obtain ⟨A1, c1, rfl, _, _⟩ := o1.reads.form
  rw [List.length_map] at o1 ⊢
  have hB1' := hb1.heap hB1
  have hB2' := hb1.heap hB2
  obtain ⟨p0, f0⟩ := in_block hB1' 0 _ rfl
  go_wp2_with fail
  obtain ⟨w2, hw2⟩ : ∃ w2, w1.setCell ⟨w.heap.size, 0, none⟩ (.slice A1 L.length c1) = w2 := ⟨_, rfl⟩
  rw [hw2]
  have hk2 : Kpt (fun k => k = w.heap.size) w1 w2 := by rw [← hw2]; exact kpt_store (Kpt.refl _ _) rfl
  have hs2 : Stp w w2 := by rw [← hw2]; exact (hs0.trans hb1).setCell (Nat.le_refl _) _
  have hC1 : w2.heap[w.heap.size]? = some (.cells #[.slice A1 L.length c1, .int .i64 a, .bool x] 26 (0, 0)) := by rw [← hw2]; exact set_block hB1' 0 _
  have hC2 : w2.heap[w.heap.size + 1]? = some (.cells #[.slice none 0 0, .int .i64 0, .bool false] 26 (0, 0)) := (hk2.block _ (Array.getElem?_eq_some_iff.1 hB2').1 (by omega)).trans hB2'
  have N0 : Nest (w.heap.size + 2) (fun k => k < w.heap.size) 0 w2 (.slice A1 L.length c1) L :=
    ⟨(o1.kpt hk2 fun k hk _ e => by omega).mono fun k hk _ => by omega, fun i hi h => by omega, fun i hi _ => (h.inn i hi).stp hs2, fun i j _ _ h => by omega⟩
  have hsh := Lib.hid h.short
  have hfw := Lib.hid hfew
  clear hw2 hk2 hB1' hB2' p0 f0 hB1 hB2 o1 cc hb1 h hfew
  go_loopw [3, 11] (fun s3 s11 W => ∃ (k : Nat) (L' : List (SV × List Int)), s11 = .int .i64 k ∧ k ≤ L.length ∧ Aside (Nest (w.heap.size + 2) (fun k => k < w.heap.size) k W (.slice A1 L.length c1) L' ∧ L'.length = L.length ∧ L'.map Prod.snd = L.map Prod.snd ∧ Stp w W ∧ w.heap.size + 2 ≤ W.heap.size ∧ W.heap[w.heap.size]? = some (.cells #[.slice A1 L.length c1, .int .i64 a, .bool x] 26 (0, 0)) ∧ W.heap[w.heap.size + 1]? = some (.cells #[.slice none 0 0, .int .i64 0, .bool false] 26 (0, 0)))) (fun _ s11 _ => L.length - (intOf s11).toNat)
  case atStart => exact ⟨0, L, rfl, Nat.zero_le _, N0, rfl, rfl, hs2, by have := (Array.getElem?_eq_some_iff.1 hC2).1; omega, hC1, hC2⟩
  case round =>
    obtain ⟨k, L', rfl, hk, HA⟩ := hrel
    obtain ⟨N, hl', hm', hsw, hzw, hD1, hD2⟩ := HA.out
    clear HA
    obtain ⟨r0, _⟩ := in_block hD1 0 _ rfl
    by_cases hlt : k < L.length
    · have hltz : (k : Int) < (L.length : Int) := by omega
      have hkl : k < L'.length := by omega
      obtain ⟨g, cg, hvg, hob, hgb, hgl, _, y0, fz⟩ := N.at k hkl
      obtain ⟨Ai, ci, hgi⟩ := N.get k hkl
      have hri := N.rest k hkl (Nat.le_refl _)
      have hxs : L'[k].2 = L[k].2 := by
        have h1 : (L'.map Prod.snd)[k]? = (L.map Prod.snd)[k]? := by rw [hm']
        rw [List.getElem?_map, List.getElem?_map, List.getElem?_eq_getElem hkl, List.getElem?_eq_getElem hlt] at h1
        simpa using h1
      have hshk := hsh.out k hlt
      rw [← hxs] at hshk
      have hu := fun (W5 : World) (u : SV) (hW : Stp wr W5) (hu : Own intK 3 (fun j => wr.heap.size ≤ j) W5 u.val L'[k].2) => N.set hkl (Nat.le_refl _) (O := fun _ => False) (Kpt.of_stp hW) (fun _ h _ => h.elim) (by omega) (fun k hk => by omega) (hu.mono fun j hj _ => .inr hj) hob
      have hsnd : ∀ u : SV, (L'.set k (u, L'[k].2)).map Prod.snd = L.map Prod.snd := fun u => by
        rw [List.map_set, ← hm']
        exact List.ext_getElem (by simp) fun i h1 h2 => by
          rw [List.getElem_set]
          split
          · rename_i e; subst e; simp
          · rfl
      have HU := Lib.hid hu
      have HS := Lib.hid hsnd
      rw [hgi] at y0 hri
      injection hvg with e1 e2 e3
      subst e1 e3
      generalize L'[k].2 = xs at hri hshk HU HS y0
      clear hu hsnd hgi N hxs e2 hob
      go_wp2_with fail
      refine wp_region_noPanic ?_
      refine Go.Proofs.YtpklhnggbhkmiaaW.PrintLast.start_ (n := 11) (S := fun W_ => Stp wr W_) (ds := [10]) #[false, false, false, false, false, false, false, false, false, false, false] (by kernel_rfl) rfl (by kernel_rfl) (Stp.refl _).drew (fun hS => ?_)
      refine Go.Proofs.YtpklhnggbhkmiaaW.PrintLast.pure_ (i := 0) (v := ?_) (a' := ?_) #[true, false, false, false, false, false, false, false, false, false, false] Lime.getop_ rfl (by kernel_rfl) (fun _ _ _ h => h) (Or.inl ⟨by rfl, ?_⟩) ?_ ?_
      rotate_left
      focus (intro w_; (exact Lime.calm_))
      rotate_left
      focus (simp only [Act.put, List.setIfInBounds_toArray, List.set_cons_zero, List.set_cons_succ]; first | done | rfl)
      refine Go.Proofs.YtpklhnggbhkmiaaW.PrintLast.pure_ (i := 2) (v := ?_) (a' := ?_) #[true, false, true, false, false, false, false, false, false, false, false] Lime.getop_ rfl (by kernel_rfl) (fun _ _ _ h => h) (Or.inl ⟨by rfl, ?_⟩) ?_ ?_
      rotate_left
      focus (intro w_; (exact Lime.calm_))
      rotate_left
      focus (simp only [Act.put, List.setIfInBounds_toArray, List.set_cons_zero, List.set_cons_succ]; first | done | rfl)
      refine Go.Proofs.YtpklhnggbhkmiaaW.PrintLast.pure_ (i := 3) (v := ?_) (a' := ?_) #[true, false, true, true, false, false, false, false, false, false, false] Lime.getop_ rfl (by kernel_rfl) (fun _ _ _ h => h) (Or.inl ⟨by rfl, ?_⟩) ?_ ?_
      rotate_left
      focus (intro w_; (exact Lime.calm_))
      rotate_left
      focus (simp only [Act.put, List.setIfInBounds_toArray, List.set_cons_zero, List.set_cons_succ]; first | done | rfl)
      refine Go.Proofs.YtpklhnggbhkmiaaW.PrintLast.pure_ (i := 5) (v := ?_) (a' := ?_) #[true, false, true, true, false, true, false, false, false, false, false] Lime.getop_ rfl (by kernel_rfl) (fun _ _ _ h => h) (Or.inl ⟨by rfl, ?_⟩) ?_ ?_
      rotate_left
      focus (intro w_; (exact Lime.calm_))
      rotate_left
      focus (simp only [Act.put, List.setIfInBounds_toArray, List.set_cons_zero, List.set_cons_succ]; first | done | rfl)
      refine Go.Proofs.YtpklhnggbhkmiaaW.PrintLast.take_ (i := 1) (v := ?_) (a' := ?_) #[true, true, true, true, false, true, false, false, false, false, false] Lime.getop_ rfl (by kernel_rfl) (fun _ _ _ h => h) (Or.inl ⟨by rfl, ?_⟩) hS ?_ ?_
      rotate_left
      focus (intro w_ hw_; have q0_ := hw_.cell r0; have q1_ := hw_.cell y0; (exact Lime.calm_))
      rotate_left
      focus (simp only [Act.put, List.setIfInBounds_toArray, List.set_cons_zero, List.set_cons_succ]; first | done | rfl)
      refine Go.Proofs.YtpklhnggbhkmiaaW.PrintLast.take_ (i := 4) (v := ?_) (a' := ?_) #[true, true, true, true, true, true, false, false, false, false, false] Lime.getop_ rfl (by kernel_rfl) (fun _ _ _ h => h) (Or.inl ⟨by rfl, ?_⟩) hS ?_ ?_
      rotate_left
      focus (intro w_ hw_; have q0_ := hw_.cell r0; have q1_ := hw_.cell y0; (exact Lime.calm_))
      rotate_left
      focus (simp only [Act.put, List.setIfInBounds_toArray, List.set_cons_zero, List.set_cons_succ]; first | done | rfl)
      refine Go.Proofs.YtpklhnggbhkmiaaW.PrintLast.pure_ (i := 6) (v := ?_) (a' := ?_) #[true, true, true, true, true, true, true, false, false, false, false] Lime.getop_ rfl (by kernel_rfl) (fun _ _ _ h => h) (Or.inl ⟨by rfl, ?_⟩) ?_ ?_
      rotate_left
      focus (intro w_; (exact Lime.calm_))
      rotate_left
      focus (simp only [Act.put, List.setIfInBounds_toArray, List.set_cons_zero, List.set_cons_succ]; first | done | rfl)
      refine Go.Proofs.YtpklhnggbhkmiaaW.PrintLast.take_ (i := 7) (v := ?_) (a' := ?_) #[true, true, true, true, true, true, true, true, false, false, false] Lime.getop_ rfl (by kernel_rfl) (fun _ _ _ h => h) (Or.inl ⟨by rfl, ?_⟩) hS ?_ ?_
      rotate_left
      focus (intro w_ hw_; have q0_ := hw_.cell r0; have q1_ := hw_.cell y0; (exact Lime.calm_))
      rotate_left
      focus (simp only [Act.put, List.setIfInBounds_toArray, List.set_cons_zero, List.set_cons_succ]; first | done | rfl)
      refine Go.Proofs.YtpklhnggbhkmiaaW.PrintLast.one_ (i := 8) #[true, true, true, true, true, true, true, true, true, false, false] Lime.getop_ rfl (by kernel_rfl) (by decide) (fun K hK => ?_)
      rw [if_pos (by rfl)]; go_simp; refine (show Calls Try.prog 26 _ _ _ from cloneI_c (hri.stp Lime.stp_) (by omega)).mono ?_; rintro e w5 ⟨u5, rfl, o5, hb5⟩; obtain ⟨A5, c5, rfl, _, _⟩ := o5.reads.form
      refine hK.out _ _ Lime.stp_ (fun hst => ?_); replace hS := hst
      clear hK K
      (try simp only [Act.put, List.setIfInBounds_toArray, List.set_cons_zero, List.set_cons_succ])
      refine Go.Proofs.YtpklhnggbhkmiaaW.PrintLast.pure_ (i := 9) (v := ?_) (a' := ?_) #[true, true, true, true, true, true, true, true, true, true, false] Lime.getop_ rfl (by kernel_rfl) (fun _ _ _ h => h) (Or.inl ⟨by rfl, ?_⟩) ?_ ?_
      rotate_left
      focus (intro w_; (exact Lime.calm_))
      rotate_left
      focus (simp only [Act.put, List.setIfInBounds_toArray, List.set_cons_zero, List.set_cons_succ]; first | done | rfl)
      refine Go.Proofs.YtpklhnggbhkmiaaW.PrintLast.last_ (i := 10) #[true, true, true, true, true, true, true, true, true, true, true] Lime.getop_ rfl (by kernel_rfl) (by decide) (fun K hK => ?_)
      rw [if_pos (by rfl)]; have q0 := hS.cell y0; have qf := (hS.bc.2 g k hgl).trans fz; go_simp
      refine hK.out _ _ ?_
      clear hK K
      (try simp only [Act.put, List.setIfInBounds_toArray, List.set_cons_zero, List.set_cons_succ])
      refine Go.Proofs.YtpklhnggbhkmiaaW.PrintLast.done_ (by kernel_rfl) (noPanic_n ?_)
      go_wp2_with fail
      go_roundw
      case rel =>
        have n1 : w.heap.size ≠ g := by omega
        have n2 : w.heap.size + 1 ≠ g := by omega
        have n3 := HU.out w5 ⟨A5, xs.length, c5⟩ hS (o5.mono fun j hj _ => hj)
        rw [Nat.max_eq_right (by omega)] at n3
        have n4 := hS.size
        exact ⟨k + 1, L'.set k (⟨A5, xs.length, c5⟩, xs), by go_num, hlt, n3, by rw [List.length_set]; exact hl', HS.out _, (hsw.trans hS).setCell (by omega) _, by rw [World.size_setCell]; omega, (Below.heap_setCell _ ⟨g, k, none⟩ _ _ n1).trans (hS.heap hD1), (Below.heap_setCell _ ⟨g, k, none⟩ _ _ n2).trans (hS.heap hD2)⟩
      case measure => simp [intOf]; omega
    · have hltz : ¬ (k : Int) < (L.length : Int) := by omega
      obtain ⟨r1, _⟩ := in_block hD1 1 _ rfl
      obtain ⟨r2, _⟩ := in_block hD1 2 _ rfl
      obtain ⟨t0, g0⟩ := in_block hD2 0 _ rfl
      obtain ⟨t1, g1⟩ := in_block hD2 1 _ rfl
      obtain ⟨t2, g2⟩ := in_block hD2 2 _ rfl
      have N' := fun (a b c : Value) => ((N.kpt (O := fun j => j = w.heap.size + 1) (kpt3 (w := wr) (B := w.heap.size + 1) (a := a) (b := b) (c := c)) (fun j hj _ e => by omega) (fun j hj _ e => by omega)).full (R' := fun _ => False) (m' := L.length) (by omega) (by omega)).lower (b := w.heap.size) (by omega)
      go_wp2
      refine bodyPost_ret (results_cell_row rfl _ _ (w.heap.size + 1) 26 #[.slice A1 L.length c1, .int .i64 a, .bool x] (0, 0) _ rfl (put3 hD2) Try.underlying26 rfl (by kernel_rfl)) rfl ?_
      exact ⟨_, rfl, L', N' _ _ _, hm', by (exact Lime.stp_)⟩
end Go.Proofs.Lime
namespace Go.Proofs.Lime
open Go.RowKit
set_option linter.unusedVariables false
set_option linter.unusedSimpArgs false
attribute [local go_sem] Oper.semAt_some

theorem frozen_of_block {W W2 : World} {b o : Nat} (h : W2.heap[b]? = W.heap[b]?) : W2.frozen? ⟨b, o, none⟩ = W.frozen? ⟨b, o, none⟩ := by simp only [World.frozen?, h]
/-- How many there may be after an act. -/
def actA (a : Int) (x : Bool) : Int := if x = true ∧ a < 1000 then wrap64 (a + 1) else a
def openG (G : List (List Int)) (a : Int) (n : Int) : List (List Int) := if G.length = 0 ∨ (G.length : Int) < a then G ++ [[n]] else G.set (G.length - 1) (G.getD (G.length - 1) [] ++ [n])
set_option maxRecDepth 100000 in
set_option maxHeartbeats 4000000 in
theorem act_c {w : World} {v : Value} {L : List (SV × List Int)} (h : In2 w v L) (a : Int) (x : Bool) :
    Calls Try.prog 10 #[.agg #[v, .int .i64 a, .bool x]] w fun e w' => ∃ v' L', e = .returned (.agg #[v', .int .i64 (actA a x), .bool false]) ∧ Nest w.heap.size (fun _ => False) L.length w' v' L' ∧ L'.map Prod.snd = L.map Prod.snd ∧ Stp w w' := by
  have cc := fun W (hW : Stp w W) => copied_c (h.stp hW) a x
  obtain ⟨A, c, hv, hc, hm⟩ := h.row.form
  rw [List.length_map] at hv hc hm
  subst hv
  have HR := Lib.hid (show actA a x = if x = true ∧ a < 1000 then wrap64 (a + 1) else a from rfl)
  go_enter Try.func10, Try.ntmps10
  go_wp2_with fail
  refine calls_named fun w0 hw0 => ?_
  have hs0 : Stp w w0 := by rw [hw0]; (exact Lime.stp_)
  have hz0 : w0.heap.size = w.heap.size + 2 := by rw [hw0]; simp
  have hB1 : w0.heap[w.heap.size]? = some (.cells #[.slice A L.length c, .int .i64 a, .bool x] 26 (0, 0)) := by rw [hw0]; exact heap_old (heap_new _ _ _ rfl)
  have hB2 : w0.heap[w.heap.size + 1]? = some (.cells #[.slice none 0 0, .int .i64 0, .bool false] 26 (0, 0)) := by rw [hw0]; exact heap_new _ _ _ (by simp)
  clear hw0
  refine (show Calls Try.prog 19 _ _ _ from cc _ hs0).mono ?_
  rintro e w1 ⟨v1, L', rfl, N, hmp, hb1⟩
  have hl' : L'.length = L.length := by have := congrArg List.length hmp; simpa using this
  have hNf := N.form
  rw [hl'] at hNf
  obtain ⟨A1, c1, rfl, _, _⟩ := hNf
  have hC1 := hb1.heap hB1
  have hC2 := hb1.heap hB2
  have hs1 := hs0.trans hb1
  have hz1 := hb1.size
  obtain ⟨p0, f0⟩ := in_block hC1 0 _ rfl
  obtain ⟨p1, f1⟩ := in_block hC1 1 _ rfl
  obtain ⟨p2, f2⟩ := in_block hC1 2 _ rfl
  clear cc h hB1 hB2 hb1 hs0
  go_upto_region 2 with fail
  obtain ⟨w2, hw2⟩ : ∃ w2, ((w1.setCell ⟨w.heap.size, 0, none⟩ (.slice A1 L.length c1)).setCell ⟨w.heap.size, 1, none⟩ (.int .i64 a)).setCell ⟨w.heap.size, 2, none⟩ (.bool x) = w2 := ⟨_, rfl⟩
  rw [hw2]
  have hk2 : Kpt (fun k => k = w.heap.size) w1 w2 := by rw [← hw2]; exact kpt3
  have hD1 : w2.heap[w.heap.size]? = some (.cells #[.slice A1 L.length c1, .int .i64 a, .bool x] 26 (0, 0)) := by rw [← hw2]; exact put3 hC1
  have hs2 : Stp w w2 := by rw [← hw2]; (exact Lime.stp_)
  clear hw2 p0 f0 p1 f1 p2 f2 hs1
  have hD2 := (hk2.block _ (Array.getElem?_eq_some_iff.1 hC2).1 (by omega)).trans hC2
  have N2 : Nest (w.heap.size + 2) (fun _ => False) L.length w2 (.slice A1 L.length c1) L' := (N.lower (by omega)).kpt hk2 (fun k hk _ e => by omega) (fun k hk _ e => hk)
  clear N hk2 hC1 hC2 hz1
  obtain ⟨p0, f0⟩ := in_block hD1 0 _ rfl
  obtain ⟨p1, f1⟩ := in_block hD1 1 _ rfl
  obtain ⟨p2, f2⟩ := in_block hD1 2 _ rfl
  have fin : ∀ (w3 : World) (y : Bool), Kpt (fun k => k = w.heap.size) w2 w3 → w3.heap[w.heap.size]? = some (.cells #[.slice A1 L.length c1, .int .i64 (actA a x), .bool y] 26 (0, 0)) → w3.heap[w.heap.size + 1]? = some (.cells #[.slice none 0 0, .int .i64 0, .bool false] 26 (0, 0)) ∧ Stp w w3 ∧
      (∀ (u1 u2 u3 u4 : Value), Nest w.heap.size (fun _ => False) L.length ((((w3.setCell ⟨w.heap.size, 2, none⟩ u1).setCell ⟨w.heap.size + 1, 0, none⟩ u2).setCell ⟨w.heap.size + 1, 1, none⟩ u3).setCell ⟨w.heap.size + 1, 2, none⟩ u4) (.slice A1 L.length c1) L') ∧
      (∀ (u1 u2 u3 u4 : Value), ((((w3.setCell ⟨w.heap.size, 2, none⟩ u1).setCell ⟨w.heap.size + 1, 0, none⟩ u2).setCell ⟨w.heap.size + 1, 1, none⟩ u3).setCell ⟨w.heap.size + 1, 2, none⟩ u4).heap[w.heap.size + 1]? = some (.cells #[u2, u3, u4] 26 (0, 0))) := by
    intro w3 y hk3 hE1
    have hz2 := (Array.getElem?_eq_some_iff.1 hD2).1
    have hE2 := (hk3.block _ hz2 (by omega)).trans hD2
    refine ⟨hE2, ((Kpt.of_stp (O := fun k => k = w.heap.size) hs2).trans hk3 fun x hx => .inl hx).stp (fun x hx => by omega), fun u1 u2 u3 u4 => ?_, fun u1 u2 u3 u4 => ?_⟩
    · have hk4 : Kpt (fun k => k = w.heap.size ∨ k = w.heap.size + 1) w2 ((((w3.setCell ⟨w.heap.size, 2, none⟩ u1).setCell ⟨w.heap.size + 1, 0, none⟩ u2).setCell ⟨w.heap.size + 1, 1, none⟩ u3).setCell ⟨w.heap.size + 1, 2, none⟩ u4) := kpt_store (kpt_store (kpt_store (kpt_store (hk3.mono fun x hx => .inl (.inl hx)) (.inl rfl)) (.inr rfl)) (.inr rfl)) (.inr rfl)
      exact (N2.kpt hk4 (fun k hk _ e => by omega) (fun k hk _ _ => hk)).lower (by omega)
    · exact put3 ((Below.heap_setCell w3 ⟨w.heap.size, 2, none⟩ u1 _ (by show w.heap.size + 1 ≠ w.heap.size; omega)).trans hE2)
  have HF := Lib.hid fin
  clear fin N2
  by_cases hx : x = true ∧ a < 1000
  · obtain ⟨rfl, ha⟩ := hx
    have e1 := Lib.hid (show actA a true = wrap64 (a + 1) by rw [HR.out, if_pos ⟨rfl, ha⟩])
    go_upto_region 4 with fail
    obtain ⟨w3, hw3⟩ : ∃ w3, w2.setCell ⟨w.heap.size, 1, none⟩ (.int .i64 (wrap64 (a + 1))) = w3 := ⟨_, rfl⟩
    have hk3 : Kpt (fun k => k = w.heap.size) w2 w3 := by rw [← hw3]; exact kpt_store (Kpt.refl _ _) rfl
    have hE1 : w3.heap[w.heap.size]? = some (.cells #[.slice A1 L.length c1, .int .i64 (actA a true), .bool true] 26 (0, 0)) := by rw [← hw3]; rw [e1.out]; exact set_block hD1 1 _
    rw [hw3]
    clear p0 p1 p2 f0 f1 f2
    obtain ⟨hE2, hs3, hN3, hB3⟩ := HF.out w3 true hk3 hE1
    obtain ⟨r2, g2⟩ := in_block hE1 2 _ rfl
    go_upto_region 5 with fail
    obtain ⟨w4, hw4⟩ : ∃ w4, w3.setCell ⟨w.heap.size, 2, none⟩ (.bool false) = w4 := ⟨_, rfl⟩
    have hN4 := hN3 (.bool false)
    have hB4 := hB3 (.bool false)
    simp only [hw4] at hN4 hB4
    have hF1 : w4.heap[w.heap.size]? = some (.cells #[.slice A1 L.length c1, .int .i64 (actA a true), .bool false] 26 (0, 0)) := by rw [← hw4]; exact set_block hE1 2 _
    have hF2 : w4.heap[w.heap.size + 1]? = some (.cells #[.slice none 0 0, .int .i64 0, .bool false] 26 (0, 0)) := by rw [← hw4]; exact (Below.heap_setCell w3 ⟨w.heap.size, 2, none⟩ _ _ (by show w.heap.size + 1 ≠ w.heap.size; omega)).trans hE2
    have hs4 : Stp w w4 := by rw [← hw4]; exact hs3.setCell (Nat.le_refl _) _
    rw [hw4]
    clear hw4 r2 g2 HF hN3 hB3 hD1 hD2
    obtain ⟨r0, _⟩ := in_block hF1 0 _ rfl
    obtain ⟨r1, _⟩ := in_block hF1 1 _ rfl
    obtain ⟨r2, _⟩ := in_block hF1 2 _ rfl
    obtain ⟨t0, g0⟩ := in_block hF2 0 _ rfl
    obtain ⟨t1, g1⟩ := in_block hF2 1 _ rfl
    obtain ⟨t2, g2⟩ := in_block hF2 2 _ rfl
    go_wp2
    refine bodyPost_ret (results_cell_row rfl _ _ (w.heap.size + 1) 26 #[.slice A1 L.length c1, .int .i64 (actA a true), .bool false] (0, 0) _ rfl (hB4 _ _ _) Try.underlying26 rfl (by kernel_rfl)) rfl ?_
    first | exact ⟨_, rfl, L', hN4 _ _ _, hmp, by (exact Lime.stp_)⟩ | exact ⟨_, L', rfl, hN4 _ _ _, hmp, by (exact Lime.stp_)⟩
  · have e1 := Lib.hid (show actA a x = a by rw [HR.out, if_neg hx])
    have hxb : x = false ∨ (x = true ∧ ¬ a < 1000) := by cases x <;> simp_all
    rcases hxb with rfl | ⟨rfl, ha⟩
    · go_upto_region 4 with fail
      obtain ⟨w3, hw3⟩ : ∃ w3, w2 = w3 := ⟨_, rfl⟩
      have hk3 : Kpt (fun k => k = w.heap.size) w2 w3 := by rw [← hw3]; exact Kpt.refl _ _
      have hE1 : w3.heap[w.heap.size]? = some (.cells #[.slice A1 L.length c1, .int .i64 (actA a false), .bool false] 26 (0, 0)) := by rw [← hw3]; rw [e1.out]; exact hD1
      rw [hw3]
      clear p0 p1 p2 f0 f1 f2
      obtain ⟨hE2, hs3, hN3, hB3⟩ := HF.out w3 false hk3 hE1
      obtain ⟨r2, g2⟩ := in_block hE1 2 _ rfl
      go_upto_region 5 with fail
      obtain ⟨w4, hw4⟩ : ∃ w4, w3.setCell ⟨w.heap.size, 2, none⟩ (.bool false) = w4 := ⟨_, rfl⟩
      have hN4 := hN3 (.bool false)
      have hB4 := hB3 (.bool false)
      simp only [hw4] at hN4 hB4
      have hF1 : w4.heap[w.heap.size]? = some (.cells #[.slice A1 L.length c1, .int .i64 (actA a false), .bool false] 26 (0, 0)) := by rw [← hw4]; exact set_block hE1 2 _
      have hF2 : w4.heap[w.heap.size + 1]? = some (.cells #[.slice none 0 0, .int .i64 0, .bool false] 26 (0, 0)) := by rw [← hw4]; exact (Below.heap_setCell w3 ⟨w.heap.size, 2, none⟩ _ _ (by show w.heap.size + 1 ≠ w.heap.size; omega)).trans hE2
      have hs4 : Stp w w4 := by rw [← hw4]; exact hs3.setCell (Nat.le_refl _) _
      rw [hw4]
      clear hw4 r2 g2 HF hN3 hB3 hD1 hD2
      obtain ⟨r0, _⟩ := in_block hF1 0 _ rfl
      obtain ⟨r1, _⟩ := in_block hF1 1 _ rfl
      obtain ⟨r2, _⟩ := in_block hF1 2 _ rfl
      obtain ⟨t0, g0⟩ := in_block hF2 0 _ rfl
      obtain ⟨t1, g1⟩ := in_block hF2 1 _ rfl
      obtain ⟨t2, g2⟩ := in_block hF2 2 _ rfl
      go_wp2
      refine bodyPost_ret (results_cell_row rfl _ _ (w.heap.size + 1) 26 #[.slice A1 L.length c1, .int .i64 (actA a false), .bool false] (0, 0) _ rfl (hB4 _ _ _) Try.underlying26 rfl (by kernel_rfl)) rfl ?_
      first | exact ⟨_, rfl, L', hN4 _ _ _, hmp, by (exact Lime.stp_)⟩ | exact ⟨_, L', rfl, hN4 _ _ _, hmp, by (exact Lime.stp_)⟩
    · go_upto_region 4 with fail
      obtain ⟨w3, hw3⟩ : ∃ w3, w2 = w3 := ⟨_, rfl⟩
      have hk3 : Kpt (fun k => k = w.heap.size) w2 w3 := by rw [← hw3]; exact Kpt.refl _ _
      have hE1 : w3.heap[w.heap.size]? = some (.cells #[.slice A1 L.length c1, .int .i64 (actA a true), .bool true] 26 (0, 0)) := by rw [← hw3]; rw [e1.out]; exact hD1
      rw [hw3]
      clear p0 p1 p2 f0 f1 f2
      obtain ⟨hE2, hs3, hN3, hB3⟩ := HF.out w3 true hk3 hE1
      obtain ⟨r2, g2⟩ := in_block hE1 2 _ rfl
      go_upto_region 5 with fail
      obtain ⟨w4, hw4⟩ : ∃ w4, w3.setCell ⟨w.heap.size, 2, none⟩ (.bool false) = w4 := ⟨_, rfl⟩
      have hN4 := hN3 (.bool false)
      have hB4 := hB3 (.bool false)
      simp only [hw4] at hN4 hB4
      have hF1 : w4.heap[w.heap.size]? = some (.cells #[.slice A1 L.length c1, .int .i64 (actA a true), .bool false] 26 (0, 0)) := by rw [← hw4]; exact set_block hE1 2 _
      have hF2 : w4.heap[w.heap.size + 1]? = some (.cells #[.slice none 0 0, .int .i64 0, .bool false] 26 (0, 0)) := by rw [← hw4]; exact (Below.heap_setCell w3 ⟨w.heap.size, 2, none⟩ _ _ (by show w.heap.size + 1 ≠ w.heap.size; omega)).trans hE2
      have hs4 : Stp w w4 := by rw [← hw4]; exact hs3.setCell (Nat.le_refl _) _
      rw [hw4]
      clear hw4 r2 g2 HF hN3 hB3 hD1 hD2
      obtain ⟨r0, _⟩ := in_block hF1 0 _ rfl
      obtain ⟨r1, _⟩ := in_block hF1 1 _ rfl
      obtain ⟨r2, _⟩ := in_block hF1 2 _ rfl
      obtain ⟨t0, g0⟩ := in_block hF2 0 _ rfl
      obtain ⟨t1, g1⟩ := in_block hF2 1 _ rfl
      obtain ⟨t2, g2⟩ := in_block hF2 2 _ rfl
      go_wp2
      refine bodyPost_ret (results_cell_row rfl _ _ (w.heap.size + 1) 26 #[.slice A1 L.length c1, .int .i64 (actA a true), .bool false] (0, 0) _ rfl (hB4 _ _ _) Try.underlying26 rfl (by kernel_rfl)) rfl ?_
      first | exact ⟨_, rfl, L', hN4 _ _ _, hmp, by (exact Lime.stp_)⟩ | exact ⟨_, L', rfl, hN4 _ _ _, hmp, by (exact Lime.stp_)⟩
end Go.Proofs.Lime
namespace Go.Proofs.Lime
open Go.RowKit
set_option linter.unusedVariables false
set_option linter.unusedSimpArgs false
attribute [local go_sem] Oper.semAt_some

theorem own_lit {S : Nat → Prop} {w : World} {B : Nat} {x : Int} (h : w.heap[B]? = some (.cells #[.int .i64 x] 3 (0, 0))) (hS : S B) : Own intK 3 S w (.slice (some ⟨B, 0, none⟩) 1 1) [x] := by
  refine own_of_ints (xs := [x]) ⟨rfl, .inr ⟨B, 1, _, rfl, Nat.zero_le _, h, Nat.le_refl _, by simp [maxLen], rfl, rfl⟩⟩ fun k hk => ?_
  have : B = k := by simpa [Value.ownBlock] using hk
  exact this ▸ hS
set_option maxRecDepth 100000 in
set_option maxHeartbeats 4000000 in
theorem open_c {w : World} {v : Value} {L : List (SV × List Int)} (h : In2 w v L) (a : Int) (x : Bool) (n : Int) :
    Calls Try.prog 11 #[.agg #[v, .int .i64 a, .bool x], .int .i64 n] w fun e w' => ∃ v' L', e = .returned (.agg #[v', .int .i64 a, .bool true]) ∧ Nest w.heap.size (fun _ => False) L'.length w' v' L' ∧ L'.map Prod.snd = openG (L.map Prod.snd) a n ∧ Stp w w' := by
  have cc := fun W (hW : Stp w W) => copied_c (h.stp hW) a x
  have hfew := h.few
  have hsh := Lib.hid h.short
  obtain ⟨A, c, hv, hc, hm⟩ := h.row.form
  rw [List.length_map] at hv hc hm
  subst hv
  have HR := Lib.hid (show openG (L.map Prod.snd) a n = if L.length = 0 ∨ (L.length : Int) < a then L.map Prod.snd ++ [[n]] else (L.map Prod.snd).set (L.length - 1) ((L.map Prod.snd).getD (L.length - 1) [] ++ [n]) by simp only [openG, List.length_map])
  go_enter Try.func11, Try.ntmps11
  go_wp2_with fail
  refine calls_named fun w0 hw0 => ?_
  have hs0 : Stp w w0 := by rw [hw0]; (exact Lime.stp_)
  have hz0 : w0.heap.size = w.heap.size + 2 := by rw [hw0]; simp
  have hB1 : w0.heap[w.heap.size]? = some (.cells #[.slice A L.length c, .int .i64 a, .bool x] 26 (0, 0)) := by rw [hw0]; exact heap_old (heap_new _ _ _ rfl)
  have hB2 : w0.heap[w.heap.size + 1]? = some (.cells #[.slice none 0 0, .int .i64 0, .bool false] 26 (0, 0)) := by rw [hw0]; exact heap_new _ _ _ (by simp)
  clear hw0
  refine (show Calls Try.prog 19 _ _ _ from cc _ hs0).mono ?_
  rintro e w1 ⟨v1, L', rfl, N, hmp, hb1⟩
  have hl' : L'.length = L.length := by have := congrArg List.length hmp; simpa using this
  have hNf := N.form
  rw [hl'] at hNf
  obtain ⟨A1, c1, rfl, _, _⟩ := hNf
  have hC1 := hb1.heap hB1
  have hC2 := hb1.heap hB2
  have hs1 := hs0.trans hb1
  have hz1 := hb1.size
  obtain ⟨p0, f0⟩ := in_block hC1 0 _ rfl
  obtain ⟨p1, f1⟩ := in_block hC1 1 _ rfl
  obtain ⟨p2, f2⟩ := in_block hC1 2 _ rfl
  clear cc h hB1 hB2 hb1 hs0
  go_upto_region 2 with fail
  obtain ⟨w2, hw2⟩ : ∃ w2, ((w1.setCell ⟨w.heap.size, 0, none⟩ (.slice A1 L.length c1)).setCell ⟨w.heap.size, 1, none⟩ (.int .i64 a)).setCell ⟨w.heap.size, 2, none⟩ (.bool x) = w2 := ⟨_, rfl⟩
  rw [hw2]
  have hk2 : Kpt (fun k => k = w.heap.size) w1 w2 := by rw [← hw2]; exact kpt3
  have hD1 : w2.heap[w.heap.size]? = some (.cells #[.slice A1 L.length c1, .int .i64 a, .bool x] 26 (0, 0)) := by rw [← hw2]; exact put3 hC1
  have hs2 : Stp w w2 := by rw [← hw2]; (exact Lime.stp_)
  clear hw2 p0 f0 p1 f1 p2 f2 hs1
  have hD2 := (hk2.block _ (Array.getElem?_eq_some_iff.1 hC2).1 (by omega)).trans hC2
  have hz2 := hk2.size
  have N2 : Nest (w.heap.size + 2) (fun _ => False) L.length w2 (.slice A1 L.length c1) L' := (N.lower (by omega)).kpt hk2 (fun k hk _ e => by omega) (fun k hk _ e => hk)
  clear N hk2 hC1 hC2
  obtain ⟨p0, f0⟩ := in_block hD1 0 _ rfl
  obtain ⟨p1, f1⟩ := in_block hD1 1 _ rfl
  by_cases hc0 : L.length = 0 ∨ (L.length : Int) < a
  · have HR2 := Lib.hid (show openG (L.map Prod.snd) a n = L.map Prod.snd ++ [[n]] by rw [HR.out, if_pos hc0])
    clear HR
    have e1 : (decide ((L.length : Int) - 1 < 0) = true) ∨ (¬ ((L.length : Int) - 1 < 0) ∧ (L.length : Int) < a) := by
      rcases hc0 with h | h
      · exact .inl (by simp; omega)
      · by_cases h0 : (L.length : Int) - 1 < 0
        · exact .inl (by simpa using h0)
        · exact .inr ⟨h0, h⟩
    have hO := N2.out
    have hll : ((L'.map Prod.fst).length + 1) * 24 ≤ 140737488355328 := by rw [List.length_map]; omega
    have HN := Lib.hid N2
    have hOt : Own svK 22 (fun k => (Value.slice A1 L.length c1).ownBlock = some k ∨ w2.heap.size + 1 ≤ k) w2 (.slice A1 L.length c1) (L'.map Prod.fst) := own_of_svs (own_svs hO) fun k hk => .inl hk
    have hbo := hO.blk
    have hbl : ∀ k, (Value.slice A1 L.length c1).ownBlock = some k → k < w2.heap.size := fun k hk => own_lt (own_svs hO) k hk
    have hkk : ∀ w9, (w2.alloc (.cells #[.int .i64 n] 3)).grownBy w9 (Value.slice A1 L.length c1).ownBlock → Kpt (fun b => (Value.slice A1 L.length c1).ownBlock = some b) w2 w9 := fun w9 hg => (Kpt.of_stp ((Stp.refl w2).alloc (.cells #[.int .i64 n] 3))).trans (Kpt.of_grown hg fun k h => h) fun x hx => .inl hx
    have hEE : ∀ w9, Kpt (fun b => (Value.slice A1 L.length c1).ownBlock = some b) w2 w9 → w9.heap[w.heap.size]? = some (.cells #[.slice A1 L.length c1, .int .i64 a, .bool x] 26 (0, 0)) := fun w9 hk => (hk.block _ (Array.getElem?_eq_some_iff.1 hD1).1 (fun e => by have := hbo _ e; omega)).trans hD1
    have hTT : ∀ k, k = w2.heap.size → ∀ v9 : Value, v9.ownBlock ≠ some k → w.heap.size + 2 ≤ k ∧ (Value.slice A1 L.length c1).ownBlock ≠ some k ∧ v9.ownBlock ≠ some k ∧ ∀ i (hi : i < L'.length), L'[i].1.val.ownBlock ≠ some k := fun k hk v9 hv9 =>
      ⟨by omega, fun e => by have := hbl k e; omega, hv9, fun i hi e => by have := own_lt (own_ints (N2.inn i hi (by omega))) k e; omega⟩
    clear hc0
    rcases e1 with e1 | ⟨e1, e2⟩
    · have e1' : (L.length : Int) - 1 < 0 := by simpa using e1
      clear e1
      go_upto_region 6 with (at_builtin; go_loud (refine wpl_append1 (d := svK) (S := fun k => (Value.slice A1 L.length c1).ownBlock = some k ∨ w2.heap.size + 1 ≤ k) (T := fun _ => False) rfl (.tmp 23) (.tmp 26) 24 22 _ 24 rfl Try.underlying24 infoSl rfl (by decide) (by decide) (.slice A1 L.length c1) (L'.map Prod.fst) (⟨some ⟨w2.heap.size, 0, none⟩, 1, 1⟩ : SV) [.slice (some ⟨w2.heap.size, 0, none⟩) 1 1] rfl (by first | (go_simp; done) | (go_simp; rfl)) rfl (fun _ h => h.elim) (hOt.stp Lime.stp_) (fun k hk => .inr (by simpa using hk)) hll ?_; intro v9 w9 ho9 hg9; obtain ⟨A9, c9, e9, _, _⟩ := ho9.reads.form; rw [List.length_append, List.length_map, List.length_singleton, hl'] at e9; subst e9; have hk9 := hkk w9 hg9; obtain ⟨s0, h0⟩ := in_block (hEE w9 hk9) 0 _ rfl))
      obtain ⟨w10, hw10⟩ : ∃ w10, w9.setCell ⟨w.heap.size, 0, none⟩ (.slice A9 (L.length + 1) c9) = w10 := ⟨_, rfl⟩
      have hE1 : w10.heap[w.heap.size]? = some (.cells #[.slice A9 (L.length + 1) c9, .int .i64 a, .bool x] 26 (0, 0)) := by rw [← hw10]; exact set_block (hEE w9 hk9) 0 _
      have hk10 : Kpt (fun k => k = w.heap.size) w9 w10 := by rw [← hw10]; exact kpt_store (Kpt.refl _ _) rfl
      have hz9 := hk9.size
      have hE2 := ((hk10.block _ (by have := (Array.getElem?_eq_some_iff.1 hD2).1; omega) (by omega)).trans (hk9.block _ (Array.getElem?_eq_some_iff.1 hD2).1 (fun e => by have := hbo _ e; omega))).trans hD2
      have hs9 : Stp w w9 := ((Kpt.of_stp (O := fun b => (Value.slice A1 L.length c1).ownBlock = some b) hs2).trans hk9 fun x hx => .inl hx).stp fun x hx => by have := hbo _ hx; omega
      have hs10 : Stp w w10 := by rw [← hw10]; exact hs9.setCell (Nat.le_refl _) _
      have N9 := Nest.push (HN.out.stp ((Stp.refl w2).alloc (.cells #[.int .i64 n] 3))) (by omega) hg9 (ho9.mono fun k hk _ => hk.elim (hbo k) (fun h => by show w.heap.size + 2 ≤ k; omega)) (T := fun k => k = w2.heap.size) (u := ⟨some ⟨w2.heap.size, 0, none⟩, 1, 1⟩) (own_lit (World.alloc_heap_new w2 _) rfl) (fun k hk => hTT k hk _ (fun e => (ho9.blk k e).elim (fun h => by have := hbl k h; omega) (fun h => by omega))) (fun k hk => (ho9.blk k hk).imp id (fun h => by simpa using h))
      have N10 : Nest (w.heap.size + 2) (fun _ => False) (L' ++ [((⟨some ⟨w2.heap.size, 0, none⟩, 1, 1⟩ : SV), [n])]).length w10 (.slice A9 (L.length + 1) c9) (L' ++ [((⟨some ⟨w2.heap.size, 0, none⟩, 1, 1⟩ : SV), [n])]) := (N9.kpt hk10 (fun k hk _ e => by omega) (fun k hk _ _ => hk)).full (by simp) (by simp)
      have hmp10 : (L' ++ [((⟨some ⟨w2.heap.size, 0, none⟩, 1, 1⟩ : SV), [n])]).map Prod.snd = openG (L.map Prod.snd) a n := by rw [HR2.out, List.map_append, hmp]; rfl
      rw [hw10]
      clear hw10 s0 h0 hD1 hD2 p0 f0 p1 f1 N9 ho9
      obtain ⟨r2, g2⟩ := in_block hE1 2 _ rfl
      go_upto_region 7 with fail
      obtain ⟨w11, hw11⟩ : ∃ w11, w10.setCell ⟨w.heap.size, 2, none⟩ (.bool true) = w11 := ⟨_, rfl⟩
      have hF1 : w11.heap[w.heap.size]? = some (.cells #[.slice A9 (L.length + 1) c9, .int .i64 a, .bool true] 26 (0, 0)) := by rw [← hw11]; exact set_block hE1 2 _
      have hF2 : w11.heap[w.heap.size + 1]? = some (.cells #[.slice none 0 0, .int .i64 0, .bool false] 26 (0, 0)) := by rw [← hw11]; exact (Below.heap_setCell w10 ⟨w.heap.size, 2, none⟩ _ _ (by show w.heap.size + 1 ≠ w.heap.size; omega)).trans hE2
      have hs11 : Stp w w11 := by rw [← hw11]; exact hs10.setCell (Nat.le_refl _) _
      have hk11 : Kpt (fun k => k = w.heap.size) w10 w11 := by rw [← hw11]; exact kpt_store (Kpt.refl _ _) rfl
      rw [hw11]
      clear hw11 r2 g2 hE1 hE2
      obtain ⟨r0, _⟩ := in_block hF1 0 _ rfl
      obtain ⟨r1, _⟩ := in_block hF1 1 _ rfl
      obtain ⟨r2, _⟩ := in_block hF1 2 _ rfl
      obtain ⟨t0, g0⟩ := in_block hF2 0 _ rfl
      obtain ⟨t1, g1⟩ := in_block hF2 1 _ rfl
      obtain ⟨t2, g2⟩ := in_block hF2 2 _ rfl
      have hNF := fun (u1 u2 u3 : Value) => ((N10.kpt hk11 (fun k hk _ e => by omega) (fun k hk _ _ => hk)).kpt (kpt3 (w := w11) (B := w.heap.size + 1) (a := u1) (b := u2) (c := u3)) (fun k hk _ e => by omega) (fun k hk _ _ => hk)).lower (b := w.heap.size) (by omega)
      go_wp2
      refine bodyPost_ret (results_cell_row rfl _ _ (w.heap.size + 1) 26 #[.slice A9 (L.length + 1) c9, .int .i64 a, .bool true] (0, 0) _ rfl (put3 hF2) Try.underlying26 rfl (by kernel_rfl)) rfl ?_
      first | exact ⟨_, rfl, _, hNF _ _ _, hmp10, by (exact Lime.stp_)⟩ | exact ⟨_, _, rfl, hNF _ _ _, hmp10, by (exact Lime.stp_)⟩
    · skip
      go_upto_region 6 with (at_builtin; go_loud (refine wpl_append1 (d := svK) (S := fun k => (Value.slice A1 L.length c1).ownBlock = some k ∨ w2.heap.size + 1 ≤ k) (T := fun _ => False) rfl (.tmp 23) (.tmp 26) 24 22 _ 24 rfl Try.underlying24 infoSl rfl (by decide) (by decide) (.slice A1 L.length c1) (L'.map Prod.fst) (⟨some ⟨w2.heap.size, 0, none⟩, 1, 1⟩ : SV) [.slice (some ⟨w2.heap.size, 0, none⟩) 1 1] rfl (by first | (go_simp; done) | (go_simp; rfl)) rfl (fun _ h => h.elim) (hOt.stp Lime.stp_) (fun k hk => .inr (by simpa using hk)) hll ?_; intro v9 w9 ho9 hg9; obtain ⟨A9, c9, e9, _, _⟩ := ho9.reads.form; rw [List.length_append, List.length_map, List.length_singleton, hl'] at e9; subst e9; have hk9 := hkk w9 hg9; obtain ⟨s0, h0⟩ := in_block (hEE w9 hk9) 0 _ rfl))
      obtain ⟨w10, hw10⟩ : ∃ w10, w9.setCell ⟨w.heap.size, 0, none⟩ (.slice A9 (L.length + 1) c9) = w10 := ⟨_, rfl⟩
      have hE1 : w10.heap[w.heap.size]? = some (.cells #[.slice A9 (L.length + 1) c9, .int .i64 a, .bool x] 26 (0, 0)) := by rw [← hw10]; exact set_block (hEE w9 hk9) 0 _
      have hk10 : Kpt (fun k => k = w.heap.size) w9 w10 := by rw [← hw10]; exact kpt_store (Kpt.refl _ _) rfl
      have hz9 := hk9.size
      have hE2 := ((hk10.block _ (by have := (Array.getElem?_eq_some_iff.1 hD2).1; omega) (by omega)).trans (hk9.block _ (Array.getElem?_eq_some_iff.1 hD2).1 (fun e => by have := hbo _ e; omega))).trans hD2
      have hs9 : Stp w w9 := ((Kpt.of_stp (O := fun b => (Value.slice A1 L.length c1).ownBlock = some b) hs2).trans hk9 fun x hx => .inl hx).stp fun x hx => by have := hbo _ hx; omega
      have hs10 : Stp w w10 := by rw [← hw10]; exact hs9.setCell (Nat.le_refl _) _
      have N9 := Nest.push (HN.out.stp ((Stp.refl w2).alloc (.cells #[.int .i64 n] 3))) (by omega) hg9 (ho9.mono fun k hk _ => hk.elim (hbo k) (fun h => by show w.heap.size + 2 ≤ k; omega)) (T := fun k => k = w2.heap.size) (u := ⟨some ⟨w2.heap.size, 0, none⟩, 1, 1⟩) (own_lit (World.alloc_heap_new w2 _) rfl) (fun k hk => hTT k hk _ (fun e => (ho9.blk k e).elim (fun h => by have := hbl k h; omega) (fun h => by omega))) (fun k hk => (ho9.blk k hk).imp id (fun h => by simpa using h))
      have N10 : Nest (w.heap.size + 2) (fun _ => False) (L' ++ [((⟨some ⟨w2.heap.size, 0, none⟩, 1, 1⟩ : SV), [n])]).length w10 (.slice A9 (L.length + 1) c9) (L' ++ [((⟨some ⟨w2.heap.size, 0, none⟩, 1, 1⟩ : SV), [n])]) := (N9.kpt hk10 (fun k hk _ e => by omega) (fun k hk _ _ => hk)).full (by simp) (by simp)
      have hmp10 : (L' ++ [((⟨some ⟨w2.heap.size, 0, none⟩, 1, 1⟩ : SV), [n])]).map Prod.snd = openG (L.map Prod.snd) a n := by rw [HR2.out, List.map_append, hmp]; rfl
      rw [hw10]
      clear hw10 s0 h0 hD1 hD2 p0 f0 p1 f1 N9 ho9
      obtain ⟨r2, g2⟩ := in_block hE1 2 _ rfl
      go_upto_region 7 with fail
      obtain ⟨w11, hw11⟩ : ∃ w11, w10.setCell ⟨w.heap.size, 2, none⟩ (.bool true) = w11 := ⟨_, rfl⟩
      have hF1 : w11.heap[w.heap.size]? = some (.cells #[.slice A9 (L.length + 1) c9, .int .i64 a, .bool true] 26 (0, 0)) := by rw [← hw11]; exact set_block hE1 2 _
      have hF2 : w11.heap[w.heap.size + 1]? = some (.cells #[.slice none 0 0, .int .i64 0, .bool false] 26 (0, 0)) := by rw [← hw11]; exact (Below.heap_setCell w10 ⟨w.heap.size, 2, none⟩ _ _ (by show w.heap.size + 1 ≠ w.heap.size; omega)).trans hE2
      have hs11 : Stp w w11 := by rw [← hw11]; exact hs10.setCell (Nat.le_refl _) _
      have hk11 : Kpt (fun k => k = w.heap.size) w10 w11 := by rw [← hw11]; exact kpt_store (Kpt.refl _ _) rfl
      rw [hw11]
      clear hw11 r2 g2 hE1 hE2
      obtain ⟨r0, _⟩ := in_block hF1 0 _ rfl
      obtain ⟨r1, _⟩ := in_block hF1 1 _ rfl
      obtain ⟨r2, _⟩ := in_block hF1 2 _ rfl
      obtain ⟨t0, g0⟩ := in_block hF2 0 _ rfl
      obtain ⟨t1, g1⟩ := in_block hF2 1 _ rfl
      obtain ⟨t2, g2⟩ := in_block hF2 2 _ rfl
      have hNF := fun (u1 u2 u3 : Value) => ((N10.kpt hk11 (fun k hk _ e => by omega) (fun k hk _ _ => hk)).kpt (kpt3 (w := w11) (B := w.heap.size + 1) (a := u1) (b := u2) (c := u3)) (fun k hk _ e => by omega) (fun k hk _ _ => hk)).lower (b := w.heap.size) (by omega)
      go_wp2
      refine bodyPost_ret (results_cell_row rfl _ _ (w.heap.size + 1) 26 #[.slice A9 (L.length + 1) c9, .int .i64 a, .bool true] (0, 0) _ rfl (put3 hF2) Try.underlying26 rfl (by kernel_rfl)) rfl ?_
      first | exact ⟨_, rfl, _, hNF _ _ _, hmp10, by (exact Lime.stp_)⟩ | exact ⟨_, _, rfl, hNF _ _ _, hmp10, by (exact Lime.stp_)⟩
  · have HR2 := Lib.hid (show openG (L.map Prod.snd) a n = (L.map Prod.snd).set (L.length - 1) ((L.map Prod.snd).getD (L.length - 1) [] ++ [n]) by rw [HR.out, if_neg hc0])
    clear HR
    obtain ⟨j, hj⟩ : ∃ j : Nat, (L.length : Int) - 1 = (j : Int) := ⟨L.length - 1, by omega⟩
    have e1 : ¬ ((L.length : Int) - 1 < 0) := by omega
    have e2 : ¬ ((L.length : Int) < a) := by omega
    go_upto_region 5 with fail
    have hjL : L.length - 1 = j := by omega
    have hjl : j < L'.length := by omega
    have hjz : (j : Int) < (L.length : Int) := by omega
    have hhas := Nest.at N2 j hjl
    obtain ⟨g, cg, hvg, hob, hgb, hgl, _, y0, fz⟩ := hhas
    obtain ⟨Ai, ci, hgi⟩ := N2.get j hjl
    have hin := (N2.inn j hjl (by omega)).tight
    have hlt : j < L.length := by omega
    have hgd : (L.map Prod.snd).getD (L.length - 1) [] = L'[j].2 := by
      rw [hjL, ← hmp, List.getD_eq_getElem?_getD, List.getElem?_map, List.getElem?_eq_getElem hjl]; rfl
    have hxs : L'[j].2 = L[j].2 := by
      have h1 : (L'.map Prod.snd)[j]? = (L.map Prod.snd)[j]? := by rw [hmp]
      rw [List.getElem?_map, List.getElem?_map, List.getElem?_eq_getElem hjl, List.getElem?_eq_getElem hlt] at h1
      simpa using h1
    have hshj := hsh.out j hlt
    rw [← hxs] at hshj
    have HU := Lib.hid (fun (W5 : World) (u : SV) (ys : List Int) (hW : Kpt (fun k => L'[j].1.val.ownBlock = some k) w2 W5) (hu : Own intK 3 (fun k => L'[j].1.val.ownBlock = some k ∨ w2.heap.size ≤ k) W5 u.val ys) => N2.set hjl (by omega) (O := fun k => L'[j].1.val.ownBlock = some k) hW (fun k h _ => ⟨by omega, h⟩) (by omega) (fun k hk => hk.elim) (hu.to fun k hk => (hu.blk k hk).imp (fun h => ⟨by omega, h⟩) id) hob)
    have hgne : ¬ L'[j].1.val.ownBlock = some g := fun e => ((N2.inn j hjl (by omega)).blk g e).2 hob
    have hib : ∀ k, L'[j].1.val.ownBlock = some k → w.heap.size + 2 ≤ k := fun k e => ((N2.inn j hjl (by omega)).blk k e).1
    have HM := Lib.hid (fun (u : SV) => show (L'.set j (u, L'[j].2 ++ [n])).map Prod.snd = openG (L.map Prod.snd) a n by rw [HR2.out, hgd, hjL, List.map_set, hmp])
    clear hgd
    rw [hgi] at y0 hin HU hgne hib
    injection hvg with h1 h2 h3
    subst h1 h3
    clear h2
    generalize hxx : L'[j].2 = xs at hin hshj HU HM y0 hxs hgne hib
    clear hgi hxx hxs hob hc0 hjL hmp hlt
    have HB := Lib.hid hib
    have HG := Lib.hid hgne
    have HP := Lib.hid (show ¬ (Value.slice Ai xs.length ci).ownBlock = some w.heap.size from fun e => by have := hib _ e; omega)
    clear hib hgne
    refine wp_region_noPanic ?_
    refine Go.Proofs.YtpklhnggbhkmiaaW.PrintLast.start_ (n := 13) (S := fun W_ => Kpt (fun b => (Value.slice Ai xs.length ci).ownBlock = some b) w2 W_) (ds := [12]) #[false, false, false, false, false, false, false, false, false, false, false, false, false] (by kernel_rfl) rfl (by kernel_rfl) (kpt_drew (Kpt.refl _ _)) (fun hS => ?_)
    refine Go.Proofs.YtpklhnggbhkmiaaW.PrintLast.pure_ (i := 0) (v := ?_) (a' := ?_) #[true, false, false, false, false, false, false, false, false, false, false, false, false] Lime.getop_ rfl (by kernel_rfl) (fun _ _ _ h => h) (Or.inl ⟨by rfl, ?_⟩) ?_ ?_
    rotate_left
    focus (intro w_; (exact Lime.calm_))
    rotate_left
    focus (simp only [Act.put, List.setIfInBounds_toArray, List.set_cons_zero, List.set_cons_succ]; first | done | rfl)
    refine Go.Proofs.YtpklhnggbhkmiaaW.PrintLast.pure_ (i := 2) (v := ?_) (a' := ?_) #[true, false, true, false, false, false, false, false, false, false, false, false, false] Lime.getop_ rfl (by kernel_rfl) (fun _ _ _ h => h) (Or.inl ⟨by rfl, ?_⟩) ?_ ?_
    rotate_left
    focus (intro w_; (exact Lime.calm_))
    rotate_left
    focus (simp only [Act.put, List.setIfInBounds_toArray, List.set_cons_zero, List.set_cons_succ]; first | done | rfl)
    refine Go.Proofs.YtpklhnggbhkmiaaW.PrintLast.pure_ (i := 3) (v := ?_) (a' := ?_) #[true, false, true, true, false, false, false, false, false, false, false, false, false] Lime.getop_ rfl (by kernel_rfl) (fun _ _ _ h => h) (Or.inl ⟨by rfl, ?_⟩) ?_ ?_
    rotate_left
    focus (intro w_; (exact Lime.calm_))
    rotate_left
    focus (simp only [Act.put, List.setIfInBounds_toArray, List.set_cons_zero, List.set_cons_succ]; first | done | rfl)
    refine Go.Proofs.YtpklhnggbhkmiaaW.PrintLast.pure_ (i := 5) (v := ?_) (a' := ?_) #[true, false, true, true, false, true, false, false, false, false, false, false, false] Lime.getop_ rfl (by kernel_rfl) (fun _ _ _ h => h) (Or.inl ⟨by rfl, ?_⟩) ?_ ?_
    rotate_left
    focus (intro w_; (exact Lime.calm_))
    rotate_left
    focus (simp only [Act.put, List.setIfInBounds_toArray, List.set_cons_zero, List.set_cons_succ]; first | done | rfl)
    refine Go.Proofs.YtpklhnggbhkmiaaW.PrintLast.pure_ (i := 8) (v := ?_) (a' := ?_) #[true, false, true, true, false, true, false, false, true, false, false, false, false] Lime.getop_ rfl (by kernel_rfl) (fun _ _ _ h => h) (Or.inl ⟨by rfl, ?_⟩) ?_ ?_
    rotate_left
    focus (intro w_; (exact Lime.calm_))
    rotate_left
    focus (simp only [Act.put, List.setIfInBounds_toArray, List.set_cons_zero, List.set_cons_succ]; first | done | rfl)
    refine Go.Proofs.YtpklhnggbhkmiaaW.PrintLast.take_ (i := 1) (v := ?_) (a' := ?_) #[true, true, true, true, false, true, false, false, true, false, false, false, false] Lime.getop_ rfl (by kernel_rfl) (fun _ _ _ h => h) (Or.inl ⟨by rfl, ?_⟩) hS ?_ ?_
    rotate_left
    focus (intro w_ hw_; have q0_ := hw_.cell (p := ⟨w.heap.size, 0, none⟩) HP.out p0; have q1_ := hw_.cell (p := ⟨g, j, none⟩) HG.out y0; (exact Lime.calm_))
    rotate_left
    focus (simp only [Act.put, List.setIfInBounds_toArray, List.set_cons_zero, List.set_cons_succ]; first | done | rfl)
    refine Go.Proofs.YtpklhnggbhkmiaaW.PrintLast.take_ (i := 4) (v := ?_) (a' := ?_) #[true, true, true, true, true, true, false, false, true, false, false, false, false] Lime.getop_ rfl (by kernel_rfl) (fun _ _ _ h => h) (Or.inl ⟨by rfl, ?_⟩) hS ?_ ?_
    rotate_left
    focus (intro w_ hw_; have q0_ := hw_.cell (p := ⟨w.heap.size, 0, none⟩) HP.out p0; have q1_ := hw_.cell (p := ⟨g, j, none⟩) HG.out y0; (exact Lime.calm_))
    rotate_left
    focus (simp only [Act.put, List.setIfInBounds_toArray, List.set_cons_zero, List.set_cons_succ]; first | done | rfl)
    refine Go.Proofs.YtpklhnggbhkmiaaW.PrintLast.pure_ (i := 6) (v := ?_) (a' := ?_) #[true, true, true, true, true, true, true, false, true, false, false, false, false] Lime.getop_ rfl (by kernel_rfl) (fun _ _ _ h => h) (Or.inl ⟨by rfl, ?_⟩) ?_ ?_
    rotate_left
    focus (intro w_; (exact Lime.calm_))
    rotate_left
    focus (simp only [Act.put, List.setIfInBounds_toArray, List.set_cons_zero, List.set_cons_succ]; first | done | rfl)
    refine Go.Proofs.YtpklhnggbhkmiaaW.PrintLast.take_ (i := 7) (v := ?_) (a' := ?_) #[true, true, true, true, true, true, true, true, true, false, false, false, false] Lime.getop_ rfl (by kernel_rfl) (fun _ _ _ h => h) (Or.inl ⟨by rfl, ?_⟩) hS ?_ ?_
    rotate_left
    focus (intro w_ hw_; have q0_ := hw_.cell (p := ⟨w.heap.size, 0, none⟩) HP.out p0; have q1_ := hw_.cell (p := ⟨g, j, none⟩) HG.out y0; (exact Lime.calm_))
    rotate_left
    focus (simp only [Act.put, List.setIfInBounds_toArray, List.set_cons_zero, List.set_cons_succ]; first | done | rfl)
    refine Go.Proofs.YtpklhnggbhkmiaaW.PrintLast.one_ (i := 9) #[true, true, true, true, true, true, true, true, true, true, false, false, false] Lime.getop_ rfl (by kernel_rfl) (by decide) (fun K hK => ?_)
    rw [if_pos (by rfl)]; go_simp
    refine hK.out _ _ (by first | assumption | exact kpt_alloc hS | exact kpt_store (kpt_store (kpt_store hS rfl) rfl) rfl | (exact Lime.stp_)) (fun hst => ?_); replace hS := hst
    clear hK K
    (try simp only [Act.put, List.setIfInBounds_toArray, List.set_cons_zero, List.set_cons_succ])
    refine Go.Proofs.YtpklhnggbhkmiaaW.PrintLast.one_ (i := 10) #[true, true, true, true, true, true, true, true, true, true, true, false, false] Lime.getop_ rfl (by kernel_rfl) (by decide) (fun K hK => ?_)
    rw [if_pos (by rfl)]; refine oper_appendrow (d := intK) (S := fun k => (Value.slice Ai xs.length ci).ownBlock = some k ∨ w2.heap.size ≤ k) (T := fun b_ => b_ = w2.heap.size) (T' := fun _ => False) (.tmp 36) (.tmp 38) 22 3 (.int .i64 0) 8 rfl Try.underlying22 infoInt rfl (by decide) (by decide) _ xs _ [n] rfl rfl (Row.box (cs := [.int .i64 n]) (B := w2.heap.size) (heap_new _ _ _ (by simp)) rfl rfl) (fun _ _ h => h) (fun _ h => h.elim) ((hin.stp (show Stp w2 _ from Lime.stp_)).mono fun k hk _ => .inl hk) (fun k hk => .inr (by have := hS.size; omega)) (by simp; omega) ?_; intro v9 w9 ho9 hg9; obtain ⟨A9, c9, e9, _, _⟩ := ho9.reads.form; rw [List.length_append, List.length_singleton] at e9; subst e9; have hk9 : Kpt (fun b => (Value.slice Ai xs.length ci).ownBlock = some b) w2 w9 := hS.trans (Kpt.of_grown hg9 fun k h => h) fun x hx => .inl hx
    refine hK.out _ _ (by first | assumption | exact kpt_alloc hS | exact kpt_store (kpt_store (kpt_store hS rfl) rfl) rfl | (exact Lime.stp_)) (fun hst => ?_); replace hS := hst
    clear hK K
    (try simp only [Act.put, List.setIfInBounds_toArray, List.set_cons_zero, List.set_cons_succ])
    refine Go.Proofs.YtpklhnggbhkmiaaW.PrintLast.pure_ (i := 11) (v := ?_) (a' := ?_) #[true, true, true, true, true, true, true, true, true, true, true, true, false] Lime.getop_ rfl (by kernel_rfl) (fun _ _ _ h => h) (Or.inl ⟨by rfl, ?_⟩) ?_ ?_
    rotate_left
    focus (intro w_; (exact Lime.calm_))
    rotate_left
    focus (simp only [Act.put, List.setIfInBounds_toArray, List.set_cons_zero, List.set_cons_succ]; first | done | rfl)
    refine Go.Proofs.YtpklhnggbhkmiaaW.PrintLast.last_ (i := 12) #[true, true, true, true, true, true, true, true, true, true, true, true, true] Lime.getop_ rfl (by kernel_rfl) (by decide) (fun K hK => ?_)
    rw [if_pos (by rfl)]; have z0 := hk9.cell (p := ⟨g, j, none⟩) HG.out y0; have zf := (frozen_of_block (o := j) (hk9.block g hgl HG.out)).trans fz; go_simp
    refine hK.out _ _ ?_
    clear hK K
    (try simp only [Act.put, List.setIfInBounds_toArray, List.set_cons_zero, List.set_cons_succ])
    refine Go.Proofs.YtpklhnggbhkmiaaW.PrintLast.done_ (by kernel_rfl) (noPanic_n ?_)
    obtain ⟨w10, hw10⟩ : ∃ w10, w9.setCell ⟨g, j, none⟩ (.slice A9 (xs.length + 1) c9) = w10 := ⟨_, rfl⟩
    have hk10 : Kpt (fun k => k = g) w9 w10 := by rw [← hw10]; exact kpt_store (Kpt.refl _ _) rfl
    have hz9 := hk9.size
    have hlt1 := (Array.getElem?_eq_some_iff.1 hD1).1
    have hlt2 := (Array.getElem?_eq_some_iff.1 hD2).1
    have hE1 := ((hk10.block _ (by omega) (by omega)).trans (hk9.block _ hlt1 (fun e => by have := HB.out _ e; omega))).trans hD1
    have hE2 := ((hk10.block _ (by omega) (by omega)).trans (hk9.block _ hlt2 (fun e => by have := HB.out _ e; omega))).trans hD2
    have hs9 : Stp w w9 := ((Kpt.of_stp (O := fun b => (Value.slice Ai xs.length ci).ownBlock = some b) hs2).trans hk9 fun x hx => .inl hx).stp fun x hx => by have := HB.out _ hx; omega
    have hs10 : Stp w w10 := by rw [← hw10]; exact hs9.setCell (by omega) _
    have N10 : Nest (w.heap.size + 2) (fun _ => False) (L'.set j (⟨A9, xs.length + 1, c9⟩, xs ++ [n])).length w10 (.slice (some ⟨g, 0, none⟩) L.length c1) (L'.set j (⟨A9, xs.length + 1, c9⟩, xs ++ [n])) := by
      have := HU.out w9 ⟨A9, xs.length + 1, c9⟩ (xs ++ [n]) hk9 ho9
      rw [← hw10]
      exact this.full (by rw [List.length_set, hl']; exact Nat.le_max_left _ _) (Nat.le_refl _)
    have hmp10 := HM.out ⟨A9, xs.length + 1, c9⟩
    rw [hw10]
    clear hw10 hD1 hD2 p0 f0 p1 f1 y0 fz ho9 hg9 z0 zf
    obtain ⟨r2, g2⟩ := in_block hE1 2 _ rfl
    go_upto_region 7 with fail
    obtain ⟨w11, hw11⟩ : ∃ w11, w10.setCell ⟨w.heap.size, 2, none⟩ (.bool true) = w11 := ⟨_, rfl⟩
    have hF1 : w11.heap[w.heap.size]? = some (.cells #[.slice (some ⟨g, 0, none⟩) L.length c1, .int .i64 a, .bool true] 26 (0, 0)) := by rw [← hw11]; exact set_block hE1 2 _
    have hF2 : w11.heap[w.heap.size + 1]? = some (.cells #[.slice none 0 0, .int .i64 0, .bool false] 26 (0, 0)) := by rw [← hw11]; exact (Below.heap_setCell w10 ⟨w.heap.size, 2, none⟩ _ _ (by show w.heap.size + 1 ≠ w.heap.size; omega)).trans hE2
    have hs11 : Stp w w11 := by rw [← hw11]; exact hs10.setCell (Nat.le_refl _) _
    have hk11 : Kpt (fun k => k = w.heap.size) w10 w11 := by rw [← hw11]; exact kpt_store (Kpt.refl _ _) rfl
    rw [hw11]
    clear hw11 r2 g2 hE1 hE2
    obtain ⟨r0, _⟩ := in_block hF1 0 _ rfl
    obtain ⟨r1, _⟩ := in_block hF1 1 _ rfl
    obtain ⟨r2, _⟩ := in_block hF1 2 _ rfl
    obtain ⟨t0, g0⟩ := in_block hF2 0 _ rfl
    obtain ⟨t1, g1⟩ := in_block hF2 1 _ rfl
    obtain ⟨t2, g2⟩ := in_block hF2 2 _ rfl
    have hNF := fun (u1 u2 u3 : Value) => ((N10.kpt hk11 (fun k hk _ e => by omega) (fun k hk _ _ => hk)).kpt (kpt3 (w := w11) (B := w.heap.size + 1) (a := u1) (b := u2) (c := u3)) (fun k hk _ e => by omega) (fun k hk _ _ => hk)).lower (b := w.heap.size) (by omega)
    go_wp2
    refine bodyPost_ret (results_cell_row rfl _ _ (w.heap.size + 1) 26 #[.slice (some ⟨g, 0, none⟩) L.length c1, .int .i64 a, .bool true] (0, 0) _ rfl (put3 hF2) Try.underlying26 rfl (by kernel_rfl)) rfl ?_
    first | exact ⟨_, rfl, _, hNF _ _ _, hmp10, by (exact Lime.stp_)⟩ | exact ⟨_, _, rfl, hNF _ _ _, hmp10, by (exact Lime.stp_)⟩
end Go.Proofs.Lime
namespace Go.Proofs.Lime
open Go.RowKit
set_option linter.unusedVariables false
set_option linter.unusedSimpArgs false
attribute [local go_sem] Oper.semAt_some

theorem drop1_c {W : World} {B : Nat} {n : Int} (h : W.cell? ⟨B, 0, none⟩ = some (.int .i64 n)) (x : Int) : Calls Try.prog 22 #[.int .i64 x, .pointer (some ⟨B, 0, none⟩)] W fun e w' => e = .returned (.bool (x == n)) ∧ Stp W w' := by
  go_enter Try.func22, Try.ntmps22
  go_wp2
  go_ret
  exact ⟨rfl, Stp.refl W⟩
theorem drop2_c (W : World) (s : SV) : Calls Try.prog 24 #[.slice s.a s.n s.c] W fun e w' => e = .returned (.bool (s.n == 0)) ∧ Stp W w' := by
  have h : ((s.n : Int) == 0) = (s.n == 0) := by
    by_cases h : s.n = 0
    · simp [h]
    · have : ¬ (s.n : Int) = 0 := by omega
      rw [beq_eq_false_iff_ne.2 h, beq_eq_false_iff_ne.2 this]
  go_enter Try.func24, Try.ntmps24
  go_wp2
  go_ret
  first | exact ⟨rfl, Stp.refl W⟩ | exact ⟨ret_bool h, Stp.refl W⟩ | exact ⟨ret_bool (by simp), Stp.refl W⟩
def outG (n : Int) (g : List Int) : List Int := g.filter (fun x => !(x == n))
def dropG (G : List (List Int)) (n : Int) : List (List Int) := (G.map (outG n)).filter (fun g => !(g.length == 0))
set_option maxRecDepth 100000 in
set_option maxHeartbeats 4000000 in
theorem drop_c {w : World} {v : Value} {L : List (SV × List Int)} (h : In2 w v L) (a : Int) (x : Bool) (n : Int) :
    Calls Try.prog 14 #[.agg #[v, .int .i64 a, .bool x], .int .i64 n] w fun e w' => ∃ v' L', e = .returned (.agg #[v', .int .i64 a, .bool x]) ∧ Nest w.heap.size (fun _ => False) L'.length w' v' L' ∧ L'.map Prod.snd = dropG (L.map Prod.snd) n ∧ Stp w w' := by
  have cc := fun W (hW : Stp w W) => copied_c (h.stp hW) a x
  have eg1 := (enters_of Try.func22 (by kernel_rfl) rfl)
  have eg2 := (enters_of Try.func24 (by kernel_rfl) rfl)
  have hfew := h.few
  have hsh := Lib.hid h.short
  obtain ⟨A, c, hv, hc, hm⟩ := h.row.form
  rw [List.length_map] at hv hc hm
  subst hv
  go_enter Try.func14, Try.ntmps14
  go_wp2_with fail
  refine calls_named fun w0 hw0 => ?_
  have hs0 : Stp w w0 := by rw [hw0]; (exact Lime.stp_)
  have hz0 : w0.heap.size = w.heap.size + 3 := by rw [hw0]; simp
  have hB1 : w0.heap[w.heap.size]? = some (.cells #[.slice A L.length c, .int .i64 a, .bool x] 26 (0, 0)) := by rw [hw0]; exact heap_old (heap_old (heap_new _ _ _ rfl))
  have hBn : w0.heap[w.heap.size + 1]? = some (.cells #[.int .i64 n] 3 (0, 0)) := by rw [hw0]; exact heap_old (heap_new _ _ _ (by simp))
  have hB2 : w0.heap[w.heap.size + 1 + 1]? = some (.cells #[.slice none 0 0, .int .i64 0, .bool false] 26 (0, 0)) := by rw [hw0]; exact heap_new _ _ _ (by simp)
  clear hw0
  refine (show Calls Try.prog 19 _ _ _ from cc _ hs0).mono ?_
  rintro e w1 ⟨v1, L', rfl, N, hmp, hb1⟩
  have hl' : L'.length = L.length := by have := congrArg List.length hmp; simpa using this
  have hNf := N.form
  rw [hl'] at hNf
  obtain ⟨A1, c1, rfl, _, _⟩ := hNf
  have hC1 := hb1.heap hB1
  have hCn := hb1.heap hBn
  have hC2 := hb1.heap hB2
  have hs1 := hs0.trans hb1
  have hz1 := hb1.size
  obtain ⟨p0, f0⟩ := in_block hC1 0 _ rfl
  obtain ⟨p1, f1⟩ := in_block hC1 1 _ rfl
  obtain ⟨p2, f2⟩ := in_block hC1 2 _ rfl
  clear cc h hB1 hB2 hBn hb1 hs0
  go_upto_region 2 with fail
  obtain ⟨w2, hw2⟩ : ∃ w2, ((w1.setCell ⟨w.heap.size, 0, none⟩ (.slice A1 L.length c1)).setCell ⟨w.heap.size, 1, none⟩ (.int .i64 a)).setCell ⟨w.heap.size, 2, none⟩ (.bool x) = w2 := ⟨_, rfl⟩
  rw [hw2]
  have hk2 : Kpt (fun k => k = w.heap.size) w1 w2 := by rw [← hw2]; exact kpt3
  have hD1 : w2.heap[w.heap.size]? = some (.cells #[.slice A1 L.length c1, .int .i64 a, .bool x] 26 (0, 0)) := by rw [← hw2]; exact put3 hC1
  have hs2 : Stp w w2 := by rw [← hw2]; (exact Lime.stp_)
  clear hw2 p0 f0 p1 f1 p2 f2 hs1
  have hDn := (hk2.block _ (Array.getElem?_eq_some_iff.1 hCn).1 (by omega)).trans hCn
  have hD2 := (hk2.block _ (Array.getElem?_eq_some_iff.1 hC2).1 (by omega)).trans hC2
  have hz2 := hk2.size
  have N2 : Nest (w.heap.size + 3) (fun _ => False) L.length w2 (.slice A1 L.length c1) L' := (N.lower (by omega)).kpt hk2 (fun k hk _ e => by omega) (fun k hk _ e => hk)
  clear N hk2 hC1 hC2 hCn
  obtain ⟨p0, f0⟩ := in_block hD1 0 _ rfl
  have HM := Lib.hid hmp
  have HL := Lib.hid hl'
  clear hmp hl'
  go_wp2_with fail
  clear p0 f0
  go_loopw [5, 6, 12] (fun s5 s6 s12 W => ∃ (k : Nat) (L2 : List (SV × List Int)), s12 = .int .i64 k ∧ k ≤ L.length ∧ Aside (Nest (w.heap.size + 3) (fun _ => False) L.length W (.slice A1 L.length c1) L2 ∧ L2.map Prod.snd = ((L.map Prod.snd).take k).map (outG n) ++ (L.map Prod.snd).drop k ∧ Stp w W ∧ w2.heap.size ≤ W.heap.size ∧ W.heap[w.heap.size]? = some (.cells #[.slice A1 L.length c1, .int .i64 a, .bool x] 26 (0, 0)) ∧ W.heap[w.heap.size + 1]? = some (.cells #[.int .i64 n] 3 (0, 0)) ∧ W.heap[w.heap.size + 1 + 1]? = some (.cells #[.slice none 0 0, .int .i64 0, .bool false] 26 (0, 0)))) (fun _ _ s12 _ => L.length - (intOf s12).toNat)
  case atStart => exact ⟨0, L', rfl, Nat.zero_le _, N2, by simpa using HM.out, hs2, Nat.le_refl _, hD1, hDn, hD2⟩
  case round =>
    clear N2 hD1 hDn hD2 hs2
    obtain ⟨k, L2, rfl, hk, HA⟩ := hrel
    obtain ⟨N, hmk, hsw, hzw, hE1, hEn, hE2⟩ := HA.out
    have hl2 : L2.length = L.length := by have := congrArg List.length hmk; simp at this; omega
    clear HA
    obtain ⟨r0, _⟩ := in_block hE1 0 _ rfl
    by_cases hlt : k < L.length
    · have hltz : (k : Int) < (L.length : Int) := by omega
      have hkl : k < L2.length := by omega
      obtain ⟨g, cg, hvg, hob, hgb, hgl, _, y0, fz⟩ := Nest.at N k hkl
      obtain ⟨Ai, ci, hgi⟩ := N.get k hkl
      have hin := (N.inn k hkl (by omega)).tight
      have hib := fun j (e : L2[k].1.val.ownBlock = some j) => ((N.inn k hkl (by omega)).blk j e).1
      have hgne : ¬ L2[k].1.val.ownBlock = some g := fun e => ((N.inn k hkl (by omega)).blk g e).2 hob
      have hxs : L2[k].2 = L[k].2 := by
        have h1 : (L2.map Prod.snd)[k]? = some L[k].2 := by
          rw [hmk, List.getElem?_append_right (by simp; omega)]
          simp only [List.length_map, List.length_take]
          rw [Nat.min_eq_left (by omega), Nat.sub_self, List.getElem?_drop, Nat.add_zero, List.getElem?_map, List.getElem?_eq_getElem hlt]; rfl
        rw [List.getElem?_map, List.getElem?_eq_getElem hkl] at h1
        simpa using h1
      have hshk := hsh.out k hlt
      rw [← hxs] at hshk
      have HU := Lib.hid (fun (W5 : World) (u : SV) (ys : List Int) (hW : Kpt (fun j => L2[k].1.val.ownBlock = some j) wr W5) (hu : Own intK 3 (fun j => L2[k].1.val.ownBlock = some j ∨ wr.heap.size ≤ j) W5 u.val ys) => N.set hkl (by omega) (O := fun j => L2[k].1.val.ownBlock = some j) hW (fun j h _ => ⟨by omega, h⟩) (by omega) (fun j hj => hj.elim) (hu.to fun j hj => (hu.blk j hj).imp (fun h => ⟨by omega, h⟩) id) hob)
      have HS := Lib.hid (fun (u : SV) => show (L2.set k (u, outG n L2[k].2)).map Prod.snd = ((L.map Prod.snd).take (k + 1)).map (outG n) ++ (L.map Prod.snd).drop (k + 1) by
        have hk1 : k < (L.map Prod.snd).length := by simpa using hlt
        rw [List.map_set, hmk, List.take_succ_eq_append_getElem hk1, List.map_append, List.append_assoc, List.set_append_right _ _ (by simp; omega)]
        congr 1
        simp only [List.length_map, List.length_take]
        rw [Nat.min_eq_left (by omega), Nat.sub_self, List.drop_eq_getElem_cons hk1, List.set_cons_zero, List.getElem_map, hxs]
        rfl)
      rw [hgi] at y0 hin HU hgne hib
      injection hvg with h1 h2 h3
      subst h1 h3
      clear h2
      generalize hxx : L2[k].2 = xs at hin hshk y0 hxs HS HU hgne hib
      have HB := Lib.hid hib
      have HG := Lib.hid hgne
      have HP := Lib.hid (show ¬ (Value.slice Ai xs.length ci).ownBlock = some w.heap.size from fun e => by have := hib _ e; omega)
      have HN := Lib.hid (show ¬ (Value.slice Ai xs.length ci).ownBlock = some (w.heap.size + 1) from fun e => by have := hib _ e; omega)
      obtain ⟨n0, _⟩ := in_block hEn 0 _ rfl
      have HL2 := Lib.hid hl2
      clear hgi hxx hxs hob hmk hl2 hib hgne N hkl
      obtain ⟨ys, hys⟩ : ∃ ys, outG n xs = ys := ⟨_, rfl⟩
      have HY := Lib.hid hys
      rw [hys] at HS
      clear hys
      go_upto_region 5 with fail
      refine wp_region_noPanic ?_
      refine Go.Proofs.YtpklhnggbhkmiaaW.PrintLast.start_ (n := 8) (S := fun W_ => Kpt (fun j => (Value.slice Ai xs.length ci).ownBlock = some j) wr W_) (ds := [7]) #[false, false, false, false, false, false, false, false] (by kernel_rfl) rfl (by kernel_rfl) (kpt_drew (Kpt.refl _ _)) (fun hS => ?_)
      refine Go.Proofs.YtpklhnggbhkmiaaW.PrintLast.pure_ (i := 0) (v := ?_) (a' := ?_) #[true, false, false, false, false, false, false, false] Lime.getop_ rfl (by kernel_rfl) (fun _ _ _ h => h) (Or.inl ⟨by rfl, ?_⟩) ?_ ?_
      rotate_left
      focus (intro w_; (exact Lime.calm_))
      rotate_left
      focus (simp only [Act.put, List.setIfInBounds_toArray, List.set_cons_zero, List.set_cons_succ]; first | done | rfl)
      refine Go.Proofs.YtpklhnggbhkmiaaW.PrintLast.pure_ (i := 2) (v := ?_) (a' := ?_) #[true, false, true, false, false, false, false, false] Lime.getop_ rfl (by kernel_rfl) (fun _ _ _ h => h) (Or.inl ⟨by rfl, ?_⟩) ?_ ?_
      rotate_left
      focus (intro w_; (exact Lime.calm_))
      rotate_left
      focus (simp only [Act.put, List.setIfInBounds_toArray, List.set_cons_zero, List.set_cons_succ]; first | done | rfl)
      refine Go.Proofs.YtpklhnggbhkmiaaW.PrintLast.pure_ (i := 3) (v := ?_) (a' := ?_) #[true, false, true, true, false, false, false, false] Lime.getop_ rfl (by kernel_rfl) (fun _ _ _ h => h) (Or.inl ⟨by rfl, ?_⟩) ?_ ?_
      rotate_left
      focus (intro w_; (exact Lime.calm_))
      rotate_left
      focus (simp only [Act.put, List.setIfInBounds_toArray, List.set_cons_zero, List.set_cons_succ]; first | done | rfl)
      refine Go.Proofs.YtpklhnggbhkmiaaW.PrintLast.pure_ (i := 4) (v := ?_) (a' := ?_) #[true, false, true, true, true, false, false, false] Lime.getop_ rfl (by kernel_rfl) (fun _ _ _ h => h) (Or.inl ⟨by rfl, ?_⟩) ?_ ?_
      rotate_left
      focus (intro w_; (exact Lime.calm_))
      rotate_left
      focus (simp only [Act.put, List.setIfInBounds_toArray, List.set_cons_zero, List.set_cons_succ]; first | done | rfl)
      refine Go.Proofs.YtpklhnggbhkmiaaW.PrintLast.take_ (i := 1) (v := ?_) (a' := ?_) #[true, true, true, true, true, false, false, false] Lime.getop_ rfl (by kernel_rfl) (fun _ _ _ h => h) (Or.inl ⟨by rfl, ?_⟩) hS ?_ ?_
      rotate_left
      focus (intro w_ hw_; have q0_ := hw_.cell (p := ⟨w.heap.size, 0, none⟩) HP.out r0; (exact Lime.calm_))
      rotate_left
      focus (simp only [Act.put, List.setIfInBounds_toArray, List.set_cons_zero, List.set_cons_succ]; first | done | rfl)
      refine Go.Proofs.YtpklhnggbhkmiaaW.PrintLast.one_ (i := 5) #[true, true, true, true, true, true, false, false] Lime.getop_ rfl (by kernel_rfl) (by decide) (fun K hK => ?_)
      rw [if_pos (by rfl)]; go_simp; refine (show Calls Try.prog 21 _ _ _ from delFuncI_c (hin.stp (Stp.refl wr).drew) (by omega) (· == n) 22 #[.pointer (some ⟨w.heap.size + 1, 0, none⟩)] eg1 (fun W5 z hW => drop1_c (hW.cell (p := ⟨w.heap.size + 1, 0, none⟩) HN.out (show World.cell? wr.drew _ = _ from n0)) z)).mono ?_; rintro e w5 ⟨u5, rfl, o5, hk5⟩; have o6 : Own intK 3 (fun j => (Value.slice Ai xs.length ci).ownBlock = some j ∨ wr.heap.size ≤ j) w5 u5 (outG n xs) := o5; rw [HY.out] at o6; clear o5; obtain ⟨A5, c5, e5, _, _⟩ := o6.reads.form; subst e5; have hkw : Kpt (fun j => (Value.slice Ai xs.length ci).ownBlock = some j) wr w5 := hS.trans hk5 fun x hx => .inl hx
      refine hK.out _ _ (by first | assumption | exact kpt_alloc hS | exact kpt_store (kpt_store (kpt_store hS rfl) rfl) rfl | (exact Lime.stp_)) (fun hst => ?_); replace hS := hst
      clear hK K
      (try simp only [Act.put, List.setIfInBounds_toArray, List.set_cons_zero, List.set_cons_succ])
      refine Go.Proofs.YtpklhnggbhkmiaaW.PrintLast.pure_ (i := 6) (v := ?_) (a' := ?_) #[true, true, true, true, true, true, true, false] Lime.getop_ rfl (by kernel_rfl) (fun _ _ _ h => h) (Or.inl ⟨by rfl, ?_⟩) ?_ ?_
      rotate_left
      focus (intro w_; (exact Lime.calm_))
      rotate_left
      focus (simp only [Act.put, List.setIfInBounds_toArray, List.set_cons_zero, List.set_cons_succ]; first | done | rfl)
      refine Go.Proofs.YtpklhnggbhkmiaaW.PrintLast.last_ (i := 7) #[true, true, true, true, true, true, true, true] Lime.getop_ rfl (by kernel_rfl) (by decide) (fun K hK => ?_)
      rw [if_pos (by rfl)]; have z0 := hkw.cell (p := ⟨g, k, none⟩) HG.out y0; have zf := (frozen_of_block (o := k) (hkw.block g hgl HG.out)).trans fz; go_simp
      refine hK.out _ _ ?_
      clear hK K
      (try simp only [Act.put, List.setIfInBounds_toArray, List.set_cons_zero, List.set_cons_succ])
      refine Go.Proofs.YtpklhnggbhkmiaaW.PrintLast.done_ (by kernel_rfl) (noPanic_n ?_)
      obtain ⟨w10, hw10⟩ : ∃ w10, w5.setCell ⟨g, k, none⟩ (.slice A5 ys.length c5) = w10 := ⟨_, rfl⟩
      have hk10 : Kpt (fun j => j = g) w5 w10 := by rw [← hw10]; exact kpt_store (Kpt.refl _ _) rfl
      have hz5 := hkw.size
      have hl1 := (Array.getElem?_eq_some_iff.1 hE1).1
      have hln := (Array.getElem?_eq_some_iff.1 hEn).1
      have hl2 := (Array.getElem?_eq_some_iff.1 hE2).1
      have hF1 := ((hk10.block _ (by omega) (by omega)).trans (hkw.block _ hl1 (fun e => by have := HB.out _ e; omega))).trans hE1
      have hFn := ((hk10.block _ (by omega) (by omega)).trans (hkw.block _ hln (fun e => by have := HB.out _ e; omega))).trans hEn
      have hF2 := ((hk10.block _ (by omega) (by omega)).trans (hkw.block _ hl2 (fun e => by have := HB.out _ e; omega))).trans hE2
      have hs5 : Stp w w5 := ((Kpt.of_stp (O := fun b => (Value.slice Ai xs.length ci).ownBlock = some b) hsw).trans hkw fun x hx => .inl hx).stp fun x hx => by have := HB.out _ hx; omega
      have hs10 : Stp w w10 := by rw [← hw10]; exact hs5.setCell (by omega) _
      have N10 : Nest (w.heap.size + 3) (fun _ => False) L.length w10 (.slice (some ⟨g, 0, none⟩) L.length c1) (L2.set k (⟨A5, ys.length, c5⟩, ys)) := by
        have := HU.out w5 ⟨A5, ys.length, c5⟩ ys hkw o6
        rw [← hw10]
        exact this.full (by rw [List.length_set, HL2.out]; exact Nat.le_max_left _ _) (by rw [List.length_set, HL2.out]; exact Nat.le_refl _)
      have hz10 := hk10.size
      have hSS := HS.out ⟨A5, ys.length, c5⟩
      rw [hw10]
      go_wp2_with fail
      go_roundw
      case rel => exact ⟨k + 1, _, by go_num, hlt, N10, hSS, hs10, by omega, hF1, hFn, hF2⟩
      case measure => simp [intOf]; omega
    · have hltz : ¬ (k : Int) < (L.length : Int) := by omega
      obtain rfl : k = L.length := by omega
      have hm2 : L2.map Prod.snd = (L.map Prod.snd).map (outG n) := by
        rw [hmk, List.take_of_length_le (by simp), List.drop_eq_nil_of_le (by simp), List.append_nil]
      have hq : ∀ q ∈ L2, q.1.n = q.2.length := fun q hq => by
        obtain ⟨i, hi, rfl⟩ := List.getElem_of_mem hq
        obtain ⟨Ai, ci, e⟩ := N.get i hi
        rw [e]
      have hbo := N.out.blk
      have hlts := N.out
      have cd := fun (W : World) (hW : Stp wr W) => delFuncO_c (N.out.stp hW) (by rw [List.length_map]; omega) (fun s => s.n == 0) 24 #[] eg2 (fun W5 z _ => drop2_c W5 z)
      have hff : (L2.map Prod.fst).filter (fun s => !(s.n == 0)) = (L2.filter (fun q => !(q.1.n == 0))).map Prod.fst := by rw [List.filter_map]; rfl
      have hm3 : (L2.filter (fun q => !(q.1.n == 0))).map Prod.snd = dropG (L.map Prod.snd) n := by
        unfold dropG
        rw [← hm2, List.filter_map]
        congr 1
        exact List.filter_congr fun q hq' => by simp [hq q hq']
      clear hmk hm2 hq
      have hl1 := (Array.getElem?_eq_some_iff.1 hE1).1
      have hl2' := (Array.getElem?_eq_some_iff.1 hE2).1
      have NF := Lib.hid (fun (W5 : World) (u : Value) (hO : Own svK 22 (fun k => (Value.slice A1 L.length c1).ownBlock = some k ∨ wr.heap.size ≤ k) W5 u ((L2.map Prod.fst).filter (fun s => !(s.n == 0)))) (hW : Kpt (fun b => (Value.slice A1 L.length c1).ownBlock = some b) wr W5) => N.filter (by omega) (fun q => !(q.1.n == 0)) (by rw [← hff]; exact hO) (by omega) hW hO.blk)
      have hm4 := Lib.hid hm3
      have hbo' := Lib.hid hbo
      clear hff hm3 hlts hbo N
      go_upto_region 8 with (go_at_call 23; refine (show Calls Try.prog 23 _ _ _ from cd _ (Stp.refl _)).mono ?_; rintro e w5 ⟨u5, rfl, o5, hk5⟩; have N5 := NF.out w5 u5 o5 hk5; obtain ⟨A5, c5, e5, _, _⟩ := o5.reads.form; subst e5; have hF1 := (hk5.block _ hl1 (fun e => by have := hbo'.out _ e; omega)).trans hE1; obtain ⟨s0, h0⟩ := in_block hF1 0 _ rfl)
      generalize hn5 : ((L2.map Prod.fst).filter (fun s => !(s.n == 0))).length = n5 at N5
      obtain ⟨w10, hw10⟩ : ∃ w10, w5.setCell ⟨w.heap.size, 0, none⟩ (.slice A5 n5 c5) = w10 := ⟨_, rfl⟩
      have hG1 : w10.heap[w.heap.size]? = some (.cells #[.slice A5 n5 c5, .int .i64 a, .bool x] 26 (0, 0)) := by rw [← hw10]; exact set_block hF1 0 _
      have hk10 : Kpt (fun k => k = w.heap.size) w5 w10 := by rw [← hw10]; exact kpt_store (Kpt.refl _ _) rfl
      have hz5 := hk5.size
      have hG2 := ((hk10.block _ (by omega) (by omega)).trans (hk5.block _ hl2' (fun e => by have := hbo'.out _ e; omega))).trans hE2
      have hs5 : Stp w w5 := ((Kpt.of_stp (O := fun b => (Value.slice A1 L.length c1).ownBlock = some b) hsw).trans hk5 fun x hx => .inl hx).stp fun x hx => by have := hbo'.out _ hx; omega
      have hs10 : Stp w w10 := by rw [← hw10]; exact hs5.setCell (Nat.le_refl _) _
      have N10 := (N5.kpt hk10 (fun k hk _ e => by omega) (fun k hk _ _ => hk)).full (R' := fun _ => False) (m' := (L2.filter (fun q => !(q.1.n == 0))).length) (by have := List.length_filter_le (fun q : SV × List Int => !(q.1.n == 0)) L2; omega) (Nat.le_refl _)
      have hNF := fun (u1 u2 u3 : Value) => (N10.kpt (kpt3 (w := w10) (B := w.heap.size + 1 + 1) (a := u1) (b := u2) (c := u3)) (fun k hk _ e => by omega) (fun k hk _ _ => hk)).lower (b := w.heap.size) (by omega)
      rw [hw10]
      clear hw10 s0 h0 o5 hF1 r0
      obtain ⟨r0, _⟩ := in_block hG1 0 _ rfl
      obtain ⟨r1, _⟩ := in_block hG1 1 _ rfl
      obtain ⟨r2, _⟩ := in_block hG1 2 _ rfl
      obtain ⟨t0, g0⟩ := in_block hG2 0 _ rfl
      obtain ⟨t1, g1⟩ := in_block hG2 1 _ rfl
      obtain ⟨t2, g2⟩ := in_block hG2 2 _ rfl
      go_wp2
      refine bodyPost_ret (results_cell_row rfl _ _ (w.heap.size + 1 + 1) 26 #[.slice A5 n5 c5, .int .i64 a, .bool x] (0, 0) _ rfl (put3 hG2) Try.underlying26 rfl (by kernel_rfl)) rfl ?_
      first | exact ⟨_, rfl, _, hNF _ _ _, hm4.out, by (exact Lime.stp_)⟩ | exact ⟨_, _, rfl, hNF _ _ _, hm4.out, by (exact Lime.stp_)⟩
end Go.Proofs.Lime
namespace Go.Proofs.Lime
open Go.RowKit
set_option linter.unusedVariables false
set_option linter.unusedSimpArgs false
attribute [local go_sem] Oper.semAt_some Go.Proofs.YtpklhnggbhkmiaaW.PrintMore.max2_int Go.Proofs.YtpklhnggbhkmiaaW.PrintMore.max_two

theorem results_cell_row_tmp {P : Program} {fn : Func} {p u : Tmp} {ty : TypeId} (h : fn.results = #[.cell p ty, .tmp u]) (tmps : Array Value) (w : World) (g : Nat) (t : TypeId) (cs : Array Value) (fr : Nat × Nat) (d : TypeDesc) (uv : Value)
    (hp : tmps.getD p undef = .pointer (some ⟨g, 0, none⟩)) (hg : w.heap[g]? = some (.cells cs t fr))
    (hu : P.underlying ty = some d) (hd : (match d with | .struct _ | .array _ _ => true | _ => false) = true) (hi : (P.info? ty).map (·.size) = some cs.size) (huv : tmps.getD u undef = uv) :
    (results fn tmps).run P w = .ok (.tuple #[.agg cs, uv]) w := by
  rw [results_cell_tmp h, hp, huv]
  simp [asAddr, run_loadVar_row w g t ty cs fr d hg hu hd hi]
theorem leaves_none' {F : Fence} {n : Nat} {P : Program} {fn : Func} {tmps : Array Value} {R : Ending → World → Prop} {W : World} {v : Value} (hv : (results fn tmps).run P W = .ok v W) (hR : R (.returned v) W) : LeavesInM F n P fn tmps R [] .returning W := ⟨v, hv, hR⟩
/-- What is held between two rounds: B the cell of the list's variable, w where the range began. -/
structure CoS2 (xs : List Int) (B : Nat) (w : World) (k : Nat) (O : Nat → Prop) (W : World) : Prop where mk ::
  ob : O B
  new : ∀ b, O b → b = B ∨ w.heap.size ≤ b
  kp : Kpt (fun b => b = B) w W
  own : ∃ v, Boxed W B 22 v ∧ Own intK 3 (fun b => O b ∧ b ≠ B) W v (xs.take k)
theorem coS2_abide (xs : List Int) (B : Nat) (w : World) : Abide (fun _ => False) w.heap.size (CoS2 xs B w) := by
  intro k O A W h hk
  obtain ⟨h1, h2, h3, v, h4, h5⟩ := h
  exact ⟨h1, h2, h3.trans hk (fun x hx => .inr (hx.2.resolve_left id)), v, Boxed.keep h4 hk (fun h => h.1 h1), h5.kpt hk (fun x hx _ h => h.1 hx.1)⟩
/-- How many there may be after a close request. -/
def closeA (a : Int) : Int := wrap64 ((if a < 2 then 2 else a) - 1)
theorem backs_snd (xs : List Int) : (backs xs).map Prod.snd = xs.reverse := by
  apply List.ext_getElem (by simp [backs])
  intro i h1 h2
  rw [List.length_reverse] at h2
  rw [List.getElem_map, backs_at (by rw [backs_length]; exact h2) (by omega), List.getElem_reverse]
def closeL (G : List (List Int)) : List Int := (G.getD (G.length - 1) []).reverse
theorem Nest.lts {base m : Nat} {R : Nat → Prop} {W : World} {v : Value} {L : List (SV × List Int)} (N : Nest base R m W v L) (hm : L.length ≤ m) : (∀ k, v.ownBlock = some k → k < W.heap.size) ∧ ∀ i (hi : i < L.length) k, L[i].1.val.ownBlock = some k → k < W.heap.size :=
  ⟨fun k hk => own_lt (own_svs N.out) k hk, fun i hi k hk => own_lt (own_ints (N.inn i hi (by omega))) k hk⟩
theorem Nest.kptB {base m M : Nat} {R O : Nat → Prop} {W W2 : World} {v : Value} {L : List (SV × List Int)} (N : Nest base R m W v L) (hm : L.length ≤ m) (h1 : ∀ k, v.ownBlock = some k → k < M) (h2 : ∀ i (hi : i < L.length) k, L[i].1.val.ownBlock = some k → k < M) (hk : Kpt O W W2) (hO : ∀ k, base ≤ k → k < M → ¬ O k) : Nest base R m W2 v L :=
  ⟨own_of_svs (own_svs ((own_of_svs (S := fun k => v.ownBlock = some k) (own_svs N.out) fun k hk => hk).kpt hk fun k hk' _ => hO k (N.out.blk k hk') (h1 k hk'))) N.out.blk,
    fun i hi him => ((N.inn i hi him).tight.kpt hk fun k hk' _ => hO k ((N.inn i hi him).blk k hk').1 (h2 i hi k hk')).to (N.inn i hi him).blk, fun i hi him => by omega, N.apart⟩
set_option maxRecDepth 100000 in
set_option maxHeartbeats 4000000 in
theorem close_c {w : World} {v : Value} {L : List (SV × List Int)} (h : In2 w v L) (a : Int) (x : Bool) :
    Calls Try.prog 12 #[.agg #[v, .int .i64 a, .bool x]] w fun e w' => ∃ v' u L', e = .returned (.tuple #[.agg #[v', .int .i64 (closeA a), .bool x], u]) ∧ Nest w.heap.size (fun _ => False) L.length w' v' L' ∧ L'.map Prod.snd = L.map Prod.snd ∧ Own intK 3 (fun k => w.heap.size ≤ k) w' u (closeL (L.map Prod.snd)) ∧
      (∀ k, u.ownBlock = some k → v'.ownBlock ≠ some k ∧ ∀ i (hi : i < L'.length), L'[i].1.val.ownBlock ≠ some k) ∧ Stp w w' := by
  have cc := fun W (hW : Stp w W) => copied_c (h.stp hW) a x
  have eg := (enters_of Try.func27 (by kernel_rfl) rfl)
  have hfew := h.few
  have hsh := Lib.hid h.short
  obtain ⟨A, c, hv, hc, hm⟩ := h.row.form
  rw [List.length_map] at hv hc hm
  subst hv
  refine (callsIn_wide (n := 0)).1 (callsIn_of_wp_marks Try.func12 rfl trivial (wpIn_wide.2 ?_) rfl); simp only [Try.ntmps12, List.size_toArray, List.length_cons, List.length_nil, Nat.reduceAdd, Nat.reduceSub, Array.replicate_succ, Array.replicate_zero, List.push_toArray, List.append_toArray, List.nil_append, List.cons_append]
  go_wp2_with fail
  refine calls_named fun w0 hw0 => ?_
  have hs0 : Stp w w0 := by rw [hw0]; (exact Lime.stp_)
  have hz0 : w0.heap.size = w.heap.size + 2 := by rw [hw0]; simp
  have hB1 : w0.heap[w.heap.size]? = some (.cells #[.slice A L.length c, .int .i64 a, .bool x] 26 (0, 0)) := by rw [hw0]; exact heap_old (heap_new _ _ _ rfl)
  have hB2 : w0.heap[w.heap.size + 1]? = some (.cells #[.slice none 0 0, .int .i64 0, .bool false] 26 (0, 0)) := by rw [hw0]; exact heap_new _ _ _ (by simp)
  clear hw0
  refine (show Calls Try.prog 19 _ _ _ from cc _ hs0).mono ?_
  rintro e w1 ⟨v1, L', rfl, N, hmp, hb1⟩
  have hl' : L'.length = L.length := by have := congrArg List.length hmp; simpa using this
  have hNf := N.form
  rw [hl'] at hNf
  obtain ⟨A1, c1, rfl, _, _⟩ := hNf
  have hC1 := hb1.heap hB1
  have hC2 := hb1.heap hB2
  have hs1 := hs0.trans hb1
  have hz1 := hb1.size
  obtain ⟨p0, f0⟩ := in_block hC1 0 _ rfl
  obtain ⟨p1, f1⟩ := in_block hC1 1 _ rfl
  obtain ⟨p2, f2⟩ := in_block hC1 2 _ rfl
  clear cc h hB1 hB2 hb1 hs0
  go_upto_region 2 with fail
  obtain ⟨w2, hw2⟩ : ∃ w2, ((w1.setCell ⟨w.heap.size, 0, none⟩ (.slice A1 L.length c1)).setCell ⟨w.heap.size, 1, none⟩ (.int .i64 a)).setCell ⟨w.heap.size, 2, none⟩ (.bool x) = w2 := ⟨_, rfl⟩
  rw [hw2]
  have hk2 : Kpt (fun k => k = w.heap.size) w1 w2 := by rw [← hw2]; exact kpt3
  have hD1 : w2.heap[w.heap.size]? = some (.cells #[.slice A1 L.length c1, .int .i64 a, .bool x] 26 (0, 0)) := by rw [← hw2]; exact put3 hC1
  have hs2 : Stp w w2 := by rw [← hw2]; (exact Lime.stp_)
  clear hw2 p0 f0 p1 f1 p2 f2 hs1
  have hD2 := (hk2.block _ (Array.getElem?_eq_some_iff.1 hC2).1 (by omega)).trans hC2
  have hz2 := hk2.size
  have N2 : Nest (w.heap.size + 2) (fun _ => False) L.length w2 (.slice A1 L.length c1) L' := (N.lower (by omega)).kpt hk2 (fun k hk _ e => by omega) (fun k hk _ e => hk)
  clear N hk2 hC1 hC2
  obtain ⟨p0, f0⟩ := in_block hD1 0 _ rfl
  obtain ⟨p1, f1⟩ := in_block hD1 1 _ rfl
  have hlts := Lib.hid (N2.lts (by omega))
  obtain ⟨w3, hw3⟩ : ∃ w3, w2.alloc (.cells #[.slice none 0 0] 22) = w3 := ⟨_, rfl⟩
  have hb3 : Boxed w3 w2.heap.size 22 (.slice none 0 0) := by rw [← hw3]; exact Boxed.new _ _ _
  have hst3 : Stp w2 w3 := by rw [← hw3]; exact (Stp.refl w2).alloc _
  have hz3 : w3.heap.size = w2.heap.size + 1 := by rw [← hw3]; simp
  go_upto_region 3 with fail
  have hE1 := hst3.heap hD1
  have hE2 := hst3.heap hD2
  have N3 := N2.stp hst3
  have hs3 := hs2.trans hst3
  clear hw3 hD1 hD2 N2 hs2 p0 f0 p1 f1 hst3
  obtain ⟨p0, f0⟩ := in_block hE1 0 _ rfl
  by_cases hc0 : L.length = 0
  · have e1 : ¬ ((L.length : Int) - 1 ≥ 0) := by omega
    have HC := Lib.hid (show closeL (L.map Prod.snd) = [] by rw [List.eq_nil_of_length_eq_zero hc0]; rfl)
    clear hc0
    go_upto_region 8 with fail
    clear p0 f0
    obtain ⟨p1, f1⟩ := in_block hE1 1 _ rfl
    obtain ⟨m, hmx⟩ : ∃ m : Int, (if a < 2 then 2 else a) = m := ⟨_, rfl⟩
    have hcl : closeA a = wrap64 (m - 1) := by unfold closeA; rw [hmx]
    go_upto_region 9 with fail
    obtain ⟨w9, hw9⟩ : ∃ w9, w3.setCell ⟨w.heap.size, 1, none⟩ (.int .i64 (wrap64 (m - 1))) = w9 := ⟨_, rfl⟩
    have hF1 : w9.heap[w.heap.size]? = some (.cells #[.slice A1 L.length c1, .int .i64 (wrap64 (m - 1)), .bool x] 26 (0, 0)) := by rw [← hw9]; exact set_block hE1 1 _
    have hk9 : Kpt (fun k => k = w.heap.size) w3 w9 := by rw [← hw9]; exact kpt_store (Kpt.refl _ _) rfl
    have hF2 := (hk9.block _ (Array.getElem?_eq_some_iff.1 hE2).1 (by omega)).trans hE2
    have hF4 := Boxed.keep hb3 hk9 (by omega)
    rw [hw9]
    have c4 := Boxed.cell hF4
    obtain ⟨r0, _⟩ := in_block hF1 0 _ rfl
    obtain ⟨r1, _⟩ := in_block hF1 1 _ rfl
    obtain ⟨r2, _⟩ := in_block hF1 2 _ rfl
    obtain ⟨t0, g0⟩ := in_block hF2 0 _ rfl
    obtain ⟨t1, g1⟩ := in_block hF2 1 _ rfl
    obtain ⟨t2, g2⟩ := in_block hF2 2 _ rfl
    clear p1 f1 hmx
    refine wp_region_noPanic ?_
    refine Go.Proofs.YtpklhnggbhkmiaaW.PrintLast.start_ (n := 4) (S := fun W_ => Kpt (fun b => b = w.heap.size + 1) w9 W_) (ds := []) #[false, false, false, false] (by kernel_rfl) rfl (by kernel_rfl) (kpt_drew (Kpt.refl _ _)) (fun hS => ?_)
    refine Go.Proofs.YtpklhnggbhkmiaaW.PrintLast.take_ (i := 0) (v := ?_) (a' := ?_) #[true, false, false, false] Lime.getop_ rfl (by kernel_rfl) (fun _ _ _ h => h) (Or.inl ⟨by rfl, ?_⟩) hS ?_ ?_
    rotate_left
    focus (intro w_ hw_; have q0_ := hw_.cell (p := ⟨w.heap.size, 0, none⟩) (by show ¬ w.heap.size = w.heap.size + 1; omega) r0; have q1_ := hw_.cell (p := ⟨w.heap.size, 1, none⟩) (by show ¬ w.heap.size = w.heap.size + 1; omega) r1; have q2_ := hw_.cell (p := ⟨w.heap.size, 2, none⟩) (by show ¬ w.heap.size = w.heap.size + 1; omega) r2; have q3_ := hw_.cell (p := ⟨w2.heap.size, 0, none⟩) (by show ¬ w2.heap.size = w.heap.size + 1; omega) c4; (exact Lime.calm_))
    rotate_left
    focus (simp only [Act.put, List.setIfInBounds_toArray, List.set_cons_zero, List.set_cons_succ]; first | done | rfl)
    refine Go.Proofs.YtpklhnggbhkmiaaW.PrintLast.take_ (i := 1) (v := ?_) (a' := ?_) #[true, true, false, false] Lime.getop_ rfl (by kernel_rfl) (fun _ _ _ h => h) (Or.inl ⟨by rfl, ?_⟩) hS ?_ ?_
    rotate_left
    focus (intro w_ hw_; have q0_ := hw_.cell (p := ⟨w.heap.size, 0, none⟩) (by show ¬ w.heap.size = w.heap.size + 1; omega) r0; have q1_ := hw_.cell (p := ⟨w.heap.size, 1, none⟩) (by show ¬ w.heap.size = w.heap.size + 1; omega) r1; have q2_ := hw_.cell (p := ⟨w.heap.size, 2, none⟩) (by show ¬ w.heap.size = w.heap.size + 1; omega) r2; have q3_ := hw_.cell (p := ⟨w2.heap.size, 0, none⟩) (by show ¬ w2.heap.size = w.heap.size + 1; omega) c4; (exact Lime.calm_))
    rotate_left
    focus (simp only [Act.put, List.setIfInBounds_toArray, List.set_cons_zero, List.set_cons_succ]; first | done | rfl)
    refine Go.Proofs.YtpklhnggbhkmiaaW.PrintLast.one_ (i := 2) #[true, true, true, false] Lime.getop_ rfl (by kernel_rfl) (by decide) (fun K hK => ?_)
    rw [if_pos (by rfl)]; go_simp
    refine hK.out _ _ (by first | assumption | exact kpt_alloc hS | exact kpt_store (kpt_store (kpt_store hS rfl) rfl) rfl | (exact Lime.stp_)) (fun hst => ?_); replace hS := hst
    clear hK K
    (try simp only [Act.put, List.setIfInBounds_toArray, List.set_cons_zero, List.set_cons_succ])
    refine Go.Proofs.YtpklhnggbhkmiaaW.PrintLast.pure_ (i := 3) (v := ?_) (a' := ?_) #[true, true, true, true] Lime.getop_ rfl (by kernel_rfl) (fun _ _ _ h => h) (Or.inl ⟨by rfl, ?_⟩) ?_ ?_
    rotate_left
    focus (intro w_; (exact Lime.calm_))
    rotate_left
    focus (simp only [Act.put, List.setIfInBounds_toArray, List.set_cons_zero, List.set_cons_succ]; first | done | rfl)
    refine Go.Proofs.YtpklhnggbhkmiaaW.PrintLast.done_ (by kernel_rfl) (noPanic_n ?_)
    have hkf : ∀ u1 u2 u3 : Value, Kpt (fun k => k = w.heap.size ∨ k = w.heap.size + 1) w3 (((w9.setCell ⟨w.heap.size + 1, 0, none⟩ u1).setCell ⟨w.heap.size + 1, 1, none⟩ u2).setCell ⟨w.heap.size + 1, 2, none⟩ u3).drew := fun u1 u2 u3 => kpt_drew (kpt_store (kpt_store (kpt_store (hk9.mono fun x hx => .inl (.inl hx)) (.inr rfl)) (.inr rfl)) (.inr rfl))
    have hBf : ∀ u1 u2 u3 : Value, (((w9.setCell ⟨w.heap.size + 1, 0, none⟩ u1).setCell ⟨w.heap.size + 1, 1, none⟩ u2).setCell ⟨w.heap.size + 1, 2, none⟩ u3).drew.heap[w.heap.size + 1]? = some (.cells #[u1, u2, u3] 26 (0, 0)) := fun u1 u2 u3 => put3 hF2
    go_wp2_with fail
    refine (show LeavesInM _ _ _ _ _ _ [] .returning _ from leaves_none' (results_cell_row_tmp rfl _ _ (w.heap.size + 1) 26 #[.slice A1 L.length c1, .int .i64 (wrap64 (m - 1)), .bool x] (0, 0) _ (.slice none 0 0) rfl (hBf _ _ _) Try.underlying26 rfl (by kernel_rfl) rfl) ?_)
    have hN := fun u1 u2 u3 => (N3.kpt (hkf u1 u2 u3) (fun k hk _ e => by omega) (fun k hk _ _ => hk)).lower (b := w.heap.size) (by omega)
    have hst := fun u1 u2 u3 => ((Kpt.of_stp (O := fun k => k = w.heap.size ∨ k = w.heap.size + 1) hs3).trans (hkf u1 u2 u3) fun x hx => .inl hx).stp fun x hx => by omega
    refine ⟨_, _, rfl, L', hN _ _ _, hmp, by rw [HC.out]; exact Own.nil _ _ _ _, fun k hk => by simp [Value.ownBlock] at hk, hst _ _ _⟩
  · obtain ⟨j, hj⟩ : ∃ j : Nat, (L.length : Int) - 1 = (j : Int) := ⟨L.length - 1, by omega⟩
    have hjL : L.length - 1 = j := by omega
    have hjz : (j : Int) < (L.length : Int) := by omega
    have hjl : j < L'.length := by omega
    have e1 : (L.length : Int) - 1 ≥ 0 := by omega
    obtain ⟨g, cg, hvg, hob, hgb, hgl, _, y0, fz⟩ := Nest.at N3 j hjl
    obtain ⟨Ai, ci, hgi⟩ := N3.get j hjl
    have hin := (N3.inn j hjl (by omega)).tight.reads
    have hinb := (N3.inn j hjl (by omega)).blk
    have hlt : j < L.length := by omega
    have hgd : closeL (L.map Prod.snd) = L'[j].2.reverse := by
      unfold closeL
      rw [List.length_map, hjL, ← hmp, List.getD_eq_getElem?_getD, List.getElem?_map, List.getElem?_eq_getElem hjl]; rfl
    have hxs : L'[j].2 = L[j].2 := by
      have h1 : (L'.map Prod.snd)[j]? = (L.map Prod.snd)[j]? := by rw [hmp]
      rw [List.getElem?_map, List.getElem?_map, List.getElem?_eq_getElem hjl, List.getElem?_eq_getElem hlt] at h1
      simpa using h1
    have hshj := hsh.out j hlt
    rw [← hxs] at hshj
    have hlj := hlts.out.2 j hjl
    rw [hgi] at y0 hin hinb hlj
    injection hvg with h1 h2 h3
    subst h1 h3
    clear h2
    have HGD := Lib.hid hgd
    generalize hxx : L'[j].2 = xs at hin hshj y0 hxs HGD hinb hlj
    clear hgi hxx hxs hob hjL hlt hgd hinb
    go_wp2_with (go_at_call 20; refine (back_c _ _ _ _).mono ?_; rintro e w4 ⟨rfl, rfl⟩)
    obtain ⟨w4, hw4, hs4, hz4, bBk⟩ := one_box w3 22 (.slice Ai xs.length ci)
    rw [hw4]
    rw [hz3] at bBk hz4
    have hit := back1_it (hin.stp hs4) (Boxed.cell bBk)
    have hb4 := Boxed.stp hb3 hs4
    have hF1 := hs4.heap hE1
    have hF2 := hs4.heap hE2
    have N4 := N3.stp hs4
    have hst4 := hs3.trans hs4
    have hyl : ((backs xs).map Prod.snd).length = (backs xs).length := by simp
    have hbl := backs_length xs
    clear hw4 hs4 bBk hin N3 hs3 hb3 hE1 hE2 p0 f0
    refine wp_range (gf := 27) (lb := #[.pointer (some ⟨w2.heap.size + 1, 0, none⟩)]) rfl eg hit (fun _ => rfl) (fun _ h => h.elim) (fun b => b = w2.heap.size) (fun b hb => ?_) (CoS2 ((backs xs).map Prod.snd) w2.heap.size w4) (fun _ _ _ _ => False) (coS2_abide _ _ _) (fun _ _ _ _ _ h _ => h) ?_
      (fun y => { tmps := #[.agg #[.slice A L.length c, .int .i64 a, .bool x], .pointer (some ⟨w.heap.size, 0, none⟩), .pointer (some ⟨w.heap.size + 1, 0, none⟩), .slice none 0 0, .pointer (some ⟨w2.heap.size, 0, none⟩), .int .i64 j, undef, .int .i64 y.2, .agg #[.slice A L.length c, .int .i64 a, .bool x], .agg #[.slice (some ⟨g, 0, none⟩) L.length c1, .int .i64 a, .bool x], .pointer (some ⟨w.heap.size, 0, none⟩), .slice (some ⟨g, 0, none⟩) L.length c1, .int .i64 L.length, .int .i64 j, .int .i64 j, .bool true, .pointer (some ⟨w.heap.size, 0, none⟩), .slice (some ⟨g, 0, none⟩) L.length c1, .int .i64 j, .pointer (some ⟨g, j, none⟩), .slice Ai xs.length ci, .func (.func 27) #[] #[.pointer (some ⟨w2.heap.size + 1, 0, none⟩)], .int .i64 y.1, .int .i64 y.2, undef, undef, undef, undef, undef, undef, undef, undef, undef, undef, undef], defers := [] }) ?_ ?_ ?_ ?_
    · refine ⟨by omega, id, fun h => ?_⟩
      rcases h with h | h
      · have := hlj b h; omega
      · omega
    · exact ⟨rfl, fun b hb => .inl hb, Kpt.refl _ _, _, hb4, Own.nil _ _ _ _⟩
    · intro l y W K hK
      gi_wp2
      exact hK
    · intro l k hk O W hI
      obtain ⟨h1, h2, h3, v, h4, h5⟩ := hI
      have hcB := Boxed.cell h4
      have hfB := Boxed.frozen h4
      have hk' : k < ((backs xs).map Prod.snd).length := by omega
      have hxk := List.take_succ_eq_append_getElem hk'
      rw [List.getElem_map] at hxk
      generalize (backs xs)[k] = y at hxk
      obtain ⟨yi, z⟩ := y
      have HX := Lib.hid hxk
      have hnB : v.ownBlock ≠ some w2.heap.size := fun e => (h5.blk _ e).2 rfl
      have hBW := h4.lt
      have hk1 := Lib.hid (show ((((backs xs).map Prod.snd).take k).length + [z].length) * 8 ≤ 140737488355328 by rw [List.length_take]; simp; omega)
      generalize ((backs xs).map Prod.snd).take k = zs at h5 HX hk1
      have HO := Lib.hid ((h5.stp ((Stp.refl W).alloc (.cells #[.int .i64 z] 3))).mono (S' := fun b => b ≠ w2.heap.size ∧ (O b ∨ W.heap.size ≤ b)) fun k hk _ => ⟨hk.2, .inl hk.1⟩)
      clear hxk hit hyl hbl
      gi_wp2_with (gi_at_builtin; go_loud (refine wplI_appendrow (d := intK) (S := fun b => b ≠ w2.heap.size ∧ (O b ∨ W.heap.size ≤ b)) (T := fun b => b = W.heap.size) (T' := fun _ => False) rfl (.tmp 24) (.tmp 26) 22 3 (.int .i64 0) 8 rfl Try.underlying22 infoInt rfl (by decide) (by decide) v zs _ [z] rfl rfl (Row.box (World.alloc_heap_new W _) rfl rfl) (fun _ _ h => h) (fun _ h => h.elim) HO.out (fun k hk => by rw [World.size_alloc] at hk; exact ⟨by omega, .inr (by omega)⟩) hk1.out ?_; intro v1 w1 ho hg; have hb1 := Boxed.grown (Boxed.alloc h4 (.cells #[.int .i64 z] 3)) hg hnB; have hc1 := Boxed.cell hb1; have hf1 := Boxed.frozen hb1; obtain ⟨A1, n1, c1, e1⟩ : ∃ A1 n1 c1, v1 = .slice A1 n1 c1 := (let ⟨A1, c1, e⟩ := ho.reads.slice; ⟨A1, _, c1, e⟩); subst e1))
      have hg2 : W.grownBy w1 v.ownBlock := World.grownBy.trans (World.grownBy_alloc W _ _) hg
      have hkp : Kpt O W (w1.setCell ⟨w2.heap.size, 0, none⟩ (.slice A1 n1 c1)) := kpt_store (Kpt.of_grown hg2 fun k e => (h5.blk k e).1) h1
      refine ⟨fun b => O b ∨ (W.heap.size ≤ b ∧ b < w1.heap.size), fun b hb => hb.imp id And.left, hkp, .inl h1, fun b hb => hb.elim (h2 b) (fun h => .inr (by have := h3.size; omega)), ?_, _, Boxed.set _ hb1, ?_⟩
      · have h3z := h3.size
        exact h3.trans hkp fun b hb => h2 b hb
      · rw [HX.out]
        have ho2 := ho.mono (S' := fun b => (O b ∨ (W.heap.size ≤ b ∧ b < w1.heap.size)) ∧ b ≠ w2.heap.size) fun k hk hl => ⟨hk.2.imp id (fun h => ⟨h, hl⟩), hk.1⟩
        exact ho2.move fun k hk _ => Below.heap_setCell w1 ⟨w2.heap.size, 0, none⟩ _ k hk.2
    · intro D O W hD hn hI hWD
      obtain ⟨h1, h2, h3, v, h4, h5⟩ := hI
      rw [List.take_of_length_le (by omega), backs_snd, ← HGD.out] at h5
      obtain ⟨Au, cu, hv5, _, _⟩ := h5.reads.form
      obtain ⟨nu, hnu⟩ : ∃ nu, (closeL (L.map Prod.snd)).length = nu := ⟨_, rfl⟩
      rw [hnu] at hv5
      subst hv5
      have hE1 := (h3.block _ (Array.getElem?_eq_some_iff.1 hF1).1 (by omega)).trans hF1
      have hE2 := (h3.block _ (Array.getElem?_eq_some_iff.1 hF2).1 (by omega)).trans hF2
      have hDW := (Array.getElem?_eq_some_iff.1 hWD).1
      have HU := Lib.hid h5
      have HN := Lib.hid hnu
      have hob2 := hlts
      clear hF1 hF2 h5 hnu hit hyl hbl hb4 e1
      obtain ⟨p1, f1⟩ := in_block hE1 1 _ rfl
      obtain ⟨m, hmx⟩ : ∃ m : Int, (if a < 2 then 2 else a) = m := ⟨_, rfl⟩
      have hcl : closeA a = wrap64 (m - 1) := by unfold closeA; rw [hmx]
      go_upto_region 9 with fail
      obtain ⟨w9, hw9⟩ : ∃ w9, W.setCell ⟨w.heap.size, 1, none⟩ (.int .i64 (wrap64 (m - 1))) = w9 := ⟨_, rfl⟩
      have hF1 : w9.heap[w.heap.size]? = some (.cells #[.slice (some ⟨g, 0, none⟩) L.length c1, .int .i64 (wrap64 (m - 1)), .bool x] 26 (0, 0)) := by rw [← hw9]; exact set_block hE1 1 _
      have hk9 : Kpt (fun k => k = w.heap.size) W w9 := by rw [← hw9]; exact kpt_store (Kpt.refl _ _) rfl
      have hF2 := (hk9.block _ (Array.getElem?_eq_some_iff.1 hE2).1 (by omega)).trans hE2
      have hF4 := Boxed.keep h4 hk9 (by omega)
      rw [hw9]
      have c4 := Boxed.cell hF4
      obtain ⟨r0, _⟩ := in_block hF1 0 _ rfl
      obtain ⟨r1, _⟩ := in_block hF1 1 _ rfl
      obtain ⟨r2, _⟩ := in_block hF1 2 _ rfl
      obtain ⟨t0, g0⟩ := in_block hF2 0 _ rfl
      obtain ⟨t1, g1⟩ := in_block hF2 1 _ rfl
      obtain ⟨t2, g2⟩ := in_block hF2 2 _ rfl
      clear p1 f1 hmx
      refine wp_region_noPanic ?_
      refine Go.Proofs.YtpklhnggbhkmiaaW.PrintLast.start_ (n := 4) (S := fun W_ => Kpt (fun b => b = w.heap.size + 1) w9 W_) (ds := []) #[false, false, false, false] (by kernel_rfl) rfl (by kernel_rfl) (kpt_drew (Kpt.refl _ _)) (fun hS => ?_)
      refine Go.Proofs.YtpklhnggbhkmiaaW.PrintLast.take_ (i := 0) (v := ?_) (a' := ?_) #[true, false, false, false] Lime.getop_ rfl (by kernel_rfl) (fun _ _ _ h => h) (Or.inl ⟨by rfl, ?_⟩) hS ?_ ?_
      rotate_left
      focus (intro w_ hw_; have q0_ := hw_.cell (p := ⟨w.heap.size, 0, none⟩) (by show ¬ w.heap.size = w.heap.size + 1; omega) r0; have q1_ := hw_.cell (p := ⟨w.heap.size, 1, none⟩) (by show ¬ w.heap.size = w.heap.size + 1; omega) r1; have q2_ := hw_.cell (p := ⟨w.heap.size, 2, none⟩) (by show ¬ w.heap.size = w.heap.size + 1; omega) r2; have q3_ := hw_.cell (p := ⟨w2.heap.size, 0, none⟩) (by show ¬ w2.heap.size = w.heap.size + 1; omega) c4; (exact Lime.calm_))
      rotate_left
      focus (simp only [Act.put, List.setIfInBounds_toArray, List.set_cons_zero, List.set_cons_succ]; first | done | rfl)
      refine Go.Proofs.YtpklhnggbhkmiaaW.PrintLast.take_ (i := 1) (v := ?_) (a' := ?_) #[true, true, false, false] Lime.getop_ rfl (by kernel_rfl) (fun _ _ _ h => h) (Or.inl ⟨by rfl, ?_⟩) hS ?_ ?_
      rotate_left
      focus (intro w_ hw_; have q0_ := hw_.cell (p := ⟨w.heap.size, 0, none⟩) (by show ¬ w.heap.size = w.heap.size + 1; omega) r0; have q1_ := hw_.cell (p := ⟨w.heap.size, 1, none⟩) (by show ¬ w.heap.size = w.heap.size + 1; omega) r1; have q2_ := hw_.cell (p := ⟨w.heap.size, 2, none⟩) (by show ¬ w.heap.size = w.heap.size + 1; omega) r2; have q3_ := hw_.cell (p := ⟨w2.heap.size, 0, none⟩) (by show ¬ w2.heap.size = w.heap.size + 1; omega) c4; (exact Lime.calm_))
      rotate_left
      focus (simp only [Act.put, List.setIfInBounds_toArray, List.set_cons_zero, List.set_cons_succ]; first | done | rfl)
      refine Go.Proofs.YtpklhnggbhkmiaaW.PrintLast.one_ (i := 2) #[true, true, true, false] Lime.getop_ rfl (by kernel_rfl) (by decide) (fun K hK => ?_)
      rw [if_pos (by rfl)]; go_simp
      refine hK.out _ _ (by first | assumption | exact kpt_alloc hS | exact kpt_store (kpt_store (kpt_store hS rfl) rfl) rfl | (exact Lime.stp_)) (fun hst => ?_); replace hS := hst
      clear hK K
      (try simp only [Act.put, List.setIfInBounds_toArray, List.set_cons_zero, List.set_cons_succ])
      refine Go.Proofs.YtpklhnggbhkmiaaW.PrintLast.pure_ (i := 3) (v := ?_) (a' := ?_) #[true, true, true, true] Lime.getop_ rfl (by kernel_rfl) (fun _ _ _ h => h) (Or.inl ⟨by rfl, ?_⟩) ?_ ?_
      rotate_left
      focus (intro w_; (exact Lime.calm_))
      rotate_left
      focus (simp only [Act.put, List.setIfInBounds_toArray, List.set_cons_zero, List.set_cons_succ]; first | done | rfl)
      refine Go.Proofs.YtpklhnggbhkmiaaW.PrintLast.done_ (by kernel_rfl) (noPanic_n ?_)
      have hkf : ∀ u1 u2 u3 : Value, Kpt (fun k => k = w.heap.size ∨ k = w.heap.size + 1) W (((w9.setCell ⟨w.heap.size + 1, 0, none⟩ u1).setCell ⟨w.heap.size + 1, 1, none⟩ u2).setCell ⟨w.heap.size + 1, 2, none⟩ u3).drew := fun u1 u2 u3 => kpt_drew (kpt_store (kpt_store (kpt_store (hk9.mono fun x hx => .inl (.inl hx)) (.inr rfl)) (.inr rfl)) (.inr rfl))
      have hBf : ∀ u1 u2 u3 : Value, (((w9.setCell ⟨w.heap.size + 1, 0, none⟩ u1).setCell ⟨w.heap.size + 1, 1, none⟩ u2).setCell ⟨w.heap.size + 1, 2, none⟩ u3).drew.heap[w.heap.size + 1]? = some (.cells #[u1, u2, u3] 26 (0, 0)) := fun u1 u2 u3 => put3 hF2
      go_wp2_with fail
      have hDz : w4.heap.size ≤ D := hD
      have hWD2 := fun u1 u2 u3 => ((hkf u1 u2 u3).block D hDW (by omega)).trans hWD
      have hBD : ∀ u1 u2 u3 : Value, (World.putObj (((w9.setCell ⟨w.heap.size + 1, 0, none⟩ u1).setCell ⟨w.heap.size + 1, 1, none⟩ u2).setCell ⟨w.heap.size + 1, 2, none⟩ u3).drew D (.deferred none)).heap[w.heap.size + 1]? = some (.cells #[u1, u2, u3] 26 (0, 0)) := fun u1 u2 u3 => (World.putObj_heap_other (by omega)).trans (hBf u1 u2 u3)
      have hkD : ∀ u1 u2 u3 : Value, Kpt (fun k => k = w.heap.size ∨ k = w.heap.size + 1 ∨ k = D) W (World.putObj (((w9.setCell ⟨w.heap.size + 1, 0, none⟩ u1).setCell ⟨w.heap.size + 1, 1, none⟩ u2).setCell ⟨w.heap.size + 1, 2, none⟩ u3).drew D (.deferred none)) := fun u1 u2 u3 => ((hkf u1 u2 u3).mono fun x hx => .inl (hx.imp id .inl)).trans (Kpt.put (O := fun k => k = w.heap.size ∨ k = w.heap.size + 1 ∨ k = D) _ _ (.inr (.inr rfl))) fun x hx => .inl hx
      have hk4 : ∀ u1 u2 u3 : Value, Kpt (fun k => k = w.heap.size ∨ k = w.heap.size + 1 ∨ k = D ∨ k = w2.heap.size) w4 (World.putObj (((w9.setCell ⟨w.heap.size + 1, 0, none⟩ u1).setCell ⟨w.heap.size + 1, 1, none⟩ u2).setCell ⟨w.heap.size + 1, 2, none⟩ u3).drew D (.deferred none)) := fun u1 u2 u3 => (h3.mono fun x hx => .inl (.inr (.inr (.inr hx)))).trans (hkD u1 u2 u3) fun x hx => .inl (hx.imp id fun h => h.imp id .inl)
      have hN := fun u1 u2 u3 => (N4.kptB (by omega) (M := w2.heap.size) hlts.out.1 hlts.out.2 (hk4 u1 u2 u3) (fun k hk hl e => by omega)).lower (b := w.heap.size) (by omega)
      have hst := fun u1 u2 u3 => ((Kpt.of_stp (O := fun k => k = w.heap.size ∨ k = w.heap.size + 1 ∨ k = D ∨ k = w2.heap.size) hst4).trans (hk4 u1 u2 u3) fun x hx => .inl hx).stp fun x hx => by omega
      have hub : ∀ k, (Value.slice Au nu cu).ownBlock = some k → w4.heap.size ≤ k ∧ k ≠ D := fun k hk => by
        obtain ⟨ha, hb⟩ := HU.out.blk k hk
        exact ⟨(h2 k ha).resolve_left hb, fun e => hn (e ▸ ha)⟩
      have hU := fun u1 u2 u3 => (HU.out.tight.kpt (hkD u1 u2 u3) fun k hk _ e => by have := hub k hk; omega).to (S' := fun k => w.heap.size ≤ k) fun k hk => by have := hub k hk; omega
      refine leaves_mark (hWD2 _ _ _) (results_cell_row_tmp rfl _ _ (w.heap.size + 1) 26 #[.slice (some ⟨g, 0, none⟩) L.length c1, .int .i64 (wrap64 (m - 1)), .bool x] (0, 0) _ (.slice Au nu cu) rfl (hBD _ _ _) Try.underlying26 rfl (by kernel_rfl) rfl) ?_
      refine ⟨_, _, _, by rw [hcl], hN _ _ _, hmp, hU _ _ _, fun k hk => ?_, hst _ _ _⟩
      have h5 := hub k hk
      exact ⟨fun e => by have := hlts.out.1 k e; omega, fun i hi e => by have := hlts.out.2 i hi k e; omega⟩
    · intro D c k O W _ _ h
      exact h.elim
end Go.Proofs.Lime
namespace Go.Proofs.Lime
open Go.RowKit
set_option linter.unusedVariables false
set_option linter.unusedSimpArgs false
/-- A list of numbers as an element. -/
def intsK : Kd (List Int) where
  sz := 1
  K := fun S w xs cs => ∃ v, cs = [v] ∧ Row intK S w v xs
  len := fun h => by obtain ⟨v, rfl, _⟩ := h; rfl
  one := fun h u hu => by obtain ⟨v, rfl, hr⟩ := h; rw [List.mem_singleton.1 hu]; exact hr.one
  move := fun {S w w1 x cs} hm h => by
    obtain ⟨v, rfl, hr⟩ := h
    refine ⟨v, rfl, hr.form, fun j hj => ?_⟩
    obtain ⟨b, o, c, cs, rfl, hS, hb, hk, hc⟩ := hr.get j hj
    refine ⟨b, o, c, cs, rfl, hS, ?_, intK.move hm hk, fun i u hi => (World.cell?_of_block (w := w) (a := ⟨b, o + j * intK.sz + i, none⟩) (hm b hS)).trans (hc i u hi)⟩
    have := hm b hS
    rw [Array.getElem?_eq_getElem hb] at this
    exact (Array.getElem?_eq_some_iff.1 this).1
  mono := fun hS h => by obtain ⟨v, rfl, hr⟩ := h; exact ⟨v, rfl, hr.mono hS⟩
  bound := fun h => by obtain ⟨v, rfl, hr⟩ := h; exact ⟨v, rfl, hr.bound⟩
/-- Are there few lists, of few? -/
def okG (G : List (List Int)) : Bool := decide (G.length ≤ 100000) && G.all (fun g => decide (g.length ≤ 100000))
theorem okG_iff {G : List (List Int)} : okG G = true ↔ G.length ≤ 100000 ∧ ∀ g ∈ G, g.length ≤ 100000 := by simp [okG]
theorem in2_of_row {S : Nat → Prop} {w : World} {v : Value} {G : List (List Int)} (h : Row intsK S w v G) (hok : okG G = true) : ∃ L, In2 w v L ∧ L.map Prod.snd = G := by
  obtain ⟨h1, h2⟩ := okG_iff.1 hok
  have hb := h.bound
  have key : ∀ j : Fin G.length, ∃ s : SV, Row intK (fun k => k < w.heap.size) w s.val G[j] ∧ ∃ b o c', v = .slice (some ⟨b, o, none⟩) G.length c' ∧ b < w.heap.size ∧ w.cell? ⟨b, o + j.val, none⟩ = some s.val := by
    intro j
    obtain ⟨b, o, c', cs, e, _, hlt, ⟨u, rfl, hr⟩, hc⟩ := hb.get j.val j.isLt
    obtain ⟨A', c2, rfl, _, _⟩ := hr.form
    have hcc := hc 0 _ rfl
    rw [show intsK.sz = 1 from rfl, Nat.mul_one, Nat.add_zero] at hcc
    exact ⟨⟨A', _, c2⟩, hr.mono fun k hk => hk.2, b, o, c', e, hlt, hcc⟩
  let f := fun j => (key j).choose
  have hf := fun j => (key j).choose_spec
  have hm1 : (List.ofFn fun j : Fin G.length => (f j, G[j])).map Prod.fst = List.ofFn f := by rw [List.map_ofFn]; rfl
  have hm2 : (List.ofFn fun j : Fin G.length => (f j, G[j])).map Prod.snd = G := by
    rw [List.map_ofFn]
    apply List.ext_getElem (by simp)
    intro i h1 h2
    rw [List.getElem_ofFn]; rfl
  refine ⟨List.ofFn fun j : Fin G.length => (f j, G[j]), ⟨?_, fun i hi => ?_, by simpa using h1, fun i hi => ?_⟩, hm2⟩
  · rw [hm1]
    refine ⟨by rw [List.length_ofFn]; exact h.form, fun j hj => ?_⟩
    rw [List.length_ofFn] at hj
    obtain ⟨_, b, o, c', e, hlt, hc⟩ := hf ⟨j, hj⟩
    refine ⟨b, o, c', [(f ⟨j, hj⟩).val], by rw [List.length_ofFn]; exact e, hlt, hlt, by rw [List.getElem_ofFn]; rfl, fun i u hu => ?_⟩
    have hi : i < 1 := (List.getElem?_eq_some_iff.1 hu).1
    obtain rfl : i = 0 := by omega
    rw [show svK.sz = 1 from rfl, Nat.mul_one, Nat.add_zero]
    exact hc.trans hu
  · rw [List.length_ofFn] at hi
    rw [List.getElem_ofFn]
    exact (hf ⟨i, hi⟩).1
  · rw [List.length_ofFn] at hi
    rw [List.getElem_ofFn]
    exact h2 _ (List.getElem_mem _)
theorem ownsRow_base {e : TypeId} {sz n b : Nat} {W : World} {v : Value} {ys : List Value} (h : W.ownsRow 0 e sz v n ys) (hb : ∀ k, v.ownBlock = some k → b ≤ k) : W.ownsRow b e sz v n ys := by
  obtain ⟨h1, h2⟩ := h
  refine ⟨h1, ?_⟩
  rcases h2 with h2 | ⟨g, cap, cur, rfl, _, r⟩
  · exact .inl h2
  · exact .inr ⟨g, cap, cur, rfl, hb g rfl, r⟩
end Go.Proofs.Lime
namespace Go.Proofs.Ytpklhnggbhkmiaa.P
open Go.RowKit Go.Proofs.YtpklhnggbhkmiaaW.PrintWords Go.Proofs.YtpklhnggbhkmiaaW.PrintLast Go.Proofs.YtpklhnggbhkmiaaW.PrintMore
open Go.Proofs.Lime (okG openG dropG closeL closeA actA Nest In2)
set_option linter.unusedVariables false
set_option linter.unusedSimpArgs false
theorem R_of_ints {S : Nat → Prop} {W : World} {b : Nat} {u : Value} {xs : List Int} {ok : Nat → Prop} (h : Lime.Own Lime.intK 3 S W u xs) (hb : ∀ k, u.ownBlock = some k → b ≤ k) (hok : ∀ k, u.ownBlock = some k → ok k) : Kd.R (Kd.int .i64) 3 W b ok u xs := by
  refine ⟨hok, xs.map (Value.int .i64), Lime.ownsRow_base (Lime.own_ints h) hb, by rw [List.length_map]; exact (Nat.mul_one _).symm, fun j p hj => ?_⟩
  obtain ⟨hjl, rfl⟩ := List.getElem?_eq_some_iff.1 hj
  show ((xs.map (Value.int .i64)).drop (j * 1)).take 1 = [.int .i64 xs[j]]
  rw [Nat.mul_one, List.drop_eq_getElem_cons (by simpa using hjl), List.take_succ_cons, List.take_zero, List.getElem_map]
theorem S_of_nest {base b m : Nat} {R : Nat → Prop} {W : World} {v : Value} {L : List (Lime.SV × List Int)} (N : Nest base R m W v L) (hm : L.length ≤ m) (hb : b ≤ base) {ok : Nat → Prop} (h1 : ∀ k, v.ownBlock = some k → ok k)
    (h2 : ∀ i (hi : i < L.length) k, L[i].1.val.ownBlock = some k → ok k) : Kd.S (Kd.slice 3 (Kd.int .i64)) 22 W b ok v (L.map Prod.snd) := by
  classical
  have hl : (L.map Prod.snd).zipIdx.length = L.length := by simp
  have ho := Lime.own_svs N.out
  rw [List.length_map] at ho
  have ho2 : W.ownsRow b 22 1 v L.length ((L.map Prod.fst).map Lime.SV.val) := Lime.ownsRow_base ho fun k hk => Nat.le_trans hb (N.out.blk k hk)
  refine ⟨fun k => if h : ∃ i, ∃ hi : i < L.length, L[i].1.val.ownBlock = some k then h.choose else 0, h1, (L.map Prod.fst).map Lime.SV.val, by rw [hl]; exact ho2, by rw [hl, List.length_map, List.length_map]; exact (Nat.mul_one _).symm, fun j p hj => ?_⟩
  rw [List.getElem?_zipIdx, Nat.zero_add, List.getElem?_map] at hj
  obtain ⟨y, hy, rfl⟩ := Option.map_eq_some_iff.1 hj
  obtain ⟨z, hz, rfl⟩ := Option.map_eq_some_iff.1 hy
  obtain ⟨hjl, rfl⟩ := List.getElem?_eq_some_iff.1 hz
  have hcs : (((L.map Prod.fst).map Lime.SV.val).drop (j * 1)).take 1 = [L[j].1.val] := by
    rw [Nat.mul_one, List.drop_eq_getElem_cons (by simpa using hjl), List.take_succ_cons, List.take_zero, List.getElem_map, List.getElem_map]
  have hin := N.inn j hjl (by omega)
  show Kd.M (Kd.slice 3 (Kd.int .i64)) W b _ L[j].2 ((((L.map Prod.fst).map Lime.SV.val).drop (j * 1)).take 1)
  rw [hcs]
  refine ⟨L[j].1.val, rfl, R_of_ints hin (fun k hk => Nat.le_trans hb (hin.blk k hk).1) fun k hk => ⟨⟨h2 j hjl k hk, fun e => (hin.blk k hk).2 e.symm⟩, ?_⟩⟩
  have hex : ∃ i, ∃ hi : i < L.length, L[i].1.val.ownBlock = some k := ⟨j, hjl, hk⟩
  show (if h : ∃ i, ∃ hi : i < L.length, L[i].1.val.ownBlock = some k then h.choose else 0) = j
  rw [dif_pos hex]
  obtain ⟨hi, he⟩ := hex.choose_spec
  exact Classical.byContradiction fun hne => N.apart _ j hi hjl (by omega) (by omega) hne k he hk
theorem in2_of_C {w : World} {A : Option Addr} {c : Nat} {l : List (List Int)} (h : Kd.C (Kd.slice 3 (Kd.int .i64)) w A l.length l) (hc : l.length ≤ c) (hok : okG l = true) : ∃ L, In2 w (.slice A l.length c) L ∧ L.map Prod.snd = l := by
  have hr : Lime.Row Lime.intsK (fun _ => True) w (.slice A l.length c) (l.map id) := row_of_C (e := Lime.intsK) id rfl (by decide) (fun x cs h => by
    obtain ⟨A3, c3, rfl, l3, g3⟩ := h
    exact ⟨_, rfl, ints_of_C g3 l3⟩) h hc
  rw [List.map_id] at hr
  exact Lime.in2_of_row hr hok
def watch_Act.f (l0 : List (List Int)) (a0 : Int) (x0 : Bool) : Option (List (List Int) × Int × Bool) := if okG l0 = true then some (l0, actA a0 x0, false) else none
theorem watch_Act.calls (A0 : Option Addr) (c0 : Nat) (l0 : List (List Int)) (a0 : Int) (x0 : Bool) (r1 : List (List Int)) (r2 : Int) (r3 : Bool) (w : World) (hr0 : Kd.C (Kd.slice 3 (Kd.int .i64)) w A0 l0.length l0) (hc0 : l0.length ≤ c0) (h : watch_Act.f l0 a0 x0 = some (r1, r2, r3)) :
    Calls Try.prog 10 #[.agg #[.slice A0 l0.length c0, .int .i64 a0, .bool x0]] w fun e w' => ∃ v0_ : Value, e = .returned (.agg #[v0_, .int .i64 r2, .bool r3]) ∧ Kd.S (Kd.slice 3 (Kd.int .i64)) 22 w' w.heap.size (fun _ => True) v0_ r1 ∧ Below w.heap.size w w' := by
  unfold watch_Act.f at h
  split at h
  · rename_i hok
    obtain ⟨rfl, rfl, rfl⟩ : l0 = r1 ∧ actA a0 x0 = r2 ∧ false = r3 := by simpa using Option.some.inj h
    obtain ⟨L, hL, hm⟩ := in2_of_C hr0 hc0 hok
    refine (Lime.act_c hL a0 x0).mono ?_
    rintro e w' ⟨v', L', rfl, N, hm', hst⟩
    have hll : L'.length = L.length := by have := congrArg List.length hm'; simpa using this
    rw [← hm, ← hm']
    exact ⟨v', rfl, S_of_nest N (by omega) (Nat.le_refl _) (fun _ _ => trivial) (fun _ _ _ _ => trivial), hst.out⟩
  · cases h
def watch_Open.f (l0 : List (List Int)) (a0 : Int) (x0 : Bool) (n : Int) : Option (List (List Int) × Int × Bool) := if okG l0 = true then some (openG l0 a0 n, a0, true) else none
theorem watch_Open.calls (A0 : Option Addr) (c0 : Nat) (l0 : List (List Int)) (a0 : Int) (x0 : Bool) (n : Int) (r1 : List (List Int)) (r2 : Int) (r3 : Bool) (w : World) (hr0 : Kd.C (Kd.slice 3 (Kd.int .i64)) w A0 l0.length l0) (hc0 : l0.length ≤ c0) (h : watch_Open.f l0 a0 x0 n = some (r1, r2, r3)) :
    Calls Try.prog 11 #[.agg #[.slice A0 l0.length c0, .int .i64 a0, .bool x0], .int .i64 n] w fun e w' => ∃ v0_ : Value, e = .returned (.agg #[v0_, .int .i64 r2, .bool r3]) ∧ Kd.S (Kd.slice 3 (Kd.int .i64)) 22 w' w.heap.size (fun _ => True) v0_ r1 ∧ Below w.heap.size w w' := by
  unfold watch_Open.f at h
  split at h
  · rename_i hok
    obtain ⟨rfl, rfl, rfl⟩ : openG l0 a0 n = r1 ∧ a0 = r2 ∧ true = r3 := by simpa using Option.some.inj h
    obtain ⟨L, hL, hm⟩ := in2_of_C hr0 hc0 hok
    refine (Lime.open_c hL a0 x0 n).mono ?_
    rintro e w' ⟨v', L', rfl, N, hm', hst⟩
    rw [hm] at hm'
    rw [← hm']
    exact ⟨v', rfl, S_of_nest N (Nat.le_refl _) (Nat.le_refl _) (fun _ _ => trivial) (fun _ _ _ _ => trivial), hst.out⟩
  · cases h
def watch_Drop.f (l0 : List (List Int)) (a0 : Int) (x0 : Bool) (n : Int) : Option (List (List Int) × Int × Bool) := if okG l0 = true then some (dropG l0 n, a0, x0) else none
theorem watch_Drop.calls (A0 : Option Addr) (c0 : Nat) (l0 : List (List Int)) (a0 : Int) (x0 : Bool) (n : Int) (r1 : List (List Int)) (r2 : Int) (r3 : Bool) (w : World) (hr0 : Kd.C (Kd.slice 3 (Kd.int .i64)) w A0 l0.length l0) (hc0 : l0.length ≤ c0) (h : watch_Drop.f l0 a0 x0 n = some (r1, r2, r3)) :
    Calls Try.prog 14 #[.agg #[.slice A0 l0.length c0, .int .i64 a0, .bool x0], .int .i64 n] w fun e w' => ∃ v0_ : Value, e = .returned (.agg #[v0_, .int .i64 r2, .bool r3]) ∧ Kd.S (Kd.slice 3 (Kd.int .i64)) 22 w' w.heap.size (fun _ => True) v0_ r1 ∧ Below w.heap.size w w' := by
  unfold watch_Drop.f at h
  split at h
  · rename_i hok
    obtain ⟨rfl, rfl, rfl⟩ : dropG l0 n = r1 ∧ a0 = r2 ∧ x0 = r3 := by simpa using Option.some.inj h
    obtain ⟨L, hL, hm⟩ := in2_of_C hr0 hc0 hok
    refine (Lime.drop_c hL a0 x0 n).mono ?_
    rintro e w' ⟨v', L', rfl, N, hm', hst⟩
    rw [hm] at hm'
    rw [← hm']
    exact ⟨v', rfl, S_of_nest N (Nat.le_refl _) (Nat.le_refl _) (fun _ _ => trivial) (fun _ _ _ _ => trivial), hst.out⟩
  · cases h
def watch_Close.f (l0 : List (List Int)) (a0 : Int) (x0 : Bool) : Option (List (List Int) × Int × Bool × List Int) := if okG l0 = true then some (l0, closeA a0, x0, closeL l0) else none
theorem watch_Close.calls (A0 : Option Addr) (c0 : Nat) (l0 : List (List Int)) (a0 : Int) (x0 : Bool) (r1 : List (List Int)) (r2 : Int) (r3 : Bool) (r4 : List Int) (w : World) (hr0 : Kd.C (Kd.slice 3 (Kd.int .i64)) w A0 l0.length l0) (hc0 : l0.length ≤ c0) (h : watch_Close.f l0 a0 x0 = some (r1, r2, r3, r4)) :
    Calls Try.prog 12 #[.agg #[.slice A0 l0.length c0, .int .i64 a0, .bool x0]] w fun e w' => ∃ v0_ v1_ : Value, e = .returned (.tuple #[.agg #[v0_, .int .i64 r2, .bool r3], v1_]) ∧ Kd.S (Kd.slice 3 (Kd.int .i64)) 22 w' w.heap.size (fun k_ => some k_ ≠ v1_.ownBlock) v0_ r1 ∧ Kd.R (Kd.int .i64) 3 w' w.heap.size (fun _ => True) v1_ r4 ∧ Below w.heap.size w w' := by
  unfold watch_Close.f at h
  split at h
  · rename_i hok
    obtain ⟨rfl, rfl, rfl, rfl⟩ : l0 = r1 ∧ closeA a0 = r2 ∧ x0 = r3 ∧ closeL l0 = r4 := by simpa using Option.some.inj h
    obtain ⟨L, hL, hm⟩ := in2_of_C hr0 hc0 hok
    refine (Lime.close_c hL a0 x0).mono ?_
    rintro e w' ⟨v', u, L', rfl, N, hm', hO, hap, hst⟩
    have hll : L'.length = L.length := by have := congrArg List.length hm'; simpa using this
    rw [hm] at hm' hO
    refine ⟨v', u, rfl, ?_, R_of_ints hO (fun k hk => hO.blk k hk) (fun _ _ => trivial), hst.out⟩
    have := S_of_nest N (by omega) (Nat.le_refl _) (ok := fun k => some k ≠ u.ownBlock) (fun k hk e => (hap k e.symm).1 hk) (fun i hi k hk e => (hap k e.symm).2 i hi hk)
    rw [hm'] at this
    exact this
  · cases h
end Go.Proofs.Ytpklhnggbhkmiaa.P
