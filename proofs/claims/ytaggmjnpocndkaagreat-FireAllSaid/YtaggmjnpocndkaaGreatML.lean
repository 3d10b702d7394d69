/- Walks: the program's words for nodes. -/
import Derived.Test.YtaggmjnpocndkaaGreatMA
namespace Go.Proofs.Lime
open Go.RowKit
set_option linter.unusedVariables false
set_option linter.unusedSimpArgs false

theorem in_c (w : World) (n a b : Int) : Calls Tryz.prog 45 #[.int .i64 n, .int .i64 a, .int .i64 b] w fun e w' => e = .returned (.bool (decide (a ≤ n) && decide (n ≤ b))) ∧ Stp w w' := by
  go_enter Tryz.func45, Tryz.ntmps45
  go_wp2
  all_goals
    go_ret
    exact ⟨ret_bool (by grind), by (exact Lime.stp_)⟩
theorem isT_c {w : World} {A : Option Addr} {t : List Nd} {c : Nat} (n : Int) (hc : t.length ≤ c) (hm : t.length ≤ 9223372036854775807) : Calls Tryz.prog 59 #[.slice A t.length c, .int .i64 n] w fun e w' => e = .returned (.bool (isN t n)) ∧ Stp w w' := by
  go_enter Tryz.func59, Tryz.ntmps59
  go_wp2_with (go_at_call 45; refine (in_c _ _ _ _).mono ?_; rintro e w1 ⟨rfl, hb1⟩)
  go_ret
  exact ⟨ret_bool (by grind [isN]), by (exact Lime.stp_)⟩
theorem tvalue_c (w : World) (a : Attr) : Calls Tryz.prog 80 #[a.val] w fun e w' => e = .returned (.bool (valueOk a.name a.value)) ∧ Stp w w' := by
  go_enter Tryz.func80, Tryz.ntmps80
  go_wp2_with (go_at_call 45; refine (in_c _ _ _ _).mono ?_; rintro e w1 ⟨rfl, hb1⟩)
  all_goals
    go_ret
    exact ⟨ret_bool (by grind [valueOk]), by (exact Lime.stp_)⟩
theorem Row.drop {α : Type} {d : Kd α} {S : Nat → Prop} {w : World} {b o n c : Nat} {xs : List α} (h : Row d S w (.slice (some ⟨b, o, none⟩) n c) xs) (k : Nat) (hk : k ≤ xs.length) : Row d S w (.slice (some ⟨b, o + k * d.sz, none⟩) (n - k) (c - k)) (xs.drop k) := by
  obtain ⟨A', c', e, h1, h2⟩ := h.form
  injection e with e1 e2 e3
  subst e1 e2 e3
  have hl : (xs.drop k).length = xs.length - k := List.length_drop ..
  refine ⟨⟨some ⟨b, o + k * d.sz, none⟩, c - k, by rw [hl], by omega, by omega⟩, fun j hj => ?_⟩
  rw [hl] at hj
  obtain ⟨b', o', c', cs, e, hS, hb, hK, hc⟩ := h.get (k + j) (by omega)
  injection e with e1 e2 e3
  injection e1 with e1
  injection e1 with e4 e5
  subst e4 e5 e3
  refine ⟨b, o + k * d.sz, c - k, cs, by rw [hl], hS, hb, by simpa using hK, fun i u hi => ?_⟩
  have := hc i u hi
  rw [Nat.add_mul] at this
  rw [show o + k * d.sz + j * d.sz + i = o + (k * d.sz + j * d.sz) + i by omega]
  exact this
theorem Row.drop_end {α : Type} {d : Kd α} {S : Nat → Prop} {w : World} {A : Option Addr} {n c : Nat} {xs : List α} (h : Row d S w (.slice A n c) xs) (k : Nat) (hk : xs.length ≤ k) : Row d S w (.slice A (n - k) 0) (xs.drop k) := by
  obtain ⟨A', c', e, h1, h2⟩ := h.form
  injection e with e1 e2 e3
  subst e1 e2 e3
  rw [List.drop_eq_nil_of_le hk, show xs.length - k = 0 by omega]
  exact ⟨⟨A, 0, rfl, by simp, by simp⟩, fun j hj => absurd hj (by simp)⟩
theorem count_idx {xs : List Int} {n : Int} {i : Nat} (h : idx (· == n) xs = i) : decide (xs.count n = 1) = !(xs.drop (i + 1)).any (· == n) := by
  have key : ∀ (xs : List Int) (m : Int) (i : Nat), 0 ≤ m → idxFrom (· == n) m xs = m + i → decide (xs.count n = 1) = !(xs.drop (i + 1)).any (· == n) := by
    intro xs
    induction xs with
    | nil => intro m i hm h; simp [idxFrom] at h; omega
    | cons x xs ih =>
      intro m i hm h
      rw [idxFrom] at h
      by_cases hx : x = n
      · subst hx
        simp only [BEq.rfl, if_true] at h
        obtain rfl : i = 0 := by omega
        rw [List.count_cons_self, List.drop_succ_cons, List.drop_zero]
        have : (xs.any (· == x)) = decide (0 < xs.count x) := by
          rw [Bool.eq_iff_iff, List.any_eq_true, decide_eq_true_eq, List.count_pos_iff]
          constructor
          · rintro ⟨y, hy, h⟩; rw [eq_of_beq h] at hy; exact hy
          · intro h; exact ⟨x, h, by simp⟩
        rw [this]
        grind
      · have hx' : (x == n) = false := by simpa using hx
        simp only [hx', Bool.false_eq_true, if_false] at h
        cases i with
        | zero => have := idxFrom_ge (· == n) xs (m + 1); grind
        | succ i =>
          rw [List.count_cons, List.drop_succ_cons, ← ih (m + 1) i (by omega) (by omega)]
          simp [hx']
  exact key xs 0 i (by omega) (by rw [show idxFrom (· == n) 0 xs = idx (· == n) xs from rfl, h]; omega)
theorem count_none {xs : List Int} {n : Int} (h : idx (· == n) xs < 0) : xs.count n = 0 := by
  have h1 := idx_any (· == n) xs
  rw [decide_eq_false (by omega)] at h1
  rw [List.count_eq_zero]
  intro hm
  have := List.any_eq_false.1 h1.symm n hm
  simp at this
theorem once_c {S : Nat → Prop} {w : World} {v : Value} {xs : List Int} (hr : Row intK S w v xs) (n : Int) (hl : xs.length ≤ 1000) :
    Calls Tryz.prog 60 #[v, .int .i64 n] w fun e w' => e = .returned (.bool (decide (xs.count n = 1))) ∧ Stp w w' := by
  obtain ⟨A, c, rfl, hc, hm⟩ := hr.form
  by_cases hi : 0 ≤ idx (· == n) xs
  · obtain ⟨i, hi1, hil, _⟩ := idx_nat hi
    obtain ⟨b, o, rfl, _⟩ := int_at hr i hil
    have ci := fun W (hW : Stp w W) => index_c (hr.stp hW) n
    rw [hi1] at ci
    have HC := Lib.hid (count_idx hi1)
    have hd := hr.drop (i + 1) (by omega)
    have cd := fun W (hW : Stp w W) => contains_c (hd.stp hW) n
    have cd2 := fun (hx : xs.length ≤ i + 1) W (hW : Stp w W) => contains_c ((hr.drop_end (i + 1) hx).stp hW) n
    generalize (xs.drop (i + 1)).any (· == n) = bb at cd cd2 HC
    have hsz : intK.sz = 1 := rfl
    rw [hsz, Nat.mul_one] at cd
    have hilz : (i : Int) + 1 ≤ (xs.length : Int) := by omega
    have hcz : (xs.length : Int) ≤ (c : Int) := by omega
    clear hi hi1 hd
    go_enter Tryz.func60, Tryz.ntmps60
    go_wp2_with fail
    refine (show Calls Tryz.prog 79 _ _ _ from ci _ Lime.stp_).mono ?_
    rintro e w1 ⟨rfl, hb1⟩
    go_wp2_with fail
    · refine (show Calls Tryz.prog 72 _ _ _ from cd2 (by omega) w1 Lime.stp_).mono ?_
      rintro e w2 ⟨rfl, hb2⟩
      go_wp2
      go_ret
      exact ⟨ret_bool (by rw [HC.out]), by (exact Lime.stp_)⟩
    · refine (show Calls Tryz.prog 72 _ _ _ from cd w1 Lime.stp_).mono ?_
      rintro e w2 ⟨rfl, hb2⟩
      go_wp2
      go_ret
      exact ⟨ret_bool (by rw [HC.out]), by (exact Lime.stp_)⟩
  · have ci := fun W (hW : Stp w W) => index_c (hr.stp hW) n
    have HC := Lib.hid (count_none (xs := xs) (n := n) (by omega))
    have hlt : idx (· == n) xs < 0 := by omega
    generalize idx (· == n) xs = ii at ci hlt hi
    go_enter Tryz.func60, Tryz.ntmps60
    go_wp2_with (go_at_call 79; refine (ci _ Lime.stp_).mono ?_; rintro e w1 ⟨rfl, hb1⟩)
    go_ret
    exact ⟨ret_bool (by rw [HC.out]; simp), by (exact Lime.stp_)⟩

theorem attrs_end {k : Int} {l : List Attr} : ∀ (last : Int), attrsFrom k last l = true → l = [] ∨ k = 1 ∨ k = 3 := by
  intro last h
  cases l with
  | nil => exact .inl rfl
  | cons a l =>
    rw [attrsFrom] at h
    grind [attrOk]
theorem attrsFrom_next {k : Int} {l : List Attr} {i : Nat} (h : i < l.length) (last : Int) : attrsFrom k last (l.drop i) = (attrOk k l[i] && (decide (last < l[i].name) && attrsFrom k l[i].name (l.drop (i + 1)))) := by
  rw [List.drop_eq_getElem_cons h, attrsFrom]
set_option maxHeartbeats 4000000 in
theorem tattrs_c {S : Nat → Prop} {w : World} {x : Nd} {Aa : Option Addr} {ca : Nat} (vk : Value) (hr : Row attrK S w (.slice Aa x.attrs.length ca) x.attrs) (h1 : x.attrs.length ≤ ca) (h2 : x.attrs.length ≤ 9223372036854775807) (hkind : 0 ≤ x.kind ∧ x.kind ≤ 3) :
    Calls Tryz.prog 61 #[x.val vk (.slice Aa x.attrs.length ca)] w fun e w' => e = .returned (.bool (attrsOk x)) ∧ Stp w w' := by
  go_enter Tryz.func61, Tryz.ntmps61
  go_wp2
  obtain ⟨w0, hw0, hb0, hz0, gc⟩ := box_named w #[.int .i64 x.kind, .int .i64 x.tag, .int .i64 x.parent, vk, .int .i64 x.host, .int .i64 x.root, .slice Aa x.attrs.length ca] 51
  rw [hw0]
  have g0 := gc 0 _ rfl
  have g6 := gc 6 _ rfl
  clear hw0 gc
  have hr0 := hr.stp hb0
  by_cases h13 : x.kind = 1 ∨ x.kind = 3
  · skip
    go_loopg [3, 10] x.attrs.length (fun gg s3 s10 wr => ∃ (k : Nat) (last : Int), k ≤ x.attrs.length ∧ x.attrs.length - k ≤ gg ∧ s10 = .int .i64 k ∧ s3 = .int .i64 last ∧ -1 ≤ last ∧ Stp w0 wr ∧ Aside (attrsFrom x.kind last (x.attrs.drop k) = attrsOk x) ∧ Aside (k = 0 ∨ x.kind = 1 ∨ x.kind = 3))
    case atStart => exact ⟨0, -1, Nat.zero_le _, by omega, rfl, rfl, Int.le_refl _, Stp.refl w0, rfl, .inl rfl⟩
    case round =>
      obtain ⟨k, last, hk, hg, rfl, rfl, hla, hb, A1, A2⟩ := hrel
      replace g0 := hb.cell g0
      replace g6 := hb.cell g6
      have hB := World.block_lt_of_cell? _ _ g0
      by_cases hlt : k < x.attrs.length
      · have hltz : (k : Int) < (x.attrs.length : Int) := by omega
        obtain ⟨b, o, rfl, hS, hbw, x0, x1⟩ := attr_at (hr0.stp hb) k hlt
        have B := Lib.hid (attrsFrom_next (k := x.kind) hlt last)
        generalize hy : x.attrs[k] = y at x0 x1 B
        clear hy
        go_wp2_with (go_at_call 80; refine (tvalue_c _ ⟨_, _⟩).mono ?_; rintro e w1 ⟨rfl, hb1⟩; replace g0 := Stp.cell (w' := w1) Lime.stp_ g0; have q1 := hb1.cell (box_at wr _ _ 0 _ rfl))
        all_goals first
          | (go_ret
             exact ⟨ret_bool (by
               rw [← A1.out, B.out]
               clear hr hr0 B A1
               grind [attrOk]), by (exact Lime.stp_)⟩)
          | skip
        all_goals
          have h8 : Aside (attrOk x.kind y = true ∧ last < y.name) := by
            show attrOk x.kind y = true ∧ last < y.name
            clear hr hr0 B A1
            grind [attrOk]
          go_roundg (x.attrs.length - (k + 1))
          case measure => omega
          case rel => exact ⟨k + 1, y.name, by omega, by omega, by go_num, by first | rfl | exact congrArg _ (by omega), by have := h8.out.2; omega, by (exact Lime.stp_), by rw [← A1.out, B.out, h8.out.1, decide_eq_true h8.out.2]; rfl, .inr (by have := h8.out.1; clear hr hr0 B A1; grind [attrOk])⟩
      · have hltz : ¬ (k : Int) < (x.attrs.length : Int) := by omega
        have HT := Lib.hid (show attrsOk x = true by rw [← A1.out, List.drop_eq_nil_of_le (by omega)]; rfl)
        have HK := Lib.hid (show x.attrs.length = 0 ∨ x.kind = 1 ∨ x.kind = 3 by rcases A2.out with h | h; exact .inl (by omega); exact .inr h)
        clear A1 A2
        go_wp2
        all_goals
          go_ret
          exact ⟨ret_bool (by rw [HT.out]; try (have := HK.out; clear hr hr0; grind)), by (exact Lime.stp_)⟩
  · have HX := Lib.hid (show attrsOk x = decide (x.attrs.length = 0) by
      rw [attrsOk]
      cases hx : x.attrs with
      | nil => rfl
      | cons a l =>
        rw [attrsFrom]
        have : attrOk x.kind a = false := by grind [attrOk]
        rw [this]; simp)
    have hk1 : ¬ x.kind = 1 := fun h => h13 (.inl h)
    have hk3 : ¬ x.kind = 3 := fun h => h13 (.inr h)
    clear h13
    go_loopg [3, 10] x.attrs.length (fun gg s3 s10 wr => ∃ (k : Nat) (last : Int), k ≤ x.attrs.length ∧ x.attrs.length - k ≤ gg ∧ s10 = .int .i64 k ∧ s3 = .int .i64 last ∧ Stp w0 wr)
    case atStart => exact ⟨0, -1, Nat.zero_le _, by omega, rfl, rfl, Stp.refl w0⟩
    case round =>
      obtain ⟨k, last, hk, hg, rfl, rfl, hb⟩ := hrel
      replace g0 := hb.cell g0
      replace g6 := hb.cell g6
      have hB := World.block_lt_of_cell? _ _ g0
      by_cases hlt : k < x.attrs.length
      · have hltz : (k : Int) < (x.attrs.length : Int) := by omega
        obtain ⟨b, o, rfl, hS, hbw, x0, x1⟩ := attr_at (hr0.stp hb) k hlt
        generalize x.attrs[k] = y at x0 x1
        go_wp2_with (go_at_call 80; refine (tvalue_c _ ⟨_, _⟩).mono ?_; rintro e w1 ⟨rfl, hb1⟩; replace g0 := Stp.cell (w' := w1) Lime.stp_ g0; have q1 := hb1.cell (box_at wr _ _ 0 _ rfl))
        all_goals first
          | (go_ret
             exact ⟨ret_bool (by rw [HX.out, decide_eq_false (by omega)]), by (exact Lime.stp_)⟩)
          | skip
        all_goals
          go_roundg (x.attrs.length - (k + 1))
          case measure => omega
          case rel => exact ⟨k + 1, _, by omega, by omega, by go_num, rfl, by (exact Lime.stp_)⟩
      · have hltz : ¬ (k : Int) < (x.attrs.length : Int) := by omega
        go_wp2
        all_goals
          go_ret
          exact ⟨ret_bool (by rw [HX.out]; clear hr hr0; grind), by (exact Lime.stp_)⟩
end Go.Proofs.Lime
