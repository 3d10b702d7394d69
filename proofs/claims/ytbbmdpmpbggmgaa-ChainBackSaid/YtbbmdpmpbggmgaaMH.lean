/- Walk: the iterator that hands over a list of numbers from its end. Walks: chains of focus: who is above whom, and what is told of a step. Walk: what is told of a step of focus. The contracts of chains in the print's form. No conditions. -/
import Derived.Test.YtbbmdpmpbggmgaaMA
import Derived.Test.YtbbmdpmpbggmgaaMD
import Derived.Test.YtbbmdpmpbggmgaaMP
import Derived.Test.YtbbmdpmpbggmgaaWLast
import Derived.Test.YtbbmdpmpbggmgaaME
namespace Go.Proofs.Lime
open Go.RowKit
set_option linter.unusedVariables false
set_option linter.unusedSimpArgs false
attribute [local go_sem] Oper.semAt_some
theorem back_c (w : World) (A : Option Addr) (m c : Nat) : Calls Try.prog 24 #[.slice A m c] w fun e w' => e = .returned (.func (.func 34) #[] #[.pointer (some ⟨w.heap.size, 0, none⟩)]) ∧ w' = w.alloc (.cells #[.slice A m c] 30) := by
  go_enter Try.func24, Try.ntmps24
  go_wp2
  go_ret
  exact ⟨rfl, rfl⟩
/-- What is handed over: places and elements, from the end. -/
def backs (xs : List Int) : List (Int × Int) := (List.range xs.length).reverse.map fun i : Nat => ((i : Int), xs.getD i 0)
theorem backs_length (xs : List Int) : (backs xs).length = xs.length := by simp [backs]
theorem backs_at {xs : List Int} {k : Nat} (h : k < (backs xs).length) (h2 : xs.length - 1 - k < xs.length) : (backs xs)[k] = (((xs.length - 1 - k : Nat) : Int), xs[xs.length - 1 - k]) := by
  simp only [backs, List.getElem_map, List.getElem_reverse, List.getElem_range, List.length_range]
  rw [List.getD_eq_getElem?_getD, List.getElem?_eq_getElem h2]; rfl
set_option maxHeartbeats 1000000 in
theorem back1_it {S : Nat → Prop} {w : World} {A : Option Addr} {c : Nat} {xs : List Int} (hr : Row intK S w (.slice A xs.length c) xs) {B : Nat} (h1 : w.cell? ⟨B, 0, none⟩ = some (.slice A xs.length c)) :
    Iter Try.prog 34 #[.pointer (some ⟨B, 0, none⟩)] (fun p : Int × Int => #[.int .i64 p.1, .int .i64 p.2]) (fun _ => False) (fun b => S b ∨ b = B) (backs xs) w := by
  intro l J Jx O W hk hO hJ hJx hY h0
  have hOB : ¬ O B := fun h => (hO B h).2 (World.block_lt_of_cell? w _ h1) (.inr rfl)
  have hrW := hr.bound.kpt hk (fun x hx hl h => (hO x h).2 hx.2 (.inl hx.1))
  have cB := hk.cell (p := ⟨B, 0, none⟩) hOB h1
  have hOS : ∀ x, S x ∧ x < w.heap.size → ¬ O x := fun x hx h => (hO x h).2 hx.2 (.inl hx.1)
  have hBW := World.block_lt_of_cell? W _ cB
  have hSW := hk.size
  obtain ⟨A', c', e, hc, hm⟩ := hr.form
  injection e with e1 e2 e3
  subst e1 e3
  clear hr h1 e2
  refine callsIn_of_wp Try.func34 rfl trivial ?_ rfl; simp only [Try.ntmps34, List.size_toArray, List.length_cons, List.length_nil, Nat.reduceAdd, Nat.reduceSub, Array.replicate_succ, Array.replicate_zero, List.push_toArray, List.append_toArray, List.nil_append, List.cons_append]
  gi_wp2
  gi_loopw [3] (fun s3 wr => ∃ (i : Int) (k : Nat) (O' : Nat → Prop), s3 = .int .i64 i ∧ -1 ≤ i ∧ i + k + 1 = xs.length ∧ Aside ((∀ b, O' b → O b ∨ W.heap.size ≤ b) ∧ Kpt O W wr ∧ J k O' wr)) (fun s3 _ => (intOf s3 + 1).toNat)
  case atStart => exact ⟨_, 0, O, rfl, by omega, by omega, fun b hb => .inl hb, Kpt.refl _ _, h0⟩
  case round =>
    obtain ⟨i, k, O', rfl, hi1, hi, HA⟩ := hrel
    have cB' := HA.out.2.1.cell (p := ⟨B, 0, none⟩) hOB cB
    by_cases hi0 : 0 ≤ i
    · have hilt : xs.length - 1 - k < xs.length := by omega
      obtain ⟨j, rfl⟩ : ∃ j : Nat, i = j := ⟨i.toNat, by omega⟩
      have hjx : j = xs.length - 1 - k := by omega
      have hj : j < xs.length := by omega
      have hkx : k < (backs xs).length := by rw [backs_length]; omega
      have hY1 := hY k hkx O' wr HA.out.2.2
      rw [backs_at hkx hilt] at hY1
      dsimp only at hY1
      subst hjx
      obtain ⟨fn, tmps, assign, body, hy, hR⟩ := hY1
      have hrw := hrW.kpt HA.out.2.1 fun x hx _ h => hOS x hx h
      obtain ⟨b', o', rfl, _, _, y0⟩ := int_at hrw _ hj
      have hjz : ((xs.length - 1 - k : Nat) : Int) < (xs.length : Int) := by omega
      generalize xs[xs.length - 1 - k] = y at y0 hR hy
      generalize xs.length - 1 - k = j at *
      gi_wp2
      refine ⟨rfl, hR.mono ?_⟩
      rintro e W3 ⟨O3, h3, hk3, (⟨rfl, hj3⟩ | ⟨rfl, hj3⟩)⟩
      · gi_wp2
        go_roundw
        case rel => exact ⟨(j : Int) - 1, k + 1, O3, by go_num, by omega, by omega, fun x hx => (h3 x hx).elim (HA.out.1 x) (fun h => by have := HA.out.2.1.size; exact .inr (by omega)), HA.out.2.1.trans hk3 HA.out.1, hj3⟩
        case measure => simp [intOf]
      · gi_wp2
        refine bodyPost_ret (results_none rfl _ _ _) rfl ?_
        exact ⟨⟨_, rfl⟩, O3, .inr ⟨_, hj3⟩⟩
    · gi_wp2
      refine bodyPost_end (results_none rfl _ _ _) rfl ?_
      exact ⟨⟨_, rfl⟩, O', .inl (by rw [backs_length]; rw [show xs.length = k by omega]; exact HA.out.2.2)⟩
end Go.Proofs.Lime
namespace Go.Proofs.Lime
open Go.RowKit
set_option linter.unusedVariables false
set_option linter.unusedSimpArgs false

theorem cis_r {S : Nat → Prop} {w : World} {v : Value} {t : List Nd} (hr : Row nodeK S w v t) (hks : KidsOk t) (a b : Int) :
    Calls Try.prog 22 #[v, .int .i64 a, .int .i64 b] w fun e w' => e = .returned (.bool (mayT t && (isN t a && isN t b))) ∧ Stp w w' := by
  obtain ⟨A, c, rfl, hc, hm⟩ := hr.form
  have ca := fun W (hW : Stp w W) => otop_r (hr.stp hW) hks a
  have cb := fun W (hW : Stp w W) => otop_r (hr.stp hW) hks b
  by_cases ha : mayT t = true ∧ isN t a = true
  · have M := May.of ha.1
    obtain ⟨k, hk, hkt⟩ := isN_nat (M.topT_isN ha.2)
    rw [show topR t a = topT t a from if_pos ha, hk] at ca
    have hkn : ((k : Int) != -1) = true := by simp
    by_cases hb : isN t b = true
    · have HR := Lib.hid (show (mayT t && (isN t a && isN t b)) = true by rw [ha.1, ha.2, hb]; rfl)
      obtain ⟨j, hj, hjt⟩ := isN_nat (M.topT_isN hb)
      rw [show topR t b = topT t b from if_pos ⟨ha.1, hb⟩, hj] at cb
      have hjn : ((j : Int) != -1) = true := by simp
      clear ha hb hk hj
      go_enter Try.func22, Try.ntmps22
      go_wp2_with (first | (go_at_call 28; refine (ca _ Lime.stp_).mono ?_; clear ca; rintro e w1 ⟨rfl, hb1⟩) | (go_at_call 28; refine (cb _ Lime.stp_).mono ?_; rintro e w2 ⟨rfl, hb2⟩))
      go_ret
      exact ⟨ret_bool (by rw [HR.out]), by (exact Lime.stp_)⟩
    · have HR := Lib.hid (show (mayT t && (isN t a && isN t b)) = false by rw [ha.1, ha.2]; simpa using hb)
      rw [show topR t b = -1 from if_neg (fun h => hb h.2)] at cb
      clear ha hb hk
      go_enter Try.func22, Try.ntmps22
      go_wp2_with (first | (go_at_call 28; refine (ca _ Lime.stp_).mono ?_; clear ca; rintro e w1 ⟨rfl, hb1⟩) | (go_at_call 28; refine (cb _ Lime.stp_).mono ?_; rintro e w2 ⟨rfl, hb2⟩))
      go_ret
      exact ⟨ret_bool (by rw [HR.out]), by (exact Lime.stp_)⟩
  · have HR := Lib.hid (show (mayT t && (isN t a && isN t b)) = false by
      cases h1 : mayT t <;> cases h2 : isN t a <;> simp_all)
    rw [show topR t a = -1 from if_neg ha] at ca
    clear ha cb
    go_enter Try.func22, Try.ntmps22
    go_wp2_with (go_at_call 28; refine (ca _ Lime.stp_).mono ?_; rintro e w1 ⟨rfl, hb1⟩)
    go_ret
    exact ⟨ret_bool (by rw [HR.out]), by (exact Lime.stp_)⟩
theorem Row.of_cells {w : World} {B o c : Nat} {l : List Int} (hB : B < w.heap.size) (hc : l.length ≤ c) (h9 : l.length ≤ 9223372036854775807) (h : ∀ j (hj : j < l.length), w.cell? ⟨B, o + j, none⟩ = some (.int .i64 l[j])) : Row intK (· = B) w (.slice (some ⟨B, o, none⟩) l.length c) l :=
  ⟨⟨_, c, rfl, hc, h9⟩, fun j hj => ⟨B, o, c, [.int .i64 l[j]], rfl, rfl, hB, rfl, fun i u hi => by
    match i with
    | 0 => simp only [List.getElem?_cons_zero, Option.some.injEq] at hi; subst hi; rw [show intK.sz = 1 from rfl, Nat.mul_one]; exact h j hj
    | i + 1 => simp at hi⟩⟩
/-- The chain of a node. -/
def chT (n : Int) : List Int := if n = 0 then [0] else [n, 0]
def chR (t : List Nd) (n : Int) : List Int := if mayT t = true ∧ isN t n = true then chT n else []
theorem chain_r {S : Nat → Prop} {w : World} {v : Value} {t : List Nd} (hr : Row nodeK S w v t) (hks : KidsOk t) (n : Int) :
    Calls Try.prog 13 #[v, .int .i64 n] w fun e w' => ∃ u, e = .returned u ∧ Row intK (fun b => w.heap.size ≤ b) w' u (chR t n) ∧ Stp w w' := by
  obtain ⟨A, c, rfl, hc, hm⟩ := hr.form
  have ci := fun W (hW : Stp w W) => cis_r (hr.stp hW) hks n n
  by_cases ho : mayT t = true ∧ isN t n = true
  · have HR := Lib.hid (show chR t n = chT n from if_pos ho)
    rw [ho.1, ho.2] at ci
    clear ho
    by_cases hn : n = 0
    · subst hn
      go_enter Try.func13, Try.ntmps13
      go_wp2_with (go_at_call 22; refine (ci _ Lime.stp_).mono ?_; rintro e w1 ⟨rfl, hb1⟩)
      have x1 := hb1.cell (box_at w _ 44 1 _ rfl)
      go_ret
      refine ⟨_, rfl, ?_, by (exact Lime.stp_)⟩
      rw [HR.out]
      exact (Row.of_cells (l := [0]) (o := 1) (by have := hb1.size; simp at this; omega) (by simp) (by simp) (fun j hj => by obtain rfl : j = 0 := (by simpa using hj); exact x1)).mono (by rintro k rfl; exact Nat.le_refl _)
    · have hnn : (n == 0) = false := by simpa using hn
      go_enter Try.func13, Try.ntmps13
      go_wp2_with (go_at_call 22; refine (ci _ Lime.stp_).mono ?_; rintro e w1 ⟨rfl, hb1⟩)
      have x0 := hb1.cell (box_at w _ 44 0 _ rfl)
      have x1 := hb1.cell (box_at w _ 44 1 _ rfl)
      go_ret
      refine ⟨_, rfl, ?_, by (exact Lime.stp_)⟩
      rw [HR.out, show chT n = [n, 0] from if_neg (by simpa using hnn)]
      exact (Row.of_cells (l := [n, 0]) (o := 0) (by have := hb1.size; simp at this; omega) (by simp) (by simp) (fun j hj => by
        match j, hj with
        | 0, _ => exact x0
        | 1, _ => exact x1)).mono (by rintro k rfl; exact Nat.le_refl _)
  · have HR := Lib.hid (show chR t n = [] from if_neg ho)
    rw [show (mayT t && (isN t n && isN t n)) = false by cases h1 : mayT t <;> cases h2 : isN t n <;> simp_all] at ci
    clear ho
    go_enter Try.func13, Try.ntmps13
    go_wp2_with (go_at_call 22; refine (ci _ Lime.stp_).mono ?_; rintro e w1 ⟨rfl, hb1⟩)
    go_ret
    exact ⟨_, rfl, by rw [HR.out]; exact Row.nil _ _ _, by (exact Lime.stp_)⟩
/-- What is told of an event. -/
structure Evt where
  type : Int
  target : Int
  related : Int
  bubbles : Bool
  cancel : Bool
  composed : Bool
def Evt.cells (e : Evt) : List Value := [.int .i64 e.type, .int .i64 e.target, .int .i64 e.related, .bool e.bubbles, .bool e.cancel, .bool e.composed]
def evK : Kd Evt := Kd.flat 6 Evt.cells (fun _ => rfl) (fun x u hu => by
  simp only [Evt.cells, List.mem_cons, List.not_mem_nil, or_false] at hu
  rcases hu with rfl | rfl | rfl | rfl | rfl | rfl <;> rfl)
def relV (n : Int) : Int := if n = 0 then -1 else n
def pairL (k0 k1 target related : Int) : List Evt := [⟨k0, target, relV related, false, false, true⟩, ⟨k1, target, relV related, true, false, true⟩]
theorem in_block {w : World} {B : Nat} {cs : Array Value} {t : TypeId} (h : w.heap[B]? = some (.cells cs t (0, 0))) (i : Nat) (u : Value) (hu : cs[i]? = some u) : w.cell? ⟨B, i, none⟩ = some u ∧ w.frozen? ⟨B, i, none⟩ = false := by
  refine ⟨by simp only [World.cell?, h]; simpa using hu, ?_⟩
  simp only [World.frozen?, h, Bool.and_eq_false_iff, decide_eq_false_iff_not]
  right; omega
theorem set_block {w : World} {B : Nat} {cs : Array Value} {t : TypeId} {fz : Nat × Nat} (h : w.heap[B]? = some (.cells cs t fz)) (i : Nat) (u : Value) : (w.setCell ⟨B, i, none⟩ u).heap[B]? = some (.cells (cs.setIfInBounds i u) t fz) := by
  unfold World.setCell
  simp only [Array.getElem?_modify, h]
  simp
theorem Kpt.then_set {O : Nat → Prop} {a b : World} (h : Kpt O a b) {B i : Nat} {u : Value} (hB : O B) : Kpt O a (b.setCell ⟨B, i, none⟩ u) := h.trans (Kpt.setCell b u hB) fun x hx => .inl hx
theorem idx2 (k0 k1 : Int) (W : World) : (Instr.index 44 (.agg #[.int .i64 k0, .int .i64 k1]) (.int .i64 0)).run Try.prog W = .ok (.int .i64 k0) W ∧ (Instr.index 44 (.agg #[.int .i64 k0, .int .i64 k1]) (.int .i64 1)).run Try.prog W = .ok (.int .i64 k1) W := by
  have hu : Try.prog.underlying 44 = some (.array 2 3) := Try.underlying44
  have hi : ∃ i, Try.prog.info? 3 = some i ∧ i.size = 1 := by exact ⟨_, rfl, by kernel_rfl⟩
  obtain ⟨i0, hi, hs⟩ := hi
  have ha : (isAgg 3).run Try.prog W = .ok false W := by
    simp [isAgg, run_underlying Try.underlying3]
  constructor
  · simp [Instr.index, asIntOf, run_underlying hu, sizeOf, typeInfo, hi, hs, part, ha]
  · simp [Instr.index, asIntOf, run_underlying hu, sizeOf, typeInfo, hi, hs, part, ha]
/-- The cells of two events, the first i of them told. -/
def pairC (k0 k1 a r : Int) : Nat → List Value
  | 0 => [.int .i64 0, .int .i64 0, .int .i64 0, .bool false, .bool false, .bool false, .int .i64 0, .int .i64 0, .int .i64 0, .bool false, .bool false, .bool false]
  | 1 => [.int .i64 k0, .int .i64 a, .int .i64 r, .bool false, .bool false, .bool true, .int .i64 0, .int .i64 0, .int .i64 0, .bool false, .bool false, .bool false]
  | _ => [.int .i64 k0, .int .i64 a, .int .i64 r, .bool false, .bool false, .bool true, .int .i64 k1, .int .i64 a, .int .i64 r, .bool true, .bool false, .bool true]
theorem evs_row {w : World} {B : Nat} {k0 k1 a r : Int} {t : TypeId} (hB : w.heap[B]? = some (.cells (pairC k0 k1 a r 2).toArray t (0, 0))) : Row evK (· = B) w (.slice (some ⟨B, 0, none⟩) 2 2) [⟨k0, a, r, false, false, true⟩, ⟨k1, a, r, true, false, true⟩] := by
  have hlt := (Array.getElem?_eq_some_iff.1 hB).1
  refine ⟨⟨_, 2, rfl, by simp, by simp⟩, fun j hj => ⟨B, 0, 2, _, rfl, rfl, hlt, rfl, fun i u hi => ?_⟩⟩
  have hi6 : i < 6 := by have := (List.getElem?_eq_some_iff.1 hi).1; exact this
  refine (in_block hB (0 + j * 6 + i) u ?_).1
  rw [List.getElem?_toArray, show pairC k0 k1 a r 2 = Evt.cells ⟨k0, a, r, false, false, true⟩ ++ Evt.cells ⟨k1, a, r, true, false, true⟩ from rfl]
  match j, hj with
  | 0, _ => rw [List.getElem?_append_left (by show _ < 6; omega), show 0 + 0 * 6 + i = i by omega]; exact hi
  | 1, _ => rw [List.getElem?_append_right (by show 6 ≤ _; omega), show 0 + 1 * 6 + i - (Evt.cells ⟨k0, a, r, false, false, true⟩).length = i by show 0 + 1 * 6 + i - 6 = i; omega]; exact hi
set_option maxHeartbeats 1000000 in
theorem pair_c (w : World) (k0 k1 a b : Int) : Calls Try.prog 23 #[.agg #[.int .i64 k0, .int .i64 k1], .int .i64 a, .int .i64 b] w fun e w' => ∃ u, e = .returned u ∧ Row evK (fun b => w.heap.size ≤ b) w' u (pairL k0 k1 a b) ∧ Stp w w' := by
  by_cases hb : b = 0
  · subst hb
    have hr := Lib.hid (show relV 0 = -1 from rfl)
    go_enter Try.func23, Try.ntmps23
    go_wp2
    obtain ⟨w1, hw1⟩ : ∃ w1, ((w.alloc (.cells #[.int .i64 k0, .int .i64 k1] 44)).alloc (.cells (pairC k0 k1 a 0 0).toArray 50)) = w1 := ⟨_, rfl⟩
    have hB : w1.heap[w.heap.size + 1]? = some (.cells (pairC k0 k1 a 0 0).toArray 50 (0, 0)) := by rw [← hw1]; exact (congrArg (fun k => (World.alloc _ _).heap[k]?) (World.size_alloc w (.cells #[.int .i64 k0, .int .i64 k1] 44)).symm).trans (World.alloc_heap_new _ _)
    have hs1 : Stp w w1 := by rw [← hw1]; exact ((Stp.refl w).alloc _).alloc _
    simp only [pairC] at hw1
    rw [hw1]
    clear hw1
    obtain ⟨B, hBe⟩ : ∃ B, w.heap.size + 1 = B := ⟨_, rfl⟩
    rw [hBe] at hB ⊢
    go_loopw [13] (fun s13 wr => ∃ i : Nat, (i = 0 ∧ s13 = .int .i64 0 ∨ i = 1 ∧ s13 = .int .i64 1 ∨ i = 2 ∧ s13 = .int .i64 2) ∧ Aside (Kpt (· = B) w1 wr ∧ wr.heap[B]? = some (.cells (pairC k0 k1 a (-1) i).toArray 50 (0, 0)))) (fun s13 _ => 2 - (intOf s13).toNat)
    case atStart => exact ⟨0, .inl ⟨rfl, rfl⟩, Kpt.refl _ _, hB⟩
    case round =>
      obtain ⟨i, hi, HA⟩ := hrel
      obtain ⟨hkp, hBw⟩ := HA.out
      rcases hi with ⟨rfl, rfl⟩ | ⟨rfl, rfl⟩ | ⟨rfl, rfl⟩
      · simp only [pairC] at hBw
        have i0 := fun W => (idx2 k0 k1 W).1
        obtain ⟨x0, f0⟩ := in_block hBw 0 _ rfl
        obtain ⟨x1, f1⟩ := in_block hBw 1 _ rfl
        obtain ⟨x2, f2⟩ := in_block hBw 2 _ rfl
        obtain ⟨x3, f3⟩ := in_block hBw 3 _ rfl
        obtain ⟨x4, f4⟩ := in_block hBw 4 _ rfl
        obtain ⟨x5, f5⟩ := in_block hBw 5 _ rfl
        go_wp2
        go_roundw
        case rel =>
          refine ⟨1, .inr (.inl ⟨rfl, rfl⟩), ?_, ?_⟩
          · exact (((((hkp.then_set rfl).then_set rfl).then_set rfl).then_set rfl).then_set rfl).then_set rfl
          · exact set_block (set_block (set_block (set_block (set_block (set_block hBw 0 _) 1 _) 2 _) 3 _) 4 _) 5 _
        case measure => decide
      · simp only [pairC] at hBw
        have i1 := fun W => (idx2 k0 k1 W).2
        obtain ⟨x0, f0⟩ := in_block hBw 6 _ rfl
        obtain ⟨x1, f1⟩ := in_block hBw 7 _ rfl
        obtain ⟨x2, f2⟩ := in_block hBw 8 _ rfl
        obtain ⟨x3, f3⟩ := in_block hBw 9 _ rfl
        obtain ⟨x4, f4⟩ := in_block hBw 10 _ rfl
        obtain ⟨x5, f5⟩ := in_block hBw 11 _ rfl
        go_wp2
        go_roundw
        case rel =>
          refine ⟨2, .inr (.inr ⟨rfl, rfl⟩), ?_, ?_⟩
          · exact (((((hkp.then_set rfl).then_set rfl).then_set rfl).then_set rfl).then_set rfl).then_set rfl
          · exact set_block (set_block (set_block (set_block (set_block (set_block hBw 6 _) 7 _) 8 _) 9 _) 10 _) 11 _
        case measure => decide
      · go_wp2
        go_ret
        refine ⟨_, rfl, ?_, ((Kpt.of_stp (O := fun _ => False) hs1).trans hkp fun x hx => .inr (by omega)).stp fun x hx => hx.elim⟩
        rw [show pairL k0 k1 a 0 = [⟨k0, a, (-1), false, false, true⟩, ⟨k1, a, (-1), true, false, true⟩] by simp only [pairL]; rw [hr.out]]
        exact (evs_row (hB := hBw)).mono (by rintro k rfl; omega)
  · have hbb : (b == 0) = false := by simpa using hb
    have hr := Lib.hid (show relV b = b from if_neg hb)
    go_enter Try.func23, Try.ntmps23
    go_wp2
    obtain ⟨w1, hw1⟩ : ∃ w1, ((w.alloc (.cells #[.int .i64 k0, .int .i64 k1] 44)).alloc (.cells (pairC k0 k1 a 0 0).toArray 50)) = w1 := ⟨_, rfl⟩
    have hB : w1.heap[w.heap.size + 1]? = some (.cells (pairC k0 k1 a 0 0).toArray 50 (0, 0)) := by rw [← hw1]; exact (congrArg (fun k => (World.alloc _ _).heap[k]?) (World.size_alloc w (.cells #[.int .i64 k0, .int .i64 k1] 44)).symm).trans (World.alloc_heap_new _ _)
    have hs1 : Stp w w1 := by rw [← hw1]; exact ((Stp.refl w).alloc _).alloc _
    simp only [pairC] at hw1
    rw [hw1]
    clear hw1
    obtain ⟨B, hBe⟩ : ∃ B, w.heap.size + 1 = B := ⟨_, rfl⟩
    rw [hBe] at hB ⊢
    go_loopw [13] (fun s13 wr => ∃ i : Nat, (i = 0 ∧ s13 = .int .i64 0 ∨ i = 1 ∧ s13 = .int .i64 1 ∨ i = 2 ∧ s13 = .int .i64 2) ∧ Aside (Kpt (· = B) w1 wr ∧ wr.heap[B]? = some (.cells (pairC k0 k1 a b i).toArray 50 (0, 0)))) (fun s13 _ => 2 - (intOf s13).toNat)
    case atStart => exact ⟨0, .inl ⟨rfl, rfl⟩, Kpt.refl _ _, hB⟩
    case round =>
      obtain ⟨i, hi, HA⟩ := hrel
      obtain ⟨hkp, hBw⟩ := HA.out
      rcases hi with ⟨rfl, rfl⟩ | ⟨rfl, rfl⟩ | ⟨rfl, rfl⟩
      · simp only [pairC] at hBw
        have i0 := fun W => (idx2 k0 k1 W).1
        obtain ⟨x0, f0⟩ := in_block hBw 0 _ rfl
        obtain ⟨x1, f1⟩ := in_block hBw 1 _ rfl
        obtain ⟨x2, f2⟩ := in_block hBw 2 _ rfl
        obtain ⟨x3, f3⟩ := in_block hBw 3 _ rfl
        obtain ⟨x4, f4⟩ := in_block hBw 4 _ rfl
        obtain ⟨x5, f5⟩ := in_block hBw 5 _ rfl
        go_wp2
        go_roundw
        case rel =>
          refine ⟨1, .inr (.inl ⟨rfl, rfl⟩), ?_, ?_⟩
          · exact (((((hkp.then_set rfl).then_set rfl).then_set rfl).then_set rfl).then_set rfl).then_set rfl
          · exact set_block (set_block (set_block (set_block (set_block (set_block hBw 0 _) 1 _) 2 _) 3 _) 4 _) 5 _
        case measure => decide
      · simp only [pairC] at hBw
        have i1 := fun W => (idx2 k0 k1 W).2
        obtain ⟨x0, f0⟩ := in_block hBw 6 _ rfl
        obtain ⟨x1, f1⟩ := in_block hBw 7 _ rfl
        obtain ⟨x2, f2⟩ := in_block hBw 8 _ rfl
        obtain ⟨x3, f3⟩ := in_block hBw 9 _ rfl
        obtain ⟨x4, f4⟩ := in_block hBw 10 _ rfl
        obtain ⟨x5, f5⟩ := in_block hBw 11 _ rfl
        go_wp2
        go_roundw
        case rel =>
          refine ⟨2, .inr (.inr ⟨rfl, rfl⟩), ?_, ?_⟩
          · exact (((((hkp.then_set rfl).then_set rfl).then_set rfl).then_set rfl).then_set rfl).then_set rfl
          · exact set_block (set_block (set_block (set_block (set_block (set_block hBw 6 _) 7 _) 8 _) 9 _) 10 _) 11 _
        case measure => decide
      · go_wp2
        go_ret
        refine ⟨_, rfl, ?_, ((Kpt.of_stp (O := fun _ => False) hs1).trans hkp fun x hx => .inr (by omega)).stp fun x hx => hx.elim⟩
        rw [show pairL k0 k1 a b = [⟨k0, a, b, false, false, true⟩, ⟨k1, a, b, true, false, true⟩] by simp only [pairL]; rw [hr.out]]
        exact (evs_row (hB := hBw)).mono (by rintro k rfl; omega)
end Go.Proofs.Lime
namespace Go.Proofs.Lime
open Go.RowKit
set_option linter.unusedVariables false
set_option linter.unusedSimpArgs false
attribute [local go_sem] Oper.semAt_some

section
variable {P : Program} {o : Oper} {a : Act} {K : Act → World → Prop} {Q : Exit → Act → World → Prop} {W : World} {α : Type} {d : Kd α} {S : Nat → Prop}
/-- append(v, ys...), as an operation. -/
theorem oper_appendrow {T T' : Nat → Prop} (s x : Operand) (t e : TypeId) (z : Value) (bytes : Nat)
    (ho : o.op = .call { callee := .builtin .append, args := #[s, x], argTypes := #[t, t] })
    (ht : P.underlying t = some (.slice e)) (hinfo : (P.info? e).map (fun i => (i.zero, i.size, i.bytes)) = some (some z, d.sz, bytes)) (hz : z.cells.size = d.sz) (hs0 : 0 < d.sz) (hb0 : 0 < bytes)
    (v : Value) (xs : List α) (u : Value) (ys : List α) (hs : a.eval s = v) (hx : a.eval x = u) (HR : Row d T W u ys) (hTT : ∀ x cs, d.K T W x cs → d.K T' W x cs) (hT : ∀ k, T' k → k < W.heap.size → S k ∧ some k ≠ v.ownBlock)
    (HO : Own d e S W v xs) (hfresh : ∀ k, W.heap.size ≤ k → S k) (hl : (xs.length + ys.length) * bytes ≤ 140737488355328)
    (h : ∀ v1 w1, Own d e S w1 v1 (xs ++ ys) → W.grownBy w1 v.ownBlock → K (a.put o.dst v1) w1) : Oper.wp P o a W K Q := by
  obtain ⟨v1, w1, hr, h1, h2, h3⟩ := run_appendrow (P := P) t o.type e z bytes ht hinfo hz hs0 hb0 v xs u ys HR hTT hT HO hfresh hl
  unfold Oper.wp
  simp [execOp, ho, resolve, invoke, builtin, hs, hx, hr, Result.andThen, Oper.upon]
  exact h v1 w1 h1 h2
end
theorem noPanic_n {Q : Exit → Act → World → Prop} {a : Act} {w : World} (h : Q .normal a w) : NoPanic Q .normal a w := h
section
variable {P : Program} {ops : Array Oper} {Q : Exit → Act → World → Prop} {l : Nat}
theorem wpOpIn_round (hd : ∀ (i : Nat) (o : Oper), ops[i]? = some o → ∀ c, o.op ≠ .defer c) (hout : ¬ LetsOut Q) {i : Nat} {K : Act → World → Prop} {a : Act} {w : World} (h : wpOp P ops Q i K a w) : wpOpIn (Fence.wide.inRound l) 0 P ops Q i K a w := by
  unfold wpOp at h
  unfold wpOpIn
  cases hi : ops[i]? with
  | none => simpa only [hi] using h
  | some o =>
    simp only [hi] at h ⊢
    by_cases hw : Region.wanted o (yielded ops a.tmps) = true
    · rw [if_pos hw] at h ⊢
      rcases h with h | h
      · refine ⟨fun _ _ => trivial, ?_⟩
        unfold Oper.wp at h
        rw [Oper.semAt_eq _ _ _ (hd i o hi)]
        generalize (execOp a.eval o).run P w = r at h ⊢
        cases r with
        | ok x w' =>
          cases x with
          | value v => exact h
          | skip => exact h
          | defer d => exact h
          | enter f args => exact ⟨fun h => by simp [Fence.wide] at h, callsIn_wide.2 h⟩
          | row row args => exact ⟨fun h => by simp [Fence.wide] at h, fun cc cs _ => by obtain ⟨v, w2, hR, hs⟩ := h cc cs; exact ⟨v, w2, hR, stepsIn_wide.2 hs⟩⟩
          | _ => exact (h : False).elim
        | halt x w' => cases x <;> exact h
      · exact absurd h.2 hout
    · rw [if_neg hw] at h ⊢
      exact ⟨fun _ _ => trivial, h⟩
theorem wpAnyIn_round (hd : ∀ (i : Nat) (o : Oper), ops[i]? = some o → ∀ c, o.op ≠ .defer c) (hout : ¬ LetsOut Q) {md : Region.Mode} : ∀ (fuel : Nat) (listed : Array Bool) (a : Act) (w : World), wpAny P md ops Q fuel listed a w → wpAnyIn (Fence.wide.inRound l) 0 P md ops Q fuel listed a w
  | 0, _, _, _, h => h
  | fuel + 1, _, _, _, h => ⟨h.1, fun i hi => wpOpIn_mono (fun a w h => wpAnyIn_round hd hout fuel _ a w h) (wpOpIn_round hd hout (h.2 i hi))⟩
def noDefer (ops : Array Oper) : Bool := ops.all fun o => match o.op with | .defer _ => false | _ => true
theorem noDefer_spec (h : noDefer ops = true) : ∀ (i : Nat) (o : Oper), ops[i]? = some o → ∀ c, o.op ≠ .defer c := by
  intro i o hi c hc
  obtain ⟨hlt, rfl⟩ := Array.getElem?_eq_some_iff.1 hi
  have := Array.all_eq_true.1 h i hlt
  rw [hc] at this
  cases this
/-- The printed words' 'start_', in a round of a range. -/
theorem start_in {S : World → Prop} {ds : List Nat} {id n : Nat} {a : Act} {w : World} (li : Array Bool) (hm : P.follows .mixedOrders = true) (hn : ops.size = n) (hl : Array.replicate n false = li) (hd : noDefer ops = true) (hout : ¬ LetsOut Q) (hS : S w.drew)
    (h : S w.drew → Go.Proofs.YtbbmdpmpbggmgaaW.PrintLast.wpAnyLast P .any ops (NoPanic Q) S ds n li a w.drew) : (Code.region id ops true).wpIn (Fence.wide.inRound l) 0 P Q a w := by
  subst hn
  subst hl
  exact wpIn_mono (wpIn_region_any hm (wpAnyIn_round (Q := NoPanic Q) (noDefer_spec hd) (fun ⟨a, w, h⟩ => hout ⟨a, w, h⟩) _ _ _ _ (Go.Proofs.YtbbmdpmpbggmgaaW.PrintLast.wpAny_of_last _ _ _ _ (h hS)))) NoPanic.imp
end
/-- Who is told what, from one to another. -/
def evT (a b : Int) : List Evt := if a = b then [] else (if a = 0 then [] else pairL 1 3 a b) ++ (if b = 0 then [] else pairL 0 2 b a)
def evR (t : List Nd) (a b : Int) : List Evt := if (mayT t && (isN t a && isN t b)) = true then evT a b else []
theorem infoEvt : (Try.prog.info? 37).map (fun i => (i.zero, i.size, i.bytes)) = some (some (.agg #[.int .i64 0, .int .i64 0, .int .i64 0, .bool false, .bool false, .bool false]), 6, 32) := by kernel_rfl
/-- How many last ones two chains share. -/
def stopT (a b : Int) : Nat := if a = b then (chT a).length else 1
theorem stopT_le (a b : Int) : stopT a b ≤ (chT a).length ∧ stopT a b ≤ (chT b).length := by
  unfold stopT chT
  split
  · subst_vars; exact ⟨Nat.le_refl _, Nat.le_refl _⟩
  · constructor <;> split <;> simp
theorem trim_at (a b : Int) : ∀ d, d ≤ stopT a b →
    (d < stopT a b ∧ ∃ (h1 : (chT a).length - d - 1 < (chT a).length) (h2 : (chT b).length - d - 1 < (chT b).length), 0 < (chT a).length - d ∧ 0 < (chT b).length - d ∧ (chT a)[(chT a).length - d - 1] = (chT b)[(chT b).length - d - 1]) ∨
    (d = stopT a b ∧ ((chT a).length - d = 0 ∨ (0 < (chT a).length - d ∧ (chT b).length - d = 0) ∨
      ∃ (h1 : (chT a).length - d - 1 < (chT a).length) (h2 : (chT b).length - d - 1 < (chT b).length), 0 < (chT a).length - d ∧ 0 < (chT b).length - d ∧ (chT a)[(chT a).length - d - 1] ≠ (chT b)[(chT b).length - d - 1])) := by
  intro d hd
  unfold stopT at hd ⊢
  by_cases hab : a = b
  · subst hab
    simp only [if_true] at hd ⊢
    rcases Nat.lt_or_ge d (chT a).length with h | h
    · exact .inl ⟨h, by omega, by omega, by omega, by omega, by first | rfl | trivial⟩
    · exact .inr ⟨by omega, .inl (by omega)⟩
  · simp only [if_neg hab] at hd ⊢
    rcases (show d = 0 ∨ d = 1 by omega) with rfl | rfl
    · refine .inl ⟨by omega, ?_⟩
      unfold chT
      by_cases ha : a = 0 <;> by_cases hb : b = 0 <;> simp [ha, hb]
    · refine .inr ⟨rfl, ?_⟩
      unfold chT
      by_cases ha : a = 0 <;> by_cases hb : b = 0 <;> simp [ha, hb] <;> omega
/-- What is held between two rounds: B the cell of the list's variable, w0 where it was laid. -/
structure EvO (B : Nat) (w0 : World) (ls : List Evt) (O : Nat → Prop) (W : World) : Prop where mk ::
  ob : O B
  new : ∀ b, O b → B ≤ b
  kp : Kpt (· = B) w0 W
  own : ∃ v, Boxed W B 26 v ∧ Own evK 37 (fun b => O b ∧ b ≠ B) W v ls
theorem EvO.step {B : Nat} {w0 W w5 w6 : World} {ls ys : List Evt} {O : Nat → Prop} {v v1 : Value} (h0 : w0.heap.size = B + 1) (h1 : O B) (h2 : ∀ b, O b → B ≤ b) (h3 : Kpt (· = B) w0 W) (h4 : Boxed W B 26 v)
    (h5 : Own evK 37 (fun b => O b ∧ b ≠ B) W v ls) (hb5 : Stp W w5) (hg : w5.grownBy w6 v.ownBlock) (ho : Own evK 37 (fun b => b ≠ B ∧ (O b ∨ W.heap.size ≤ b)) w6 v1 (ls ++ ys)) :
    (∀ b, (O b ∨ (W.heap.size ≤ b ∧ b < w6.heap.size)) → O b ∨ W.heap.size ≤ b) ∧ Kpt O W (w6.setCell ⟨B, 0, none⟩ v1) ∧ EvO B w0 (ls ++ ys) (fun b => O b ∨ (W.heap.size ≤ b ∧ b < w6.heap.size)) (w6.setCell ⟨B, 0, none⟩ v1) := by
  have hBW := h4.lt
  have hnB : v.ownBlock ≠ some B := fun e => (h5.blk B e).2 rfl
  have hb6 : Boxed w6 B 26 v := Boxed.grown (Boxed.stp h4 hb5) hg hnB
  have hkp : Kpt O W (w6.setCell ⟨B, 0, none⟩ v1) := kpt_store ((Kpt.of_stp (O := O) hb5).trans (Kpt.of_grown (O := O) hg fun k e => (h5.blk k e).1) fun x hx => .inl hx) h1
  refine ⟨fun b hb => hb.imp id And.left, hkp, .inl h1, fun b hb => hb.elim (h2 b) (fun h => by omega), ?_, _, Boxed.set _ hb6, ?_⟩
  · refine h3.trans hkp fun b hb => ?_
    have := h2 b hb
    rcases Nat.lt_or_ge B b with h | h
    · exact .inr (by omega)
    · exact .inl (by omega)
  · have ho2 := ho.mono (S' := fun b => (O b ∨ (W.heap.size ≤ b ∧ b < w6.heap.size)) ∧ b ≠ B) fun k hk hl => ⟨hk.2.imp id (fun h => ⟨h, hl⟩), hk.1⟩
    exact ho2.move fun k hk _ => Below.heap_setCell w6 ⟨B, 0, none⟩ _ k hk.2
theorem EvO.mono {B : Nat} {w0 W : World} {ls : List Evt} {O O' : Nat → Prop} (h : EvO B w0 ls O W) (h1 : ∀ b, O b → O' b) (h2 : ∀ b, O' b → B ≤ b) : EvO B w0 ls O' W := by
  obtain ⟨g1, g2, g3, v, g4, g5⟩ := h
  exact ⟨h1 _ g1, h2, g3, v, g4, g5.mono fun k hk _ => ⟨h1 _ hk.1, hk.2⟩⟩
theorem flat_len (f : Int → List Evt) (hf : ∀ x, (f x).length = 2) (l : List Int) : (l.flatMap f).length = 2 * l.length := by
  induction l with
  | nil => rfl
  | cons x l ih => rw [List.flatMap_cons, List.length_append, hf, ih, List.length_cons]; omega
theorem ev_flat (a b : Int) : ((chT a).take ((chT a).length - stopT a b)).flatMap (fun x => pairL 1 3 x b) ++ (backs ((chT b).take ((chT b).length - stopT a b))).flatMap (fun y => pairL 0 2 y.2 a) = evT a b := by
  unfold evT stopT chT backs
  by_cases hab : a = b
  · subst hab; simp
  · by_cases ha : a = 0 <;> by_cases hb : b = 0 <;> simp_all
def lenV : Value → Nat
  | .slice _ n _ => n
  | _ => 0
set_option maxRecDepth 100000 in
set_option maxHeartbeats 2000000 in
theorem events_r {S : Nat → Prop} {w : World} {v : Value} {t : List Nd} (hr : Row nodeK S w v t) (hks : KidsOk t) (a b : Int) :
    Calls Try.prog 10 #[v, .int .i64 a, .int .i64 b] w fun e w' => ∃ u, e = .returned u ∧ Own evK 37 (fun b => w.heap.size ≤ b) w' u (evR t a b) ∧ Stp w w' := by
  obtain ⟨A, c, rfl, hc, hm⟩ := hr.form
  have ci := fun W (hW : Stp w W) => cis_r (hr.stp hW) hks a b
  by_cases ho : (mayT t && (isN t a && isN t b)) = true
  · have HR := Lib.hid (show evR t a b = evT a b from if_pos ho)
    rw [ho] at ci
    simp only [Bool.and_eq_true] at ho
    have ca := fun W (hW : Stp w W) => chain_r (hr.stp hW) hks a
    have cb := fun W (hW : Stp w W) => chain_r (hr.stp hW) hks b
    rw [show chR t a = chT a from if_pos ⟨ho.1, ho.2.1⟩] at ca
    rw [show chR t b = chT b from if_pos ⟨ho.1, ho.2.2⟩] at cb
    clear ho
    refine (callsIn_wide (n := 0)).1 (callsIn_of_wp_marks Try.func10 rfl trivial (wpIn_wide.2 ?_) rfl); simp only [Try.ntmps10, List.size_toArray, List.length_cons, List.length_nil, Nat.reduceAdd, Nat.reduceSub, Array.replicate_succ, Array.replicate_zero, List.push_toArray, List.append_toArray, List.nil_append, List.cons_append]
    go_wp2_with (first | (go_at_call 22; refine (ci _ Lime.stp_).mono ?_; rintro e w1 ⟨rfl, hb1⟩; have x4 := hb1.cell (box_at w _ _ 0 _ rfl)) | (go_at_call 13; refine (ca _ Lime.stp_).mono ?_; clear ca; rintro e w2 ⟨u1, rfl, r1, hb2⟩; replace x4 := hb2.cell x4; obtain ⟨A1, c1, rfl, hc1, hm1⟩ := r1.form) | (go_at_call 13; refine (cb _ Lime.stp_).mono ?_; rintro e w3 ⟨u2, rfl, r2, hb3⟩; replace x4 := hb3.cell x4; obtain ⟨A2, c2, rfl, hc2, hm2⟩ := r2.form))
    rename_i Kx ax
    have HA := Lib.hid ax
    clear ax
    have hla : 0 < (chT a).length ∧ (chT a).length ≤ 2 := by unfold chT; split <;> simp
    have hlb : 0 < (chT b).length ∧ (chT b).length ≤ 2 := by unfold chT; split <;> simp
    have hstop := trim_at a b
    have hK : ∀ (wr : World) (u9 u10 u11 u12 u13 u14 u15 u16 u17 u18 u19 u20 u21 u22 u23 u24 u25 u26 u27 u28 u29 u30 u31 u32 u33 u34 u35 u36 u37 u38 u39 u40 u41 u42 u43 u44 u45 u46 u47 u48 u49 u50 u51 u52 u53 u54 u55 u56 u57 : Value), Stp w3 wr →
        Kx { tmps := #[.slice A t.length c, .int .i64 a, .int .i64 b, undef, .pointer (some ⟨w.heap.size, 0, none⟩), undef, .slice none 0 0, .slice A1 ((chT a).length - stopT a b) c1, .slice A2 ((chT b).length - stopT a b) c2, u9, u10, u11, u12, u13, u14, u15, u16, u17, u18, u19, u20, u21, u22, u23, u24, u25, u26, u27, u28, u29, u30, u31, u32, u33, u34, u35, u36, u37, u38, u39, u40, u41, u42, u43, u44, u45, u46, u47, u48, u49, u50, u51, u52, u53, u54, u55, u56, u57, undef, undef, undef, undef, undef, undef, undef, undef, undef, undef, undef, undef, undef, undef, undef, undef, undef, undef, undef, undef, undef, undef, undef, undef], defers := [] } wr := by
      intro wr u9 u10 u11 u12 u13 u14 u15 u16 u17 u18 u19 u20 u21 u22 u23 u24 u25 u26 u27 u28 u29 u30 u31 u32 u33 u34 u35 u36 u37 u38 u39 u40 u41 u42 u43 u44 u45 u46 u47 u48 u49 u50 u51 u52 u53 u54 u55 u56 u57 hst
      refine HA.out _ _ ?_
      have hs3 : Stp w wr := ((((Stp.refl w).alloc _).trans hb1).trans (hb2.trans (hb3.trans hst)))
      obtain ⟨n1, hn1⟩ : ∃ n, (chT a).length - stopT a b = n := ⟨_, rfl⟩
      obtain ⟨n2, hn2⟩ : ∃ n, (chT b).length - stopT a b = n := ⟨_, rfl⟩
      have hp1 := (r1.stp (hb3.trans hst)).bound.take n1 (by omega)
      have hp2 := (r2.stp hst).bound.take n2 (by omega)
      have HF := Lib.hid (ev_flat a b)
      have x4' := hst.cell x4
      rw [hn1, hn2] at HF ⊢
      have hl1 : ((chT a).take n1).length = n1 := by rw [List.length_take]; omega
      have hl2 : ((chT b).take n2).length = n2 := by rw [List.length_take]; omega
      have hn12 : n1 ≤ 2 := by omega
      have hn22 : n2 ≤ 2 := by omega
      generalize (chT a).take n1 = p at hp1 HF hl1
      generalize (chT b).take n2 = q at hp2 HF hl2
      subst hl1 hl2
      clear hn1 hn2 HA hstop cb ci r1 r2 x4 hc1 hm1 hc2 hm2 hla hlb
      go_wp2
      obtain ⟨w4, hw4⟩ : ∃ w4, wr.alloc (.cells #[.slice none 0 0] 26) = w4 := ⟨_, rfl⟩
      have hb4 : Boxed w4 wr.heap.size 26 (.slice none 0 0) := by rw [← hw4]; exact Boxed.new _ _ _
      have hs4 : Stp wr w4 := by rw [← hw4]; exact (Stp.refl wr).alloc _
      have hz4 : w4.heap.size = wr.heap.size + 1 := by rw [← hw4]; simp
      rw [hw4]
      clear hw4
      obtain ⟨B, hB⟩ : ∃ B, wr.heap.size = B := ⟨_, rfl⟩
      rw [hB] at hb4 hz4 ⊢
      have E0 := Lib.hid (show EvO B w4 [] (fun b => B ≤ b) w4 from ⟨Nat.le_refl _, fun b hb => hb, Kpt.refl _ _, _, hb4, Own.nil _ _ _ _⟩)
      go_loopw [60] (fun s60 W => ∃ k : Nat, s60 = .int .i64 k ∧ k ≤ p.length ∧ Aside (EvO B w4 ((p.take k).flatMap (fun x => pairL 1 3 x b)) (fun b => B ≤ b) W)) (fun s60 _ => p.length - (intOf s60).toNat)
      case atStart => exact ⟨0, rfl, Nat.zero_le _, E0⟩
      case round =>
        obtain ⟨k, rfl, hk, HE⟩ := hrel
        obtain ⟨g1, g2, g3, v, g4, g5⟩ := HE.out
        by_cases hlt : k < p.length
        · have hltz : (k : Int) < (p.length : Int) := by omega
          have hxk := Lib.hid (List.take_succ_eq_append_getElem hlt)
          obtain ⟨b1, o1, rfl, _, _, y0⟩ := int_at ((hp1.stp hs4).kpt g3 fun x hx _ h => by have := hx.2; have := hst.size; omega) k hlt
          generalize p[k] = x at y0 hxk
          have hcB := Boxed.cell g4
          have hfB := Boxed.frozen g4
          obtain ⟨Av, cv, rfl, _⟩ := g5.reads.form
          have hnB : (Value.slice Av ((p.take k).flatMap (fun x => pairL 1 3 x b)).length cv).ownBlock ≠ some B := fun e => (g5.blk B e).2 rfl
          have hBW := g4.lt
          have hll := Lib.hid (show (((p.take k).flatMap (fun x => pairL 1 3 x b)).length + 2) * 32 ≤ 140737488355328 by rw [flat_len _ (fun _ => rfl), List.length_take]; omega)
          generalize hls : (p.take k).flatMap (fun x => pairL 1 3 x b) = ls at g5 g4 hcB hnB hll
          have HLS := Lib.hid hls
          clear hls HE
          go_wp2_with fail
          refine wp_region_noPanic ?_
          refine Go.Proofs.YtbbmdpmpbggmgaaW.PrintLast.start_ (n := 7) (S := fun W_ => Stp wr W_) (ds := [5, 6]) #[false, false, false, false, false, false, false] (by kernel_rfl) rfl (by kernel_rfl) (Stp.refl _).drew (fun hS => ?_)
          refine Go.Proofs.YtbbmdpmpbggmgaaW.PrintLast.pure_ (i := 1) (v := ?_) (a' := ?_) #[false, true, false, false, false, false, false] Lime.getop_ rfl (by kernel_rfl) (fun _ _ _ h => h) (Or.inl ⟨by rfl, ?_⟩) ?_ ?_
          rotate_left
          focus (intro w_; (exact Lime.calm_))
          rotate_left
          focus (simp only [Act.put, List.setIfInBounds_toArray, List.set_cons_zero, List.set_cons_succ]; first | done | rfl)
          refine Go.Proofs.YtbbmdpmpbggmgaaW.PrintLast.pure_ (i := 2) (v := ?_) (a' := ?_) #[false, true, true, false, false, false, false] Lime.getop_ rfl (by kernel_rfl) (fun _ _ _ h => h) (Or.inl ⟨by rfl, ?_⟩) ?_ ?_
          rotate_left
          focus (intro w_; (exact Lime.calm_))
          rotate_left
          focus (simp only [Act.put, List.setIfInBounds_toArray, List.set_cons_zero, List.set_cons_succ]; first | done | rfl)
          refine Go.Proofs.YtbbmdpmpbggmgaaW.PrintLast.pure_ (i := 3) (v := ?_) (a' := ?_) #[false, true, true, true, false, false, false] Lime.getop_ rfl (by kernel_rfl) (fun _ _ _ h => h) (Or.inl ⟨by rfl, ?_⟩) ?_ ?_
          rotate_left
          focus (intro w_; (exact Lime.calm_))
          rotate_left
          focus (simp only [Act.put, List.setIfInBounds_toArray, List.set_cons_zero, List.set_cons_succ]; first | done | rfl)
          refine Go.Proofs.YtbbmdpmpbggmgaaW.PrintLast.take_ (i := 0) (v := ?_) (a' := ?_) #[true, true, true, true, false, false, false] Lime.getop_ rfl (by kernel_rfl) (fun _ _ _ h => h) (Or.inl ⟨by rfl, ?_⟩) hS ?_ ?_
          rotate_left
          focus (intro w_ hw_; have q0_ := hw_.cell hcB; (exact Lime.calm_))
          rotate_left
          focus (simp only [Act.put, List.setIfInBounds_toArray, List.set_cons_zero, List.set_cons_succ]; first | done | rfl)
          refine Go.Proofs.YtbbmdpmpbggmgaaW.PrintLast.one_ (i := 4) #[true, true, true, true, true, false, false] Lime.getop_ rfl (by kernel_rfl) (by decide) (fun K hK => ?_)
          rw [if_pos (by rfl)]; go_simp; refine (pair_c _ 1 3 x b).mono ?_; rintro e w5 ⟨u5, rfl, r5, hb5⟩; obtain ⟨A5, c5, rfl, _⟩ := r5.form
          refine hK.out _ _ Lime.stp_ (fun hst => ?_); replace hS := hst
          clear hK K
          (try simp only [Act.put, List.setIfInBounds_toArray, List.set_cons_zero, List.set_cons_succ])
          refine Go.Proofs.YtbbmdpmpbggmgaaW.PrintLast.last_ (i := 5) #[true, true, true, true, true, true, false] Lime.getop_ rfl (by kernel_rfl) (by decide) (fun K hK => ?_)
          rw [if_pos (by rfl)]; refine oper_appendrow (d := evK) (S := fun b_ => b_ ≠ B ∧ (B ≤ b_ ∨ wr.heap.size ≤ b_)) (T' := fun _ => False) (.tmp 64) (.tmp 68) 26 37 (.agg #[.int .i64 0, .int .i64 0, .int .i64 0, .bool false, .bool false, .bool false]) 32 rfl Try.underlying26 infoEvt rfl (by decide) (by decide) _ ls _ (pairL 1 3 x b) rfl rfl r5 (fun _ _ h => h) (fun _ h => h.elim) ((g5.stp hS).mono fun k hk _ => ⟨hk.2, .inl hk.1⟩) (fun k hk => by have := hS.size; exact ⟨by omega, .inl (by omega)⟩) hll.out ?_; intro v1 w6 ho6 hg6
          refine hK.out _ _ ?_
          clear hK K
          (try simp only [Act.put, List.setIfInBounds_toArray, List.set_cons_zero, List.set_cons_succ])
          refine Go.Proofs.YtbbmdpmpbggmgaaW.PrintLast.last_ (i := 6) #[true, true, true, true, true, true, true] Lime.getop_ rfl (by kernel_rfl) (by decide) (fun K hK => ?_)
          rw [if_pos (by rfl)]; obtain ⟨A6, c6, rfl, _⟩ := ho6.reads.form; have hb6 := Boxed.grown (Boxed.stp g4 hS) hg6 hnB; have h6c := Boxed.cell hb6; have h6f := Boxed.frozen hb6; go_simp
          refine hK.out _ _ ?_
          clear hK K
          (try simp only [Act.put, List.setIfInBounds_toArray, List.set_cons_zero, List.set_cons_succ])
          refine Go.Proofs.YtbbmdpmpbggmgaaW.PrintLast.done_ (by kernel_rfl) (noPanic_n ?_)
          go_wp2
          go_roundw
          case rel =>
            refine ⟨k + 1, by go_num, by omega, ?_⟩
            have hE := (EvO.step hz4 g1 g2 g3 g4 g5 hS hg6 ho6).2.2.mono (O' := fun b => B ≤ b) (fun b hb => hb.elim id (fun h => by omega)) (fun b hb => hb)
            rw [hxk.out, List.flatMap_append, HLS.out, List.flatMap_singleton]
            have hE2 := hE
            rw [List.length_append] at hE2
            exact hE2
          case measure => simp [intOf]; omega
        · have hltz : ¬ (k : Int) < (p.length : Int) := by omega
          obtain rfl : k = p.length := by omega
          rw [List.take_of_length_le (Nat.le_refl _)] at g5
          obtain ⟨Av, cv, rfl, _⟩ := g5.reads.form
          have hcB := Boxed.cell g4
          have hfB := Boxed.frozen g4
          have x4w := (hs4.cell x4')
          go_wp2_with (go_at_call 24; refine (back_c _ _ _ _).mono ?_; rintro e w7 ⟨rfl, rfl⟩)
          obtain ⟨w7, hw7⟩ : ∃ w7, wr.alloc (.cells #[.slice A2 q.length c2] 30) = w7 := ⟨_, rfl⟩
          have hs7 : Stp wr w7 := by rw [← hw7]; exact (Stp.refl wr).alloc _
          have hz7 : w7.heap.size = wr.heap.size + 1 := by rw [← hw7]; simp
          have hc7 : w7.cell? ⟨wr.heap.size, 0, none⟩ = some (.slice A2 q.length c2) := by rw [← hw7]; exact box_at wr _ 30 0 _ rfl
          rw [hw7]
          clear hw7
          have hBr := g4.lt
          have hk7 : Kpt (· = B) w4 w7 := g3.trans (Kpt.of_stp (O := fun b => b = B) hs7) fun x hx => .inl hx
          have hp7 := (hp2.stp hs4).kpt hk7 fun x hx _ h => by have := hx.2; have := hst.size; omega
          have hit := back1_it hp7 hc7
          have E7 : EvO B w4 (p.flatMap (fun x => pairL 1 3 x b)) (fun b => B ≤ b ∧ b < wr.heap.size) w7 := ⟨⟨Nat.le_refl _, hBr⟩, fun b hb => hb.1, hk7, _, Boxed.stp g4 hs7, (g5.mono (S' := fun b_ => (B ≤ b_ ∧ b_ < wr.heap.size) ∧ b_ ≠ B) fun k hk hl => ⟨⟨hk.1, hl⟩, hk.2⟩).stp hs7⟩
          have hwB : w.heap.size < B := by have := World.block_lt_of_cell? _ _ x4'; rw [hB] at this; exact this
          refine wp_range (gf := 34) (lb := #[.pointer (some ⟨wr.heap.size, 0, none⟩)]) rfl (fun args w => rfl) hit (fun _ => rfl) (fun b hb => hb.elim) (fun b => B ≤ b ∧ b < wr.heap.size) (fun b hb => ⟨by omega, fun h => h, fun h => h.elim (fun h => by omega) (fun h => by omega)⟩) (fun k O W => EvO B w4 (p.flatMap (fun x => pairL 1 3 x b) ++ ((backs q).take k).flatMap (fun y => pairL 0 2 y.2 a)) O W) (fun _ _ _ _ => False) ?habide (fun _ _ _ _ _ h _ => h) (by simpa using E7) ?a1 ?hassign ?hbody ?hdone ?hstop
          case hassign =>
            intro l x W K hK
            gi_wp2
            exact hK
          case habide =>
            intro k O A W h hk
            obtain ⟨h1, h2, h3, v, h4, h5⟩ := h
            exact ⟨h1, h2, h3.trans hk (fun x hx => .inr (by have := hx.2.resolve_left id; omega)), v, Boxed.keep h4 hk (fun h => h.1 h1), h5.kpt hk (fun x hx _ h => h.1 hx.1)⟩
          case hbody =>
            intro l k hk O W hI
            obtain ⟨h1, h2, h3, v, h4, h5⟩ := hI
            have hxk := Lib.hid (List.take_succ_eq_append_getElem hk)
            have x4W := h3.cell (p := ⟨w.heap.size, 0, none⟩) (fun h => by have : w.heap.size = B := h; omega) x4w
            generalize (backs q)[k] = y at hxk ⊢
            obtain ⟨Av', cv', rfl, _⟩ := h5.reads.form
            have hcB' := Boxed.cell h4
            have hfB' := Boxed.frozen h4
            have hnB' : (Value.slice Av' (p.flatMap (fun x => pairL 1 3 x b) ++ ((backs q).take k).flatMap (fun y => pairL 0 2 y.2 a)).length cv').ownBlock ≠ some B := fun e => (h5.blk B e).2 rfl
            have hll' := Lib.hid (show ((p.flatMap (fun x => pairL 1 3 x b) ++ ((backs q).take k).flatMap (fun y => pairL 0 2 y.2 a)).length + 2) * 32 ≤ 140737488355328 by
              rw [List.length_append, flat_len _ (fun _ => rfl)]
              have : (((backs q).take k).flatMap (fun y => pairL 0 2 y.2 a)).length = 2 * ((backs q).take k).length := by
                generalize (backs q).take k = zs
                induction zs with
                | nil => rfl
                | cons z zs ih => rw [List.flatMap_cons, List.length_append, ih, List.length_cons]; show 2 + _ = _; omega
              rw [this, List.length_take, backs_length]; omega)
            have HLS' := Lib.hid (show (p.flatMap (fun x => pairL 1 3 x b) ++ ((backs q).take (k + 1)).flatMap (fun y => pairL 0 2 y.2 a)) = (p.flatMap (fun x => pairL 1 3 x b) ++ ((backs q).take k).flatMap (fun y => pairL 0 2 y.2 a)) ++ pairL 0 2 y.2 a by rw [hxk.out, List.flatMap_append, List.flatMap_singleton, List.append_assoc])
            generalize (p.flatMap (fun x => pairL 1 3 x b) ++ ((backs q).take k).flatMap (fun y => pairL 0 2 y.2 a)) = ls at h5 h4 hcB' hnB' hll' HLS'
            refine wpIn_block ?_
            refine start_in (n := 7) (S := fun W_ => Stp W W_) (ds := [5, 6]) #[false, false, false, false, false, false, false] (by kernel_rfl) rfl (by kernel_rfl) (by kernel_rfl) (by rintro ⟨_, _, h⟩; exact h) (Stp.refl _).drew (fun hS => ?_)
            refine Go.Proofs.YtbbmdpmpbggmgaaW.PrintLast.pure_ (i := 1) (v := ?_) (a' := ?_) #[false, true, false, false, false, false, false] Lime.getop_ rfl (by kernel_rfl) (fun _ _ _ h => h) (Or.inl ⟨by rfl, ?_⟩) ?_ ?_
            rotate_left
            focus (intro w_; (exact Lime.calm_))
            rotate_left
            focus (simp only [Act.put, List.setIfInBounds_toArray, List.set_cons_zero, List.set_cons_succ]; first | done | rfl)
            refine Go.Proofs.YtbbmdpmpbggmgaaW.PrintLast.pure_ (i := 2) (v := ?_) (a' := ?_) #[false, true, true, false, false, false, false] Lime.getop_ rfl (by kernel_rfl) (fun _ _ _ h => h) (Or.inl ⟨by rfl, ?_⟩) ?_ ?_
            rotate_left
            focus (intro w_; (exact Lime.calm_))
            rotate_left
            focus (simp only [Act.put, List.setIfInBounds_toArray, List.set_cons_zero, List.set_cons_succ]; first | done | rfl)
            refine Go.Proofs.YtbbmdpmpbggmgaaW.PrintLast.take_ (i := 0) (v := ?_) (a' := ?_) #[true, true, true, false, false, false, false] Lime.getop_ rfl (by kernel_rfl) (fun _ _ _ h => h) (Or.inl ⟨by rfl, ?_⟩) hS ?_ ?_
            rotate_left
            focus (intro w_ hw_; have q0_ := hw_.cell hcB'; have q1_ := hw_.cell x4W; (exact Lime.calm_))
            rotate_left
            focus (simp only [Act.put, List.setIfInBounds_toArray, List.set_cons_zero, List.set_cons_succ]; first | done | rfl)
            refine Go.Proofs.YtbbmdpmpbggmgaaW.PrintLast.take_ (i := 3) (v := ?_) (a' := ?_) #[true, true, true, true, false, false, false] Lime.getop_ rfl (by kernel_rfl) (fun _ _ _ h => h) (Or.inl ⟨by rfl, ?_⟩) hS ?_ ?_
            rotate_left
            focus (intro w_ hw_; have q0_ := hw_.cell hcB'; have q1_ := hw_.cell x4W; (exact Lime.calm_))
            rotate_left
            focus (simp only [Act.put, List.setIfInBounds_toArray, List.set_cons_zero, List.set_cons_succ]; first | done | rfl)
            refine Go.Proofs.YtbbmdpmpbggmgaaW.PrintLast.one_ (i := 4) #[true, true, true, true, true, false, false] Lime.getop_ rfl (by kernel_rfl) (by decide) (fun K hK => ?_)
            rw [if_pos (by rfl)]; go_simp; refine (pair_c _ 0 2 y.2 a).mono ?_; rintro e w8 ⟨u8, rfl, r8, hb8⟩; obtain ⟨A8, c8, rfl, _⟩ := r8.form
            refine hK.out _ _ Lime.stp_ (fun hst => ?_); replace hS := hst
            clear hK K
            (try simp only [Act.put, List.setIfInBounds_toArray, List.set_cons_zero, List.set_cons_succ])
            refine Go.Proofs.YtbbmdpmpbggmgaaW.PrintLast.last_ (i := 5) #[true, true, true, true, true, true, false] Lime.getop_ rfl (by kernel_rfl) (by decide) (fun K hK => ?_)
            rw [if_pos (by rfl)]; refine oper_appendrow (d := evK) (S := fun b_ => b_ ≠ B ∧ (O b_ ∨ W.heap.size ≤ b_)) (T' := fun _ => False) (.tmp 75) (.tmp 79) 26 37 (.agg #[.int .i64 0, .int .i64 0, .int .i64 0, .bool false, .bool false, .bool false]) 32 rfl Try.underlying26 infoEvt rfl (by decide) (by decide) _ ls _ (pairL 0 2 y.2 a) rfl rfl r8 (fun _ _ h => h) (fun _ h => h.elim) ((h5.stp hS).mono fun k hk _ => ⟨hk.2, .inl hk.1⟩) (fun k hk => by have := hS.size; have := h4.lt; exact ⟨by omega, .inr (by omega)⟩) hll'.out ?_; intro v9 w9 ho9 hg9
            refine hK.out _ _ ?_
            clear hK K
            (try simp only [Act.put, List.setIfInBounds_toArray, List.set_cons_zero, List.set_cons_succ])
            refine Go.Proofs.YtbbmdpmpbggmgaaW.PrintLast.last_ (i := 6) #[true, true, true, true, true, true, true] Lime.getop_ rfl (by kernel_rfl) (by decide) (fun K hK => ?_)
            rw [if_pos (by rfl)]; obtain ⟨A9, c9, rfl, _⟩ := ho9.reads.form; have hb9 := Boxed.grown (Boxed.stp h4 hS) hg9 hnB'; have h9c := Boxed.cell hb9; have h9f := Boxed.frozen hb9; go_simp
            refine hK.out _ _ ?_
            clear hK K
            (try simp only [Act.put, List.setIfInBounds_toArray, List.set_cons_zero, List.set_cons_succ])
            refine Go.Proofs.YtbbmdpmpbggmgaaW.PrintLast.done_ (by kernel_rfl) (noPanic_n ?_)
            have hE := EvO.step hz4 h1 h2 h3 h4 h5 hS hg9 ho9
            rw [List.length_append] at hE
            refine ⟨_, hE.1, hE.2.1, ?_⟩
            show EvO B w4 (p.flatMap (fun x => pairL 1 3 x b) ++ ((backs q).take (k + 1)).flatMap (fun y => pairL 0 2 y.2 a)) _ _
            rw [HLS'.out]
            exact hE.2.2
          case hdone =>
            intro D O W hD hn hI hWD
            obtain ⟨h1, h2, h3, v, h4, h5⟩ := hI
            rw [List.take_of_length_le (Nat.le_refl _), HF.out] at h5
            have hcB' := Boxed.cell h4
            go_wp2
            refine leaves_mark hWD (results_tmp rfl _ _ _) ⟨v, rfl, ?_, ?_⟩
            · rw [HR.out]
              exact (h5.move fun k hk _ => World.putObj_heap_other (fun e => hn (by first | (rw [← e]; exact hk.1) | (rw [e]; exact hk.1)))).mono (S' := fun b => w.heap.size ≤ b) fun k hk _ => by have := h2 k hk.1; omega
            · exact (((Kpt.of_stp (O := fun _ => False) (hs3.trans hs4)).trans h3 fun x hx => .inr (by omega)).trans (Kpt.put (O := fun b => b = D) W _ rfl) fun x hx => .inr (by omega)).stp fun x h => h.elim
          case hstop =>
            intro D c k O W _ _ h
            exact h.elim
    obtain ⟨n1, hn1⟩ : ∃ n, (chT a).length - stopT a b = n := ⟨_, rfl⟩
    obtain ⟨n2, hn2⟩ : ∃ n, (chT b).length - stopT a b = n := ⟨_, rfl⟩
    rw [hn1, hn2] at hK
    have HK := Lib.hid hK
    clear hK
    go_loopw [7, 8] (fun s7 s8 wr => ∃ d : Nat, s7 = .slice A1 ((chT a).length - d) c1 ∧ s8 = .slice A2 ((chT b).length - d) c2 ∧ d ≤ stopT a b ∧ Stp w3 wr) (fun s7 _ _ => lenV s7)
    case atStart => exact ⟨0, by simp, by simp, Nat.zero_le _, Stp.refl _⟩
    case round =>
      obtain ⟨d, rfl, rfl, hd, hst⟩ := hrel
      rcases hstop d hd with ⟨hlt, h1, h2, p1, p2, he⟩ | ⟨rfl, h⟩
      · obtain ⟨m1, e1⟩ : ∃ m, (chT a).length - d = m + 1 := ⟨_, (Nat.succ_pred_eq_of_pos p1).symm⟩
        obtain ⟨m2, e2⟩ : ∃ m, (chT b).length - d = m + 1 := ⟨_, (Nat.succ_pred_eq_of_pos p2).symm⟩
        have q1 : (chT a).length - d - 1 = m1 := by omega
        have q2 : (chT b).length - d - 1 = m2 := by omega
        simp only [q1, q2] at he
        have hm1a : m1 < (chT a).length := by omega
        have hm2a : m2 < (chT b).length := by omega
        have f1 := Lib.hid (show (chT a).length - (d + 1) = m1 by omega)
        have f2 := Lib.hid (show (chT b).length - (d + 1) = m2 by omega)
        obtain ⟨b1, o1, rfl, _, _, x0⟩ := int_at (r1.stp (hb3.trans hst)) m1 hm1a
        obtain ⟨b2, o2, rfl, _, _, y0⟩ := int_at (r2.stp hst) m2 hm2a
        rw [← he] at y0
        generalize (chT a)[m1] = x at x0 y0
        rw [e1, e2]
        have z1 : (0 : Int) < (m1 : Int) + 1 := by omega
        have z2 : (0 : Int) < (m2 : Int) + 1 := by omega
        have y1 : m1 ≤ c1 := by omega
        have y2 : m2 ≤ c2 := by omega
        clear he q1 q2 e1 e2 p1 p2 h1 h2
        go_wp2_with fail
        refine wp_region_plan (Plan.calm 0 (Plan.calm 1 (Plan.calm 2 (Plan.calm 3 (Plan.calm 4 (Plan.calm 5 (Plan.calm 6 (Plan.calm 7 (Plan.calm 8 (Plan.calm 9 (Plan.calm 10 (Plan.calm 11 (Plan.calm 12 (Plan.calm 13 (Plan.calm 14 (Plan.calm 15 (Plan.calm 16 (Plan.calm 17 (Plan.calm 18 (Plan.calm 19 (Plan.calm 20 (Plan.calm 21 (Plan.calm 22 Plan.done))))))))))))))))))))))) (by kernel_rfl) (by kernel_rfl) (by kernel_rfl) ?_
        have hS : Stp wr wr.drew := (Stp.refl _).drew
        iterate 14 ((first | (refine plan_calm (v := ?_) Lime.getop_ (by rfl) (fun W hW => ?_) ?_; rotate_left; (focus (exact Lime.calm_))) | (refine plan_calm_skip Lime.getop_ (by rfl) ?_)); (try simp only [Act.put, List.setIfInBounds_toArray, List.set_cons_zero, List.set_cons_succ]))
        (first | (refine plan_calm (v := ?_) Lime.getop_ (by rfl) (fun W hW => ?_) ?_; rotate_left; (focus (have q0_ := (hS.trans hW).cell x0; have q1_ := (hS.trans hW).cell y0; clear hW; (exact Lime.calm_)))) | (refine plan_calm_skip Lime.getop_ (by rfl) ?_)); (try simp only [Act.put, List.setIfInBounds_toArray, List.set_cons_zero, List.set_cons_succ])
        iterate 5 ((first | (refine plan_calm (v := ?_) Lime.getop_ (by rfl) (fun W hW => ?_) ?_; rotate_left; (focus (exact Lime.calm_))) | (refine plan_calm_skip Lime.getop_ (by rfl) ?_)); (try simp only [Act.put, List.setIfInBounds_toArray, List.set_cons_zero, List.set_cons_succ]))
        (first | (refine plan_calm (v := ?_) Lime.getop_ (by rfl) (fun W hW => ?_) ?_; rotate_left; (focus (have q0_ := (hS.trans hW).cell x0; have q1_ := (hS.trans hW).cell y0; clear hW; (exact Lime.calm_)))) | (refine plan_calm_skip Lime.getop_ (by rfl) ?_)); (try simp only [Act.put, List.setIfInBounds_toArray, List.set_cons_zero, List.set_cons_succ])
        iterate 2 ((first | (refine plan_calm (v := ?_) Lime.getop_ (by rfl) (fun W hW => ?_) ?_; rotate_left; (focus (exact Lime.calm_))) | (refine plan_calm_skip Lime.getop_ (by rfl) ?_)); (try simp only [Act.put, List.setIfInBounds_toArray, List.set_cons_zero, List.set_cons_succ]))
        refine plan_done ?_
        go_wp2
        refine wp_region_plan (Plan.calm 0 (Plan.calm 1 (Plan.calm 2 (Plan.calm 3 (Plan.calm 4 (Plan.calm 5 (Plan.calm 6 (Plan.calm 7 (Plan.calm 8 (Plan.calm 9 (Plan.calm 10 (Plan.calm 11 Plan.done)))))))))))) (by kernel_rfl) (by kernel_rfl) (by kernel_rfl) ?_
        have hS : Stp wr.drew wr.drew.drew := (Stp.refl _).drew
        iterate 12 ((first | (refine plan_calm (v := ?_) Lime.getop_ (by rfl) (fun W hW => ?_) ?_; rotate_left; (focus (exact Lime.calm_))) | (refine plan_calm_skip Lime.getop_ (by rfl) ?_)); (try simp only [Act.put, List.setIfInBounds_toArray, List.set_cons_zero, List.set_cons_succ]))
        refine plan_done ?_
        go_wp2
        go_roundw
        case rel => exact ⟨d + 1, by rw [f1.out], by rw [f2.out], by omega, by (exact Lime.stp_)⟩
        case measure => simp [lenV]
      · rcases h with h0 | ⟨p1, h0⟩ | ⟨h1, h2, p1, p2, hne⟩
        · rw [hn1] at h0
          rw [hn1, hn2]
          subst h0
          go_wp2_with fail
          refine wp_region_plan (Plan.calm 0 (Plan.calm 1 (Plan.calm 2 (Plan.calm 3 (Plan.calm 4 (Plan.calm 5 (Plan.calm 6 (Plan.calm 7 (Plan.calm 8 (Plan.calm 9 (Plan.calm 10 (Plan.calm 11 (Plan.calm 12 (Plan.calm 13 (Plan.calm 14 (Plan.calm 15 (Plan.calm 16 (Plan.calm 17 (Plan.calm 18 (Plan.calm 19 (Plan.calm 20 (Plan.calm 21 (Plan.calm 22 Plan.done))))))))))))))))))))))) (by kernel_rfl) (by kernel_rfl) (by kernel_rfl) ?_
          have hS : Stp wr wr.drew := (Stp.refl _).drew
          iterate 14 ((first | (refine plan_calm (v := ?_) Lime.getop_ (by rfl) (fun W hW => ?_) ?_; rotate_left; (focus (exact Lime.calm_))) | (refine plan_calm_skip Lime.getop_ (by rfl) ?_)); (try simp only [Act.put, List.setIfInBounds_toArray, List.set_cons_zero, List.set_cons_succ]))
          (first | (refine plan_calm (v := ?_) Lime.getop_ (by rfl) (fun W hW => ?_) ?_; rotate_left; (focus (clear hW; (exact Lime.calm_)))) | (refine plan_calm_skip Lime.getop_ (by rfl) ?_)); (try simp only [Act.put, List.setIfInBounds_toArray, List.set_cons_zero, List.set_cons_succ])
          iterate 5 ((first | (refine plan_calm (v := ?_) Lime.getop_ (by rfl) (fun W hW => ?_) ?_; rotate_left; (focus (exact Lime.calm_))) | (refine plan_calm_skip Lime.getop_ (by rfl) ?_)); (try simp only [Act.put, List.setIfInBounds_toArray, List.set_cons_zero, List.set_cons_succ]))
          (first | (refine plan_calm (v := ?_) Lime.getop_ (by rfl) (fun W hW => ?_) ?_; rotate_left; (focus (clear hW; (exact Lime.calm_)))) | (refine plan_calm_skip Lime.getop_ (by rfl) ?_)); (try simp only [Act.put, List.setIfInBounds_toArray, List.set_cons_zero, List.set_cons_succ])
          iterate 2 ((first | (refine plan_calm (v := ?_) Lime.getop_ (by rfl) (fun W hW => ?_) ?_; rotate_left; (focus (exact Lime.calm_))) | (refine plan_calm_skip Lime.getop_ (by rfl) ?_)); (try simp only [Act.put, List.setIfInBounds_toArray, List.set_cons_zero, List.set_cons_succ]))
          refine plan_done ?_
          go_wp2
          exact HK.out _ _ _ _ _ _ _ _ _ _ _ _ _ _ _ _ _ _ _ _ _ _ _ _ _ _ _ _ _ _ _ _ _ _ _ _ _ _ _ _ _ _ _ _ _ _ _ _ _ _ Lime.stp_
        · rw [hn1] at p1
          rw [hn2] at h0
          rw [hn1, hn2]
          subst h0
          obtain ⟨m1, rfl⟩ : ∃ m, n1 = m + 1 := ⟨_, (Nat.succ_pred_eq_of_pos p1).symm⟩
          have z1 : (0 : Int) < (m1 : Int) + 1 := by omega
          go_wp2_with fail
          refine wp_region_plan (Plan.calm 0 (Plan.calm 1 (Plan.calm 2 (Plan.calm 3 (Plan.calm 4 (Plan.calm 5 (Plan.calm 6 (Plan.calm 7 (Plan.calm 8 (Plan.calm 9 (Plan.calm 10 (Plan.calm 11 (Plan.calm 12 (Plan.calm 13 (Plan.calm 14 (Plan.calm 15 (Plan.calm 16 (Plan.calm 17 (Plan.calm 18 (Plan.calm 19 (Plan.calm 20 (Plan.calm 21 (Plan.calm 22 Plan.done))))))))))))))))))))))) (by kernel_rfl) (by kernel_rfl) (by kernel_rfl) ?_
          have hS : Stp wr wr.drew := (Stp.refl _).drew
          iterate 14 ((first | (refine plan_calm (v := ?_) Lime.getop_ (by rfl) (fun W hW => ?_) ?_; rotate_left; (focus (exact Lime.calm_))) | (refine plan_calm_skip Lime.getop_ (by rfl) ?_)); (try simp only [Act.put, List.setIfInBounds_toArray, List.set_cons_zero, List.set_cons_succ]))
          (first | (refine plan_calm (v := ?_) Lime.getop_ (by rfl) (fun W hW => ?_) ?_; rotate_left; (focus (clear hW; (exact Lime.calm_)))) | (refine plan_calm_skip Lime.getop_ (by rfl) ?_)); (try simp only [Act.put, List.setIfInBounds_toArray, List.set_cons_zero, List.set_cons_succ])
          iterate 5 ((first | (refine plan_calm (v := ?_) Lime.getop_ (by rfl) (fun W hW => ?_) ?_; rotate_left; (focus (exact Lime.calm_))) | (refine plan_calm_skip Lime.getop_ (by rfl) ?_)); (try simp only [Act.put, List.setIfInBounds_toArray, List.set_cons_zero, List.set_cons_succ]))
          (first | (refine plan_calm (v := ?_) Lime.getop_ (by rfl) (fun W hW => ?_) ?_; rotate_left; (focus (clear hW; (exact Lime.calm_)))) | (refine plan_calm_skip Lime.getop_ (by rfl) ?_)); (try simp only [Act.put, List.setIfInBounds_toArray, List.set_cons_zero, List.set_cons_succ])
          iterate 2 ((first | (refine plan_calm (v := ?_) Lime.getop_ (by rfl) (fun W hW => ?_) ?_; rotate_left; (focus (exact Lime.calm_))) | (refine plan_calm_skip Lime.getop_ (by rfl) ?_)); (try simp only [Act.put, List.setIfInBounds_toArray, List.set_cons_zero, List.set_cons_succ]))
          refine plan_done ?_
          go_wp2
          exact HK.out _ _ _ _ _ _ _ _ _ _ _ _ _ _ _ _ _ _ _ _ _ _ _ _ _ _ _ _ _ _ _ _ _ _ _ _ _ _ _ _ _ _ _ _ _ _ _ _ _ _ Lime.stp_
        · obtain ⟨m1, e1⟩ : ∃ m, n1 = m + 1 := ⟨n1 - 1, by omega⟩
          obtain ⟨m2, e2⟩ : ∃ m, n2 = m + 1 := ⟨n2 - 1, by omega⟩
          have q1 : (chT a).length - stopT a b - 1 = m1 := by omega
          have q2 : (chT b).length - stopT a b - 1 = m2 := by omega
          simp only [q1, q2] at hne
          have hm1a : m1 < (chT a).length := by omega
          have hm2a : m2 < (chT b).length := by omega
          obtain ⟨b1, o1, rfl, _, _, x0⟩ := int_at (r1.stp (hb3.trans hst)) m1 hm1a
          obtain ⟨b2, o2, rfl, _, _, y0⟩ := int_at (r2.stp hst) m2 hm2a
          generalize (chT a)[m1] = x at x0 hne
          generalize (chT b)[m2] = y at y0 hne
          rw [hn1, hn2]
          subst e1 e2
          have z1 : (0 : Int) < (m1 : Int) + 1 := by omega
          have z2 : (0 : Int) < (m2 : Int) + 1 := by omega
          have hxy : (x == y) = false := by simpa using hne
          clear q1 q2 p1 p2 h1 h2
          go_wp2_with fail
          refine wp_region_plan (Plan.calm 0 (Plan.calm 1 (Plan.calm 2 (Plan.calm 3 (Plan.calm 4 (Plan.calm 5 (Plan.calm 6 (Plan.calm 7 (Plan.calm 8 (Plan.calm 9 (Plan.calm 10 (Plan.calm 11 (Plan.calm 12 (Plan.calm 13 (Plan.calm 14 (Plan.calm 15 (Plan.calm 16 (Plan.calm 17 (Plan.calm 18 (Plan.calm 19 (Plan.calm 20 (Plan.calm 21 (Plan.calm 22 Plan.done))))))))))))))))))))))) (by kernel_rfl) (by kernel_rfl) (by kernel_rfl) ?_
          have hS : Stp wr wr.drew := (Stp.refl _).drew
          iterate 14 ((first | (refine plan_calm (v := ?_) Lime.getop_ (by rfl) (fun W hW => ?_) ?_; rotate_left; (focus (exact Lime.calm_))) | (refine plan_calm_skip Lime.getop_ (by rfl) ?_)); (try simp only [Act.put, List.setIfInBounds_toArray, List.set_cons_zero, List.set_cons_succ]))
          (first | (refine plan_calm (v := ?_) Lime.getop_ (by rfl) (fun W hW => ?_) ?_; rotate_left; (focus (have q0_ := (hS.trans hW).cell x0; have q1_ := (hS.trans hW).cell y0; clear hW; (exact Lime.calm_)))) | (refine plan_calm_skip Lime.getop_ (by rfl) ?_)); (try simp only [Act.put, List.setIfInBounds_toArray, List.set_cons_zero, List.set_cons_succ])
          iterate 5 ((first | (refine plan_calm (v := ?_) Lime.getop_ (by rfl) (fun W hW => ?_) ?_; rotate_left; (focus (exact Lime.calm_))) | (refine plan_calm_skip Lime.getop_ (by rfl) ?_)); (try simp only [Act.put, List.setIfInBounds_toArray, List.set_cons_zero, List.set_cons_succ]))
          (first | (refine plan_calm (v := ?_) Lime.getop_ (by rfl) (fun W hW => ?_) ?_; rotate_left; (focus (have q0_ := (hS.trans hW).cell x0; have q1_ := (hS.trans hW).cell y0; clear hW; (exact Lime.calm_)))) | (refine plan_calm_skip Lime.getop_ (by rfl) ?_)); (try simp only [Act.put, List.setIfInBounds_toArray, List.set_cons_zero, List.set_cons_succ])
          iterate 2 ((first | (refine plan_calm (v := ?_) Lime.getop_ (by rfl) (fun W hW => ?_) ?_; rotate_left; (focus (exact Lime.calm_))) | (refine plan_calm_skip Lime.getop_ (by rfl) ?_)); (try simp only [Act.put, List.setIfInBounds_toArray, List.set_cons_zero, List.set_cons_succ]))
          refine plan_done ?_
          go_wp2
          exact HK.out _ _ _ _ _ _ _ _ _ _ _ _ _ _ _ _ _ _ _ _ _ _ _ _ _ _ _ _ _ _ _ _ _ _ _ _ _ _ _ _ _ _ _ _ _ _ _ _ _ _ Lime.stp_
  · have HR := Lib.hid (show evR t a b = [] from if_neg ho)
    rw [Bool.eq_false_iff.2 ho] at ci
    clear ho
    refine (callsIn_wide (n := 0)).1 (callsIn_of_wp_marks Try.func10 rfl trivial (wpIn_wide.2 ?_) rfl); simp only [Try.ntmps10, List.size_toArray, List.length_cons, List.length_nil, Nat.reduceAdd, Nat.reduceSub, Array.replicate_succ, Array.replicate_zero, List.push_toArray, List.append_toArray, List.nil_append, List.cons_append]
    go_wp2_with (go_at_call 22; refine (ci _ Lime.stp_).mono ?_; rintro e w1 ⟨rfl, hb1⟩)
    refine ⟨_, results_tmp rfl _ _ _, _, rfl, by rw [HR.out]; exact Own.nil _ _ _ _, by (exact Lime.stp_)⟩
end Go.Proofs.Lime
namespace Go.Proofs.Ytbbmdpmpbggmgaa.P
open Go.RowKit Go.Proofs.YtbbmdpmpbggmgaaW.PrintWords Go.Proofs.YtbbmdpmpbggmgaaW.PrintLast Go.Proofs.YtbbmdpmpbggmgaaW.PrintMore
set_option linter.unusedVariables false
set_option linter.unusedSimpArgs false

/-- A row of the call's own, in the print's words. -/
theorem R_of_own {α β : Type} {d : Kd α} {e : Lime.Kd β} (f : β → α) {S : Nat → Prop} {w : World} {base : Nat} {v : Value} {xs : List β} {t : Nat} (hz : e.sz = d.sz)
    (hK : ∀ T ok x cs, e.K T w x cs → d.M w base ok (f x) cs) (h : Lime.Own e t S w v xs) (hS : ∀ k, S k → base ≤ k) : Kd.R d t w base (fun _ => True) v (xs.map f) := by
  obtain ⟨hb, inner, ho, he⟩ := h
  rw [hz] at ho
  have hl : (xs.map f).length = xs.length := by simp
  have ho1 := ho.1
  refine ⟨fun _ _ => trivial, inner, ⟨by rw [hl]; exact ho1, ?_⟩, by rw [hl]; exact ho1, fun j p hj => ?_⟩
  · rw [hl]
    rcases ho.2 with h2 | ⟨g, cap, cur, rfl, _, r⟩
    · exact .inl h2
    · exact .inr ⟨g, cap, cur, rfl, hS g (hb g (by simp [Value.ownBlock])), r⟩
  · rw [List.getElem?_map] at hj
    obtain ⟨y, hy, rfl⟩ := Option.map_eq_some_iff.1 hj
    obtain ⟨hjl, rfl⟩ := List.getElem?_eq_some_iff.1 hy
    obtain ⟨cs, hk, hc⟩ := he j hjl
    have hcl := e.len hk
    have h1 : (inner.drop (j * d.sz)).take d.sz = cs := by
      apply List.ext_getElem?
      intro i
      rw [List.getElem?_take]
      split
      · rename_i hi
        rw [List.getElem?_drop, ← hz, hc i _ (List.getElem?_eq_getElem (by omega))]
        exact (List.getElem?_eq_getElem (by omega)).symm
      · rw [List.getElem?_eq_none (by omega)]
    rw [h1]
    exact hK _ _ _ _ hk
/-- A list of numbers that is only read, in the print's words. -/
theorem V_ints {S : Nat → Prop} {w : World} {base t : Nat} {v : Value} {xs : List Int} (h : Lime.Row Lime.intK S w v xs) : Kd.V (Kd.int .i64) t w base S v xs := by
  obtain ⟨A, c, rfl, h1, h2⟩ := h.form
  refine ⟨A, c, rfl, h1, fun W' hW' => ?_⟩
  have hrow : Lime.Row Lime.intK S W' (.slice A xs.length c) xs := ⟨⟨A, c, rfl, h1, h2⟩, fun j hj => by
    obtain ⟨b, o, c', cs, e, hS, hb, hk, hc⟩ := h.get j hj
    have hq := hW' b hS hb
    refine ⟨b, o, c', cs, e, hS, heap_lt hq hb, hk, fun i u hi => ?_⟩
    rw [World.cell?_of_block (w := w) (a := ⟨b, o + j * Lime.intK.sz + i, none⟩) hq]
    exact hc i u hi⟩
  exact (C_ints hrow).1
def ev2 (e : Lime.Evt) : S37 := ⟨e.type, e.target, e.related, e.bubbles, e.cancel, e.composed⟩
def chain_is.f (l0 : List S40) (a1 : Int) (a2 : Int) : Option Bool := ifSmall l0 (Lime.mayT (tr l0) && (Lime.isN (tr l0) a1 && Lime.isN (tr l0) a2))
theorem chain_is.calls (A0 : Option Addr) (c0 : Nat) (l0 : List S40) (a1 : Int) (a2 : Int) (r : Bool) (w : World) (hr0 : Kd.C k40 w A0 l0.length l0) (hc0 : l0.length ≤ c0) (h : chain_is.f l0 a1 a2 = some r) :
    Calls Try.prog 22 #[.slice A0 l0.length c0, .int .i64 a1, .int .i64 a2] w fun e w' => e = .returned (.bool r) ∧ Below w.heap.size w w' := by
  obtain ⟨hs, rfl⟩ := ifSmall_some h
  exact (Lime.cis_r (row_tree hr0 hc0) (kidsOk_small hs) a1 a2).mono fun e w' ⟨h1, h3⟩ => ⟨h1, h3.out⟩
theorem cis_f {l : List S40} (hs : Lime.smallT (tr l) = true) (a b : Int) : chain_is.f l a b = some (Lime.mayT (tr l) && (Lime.isN (tr l) a && Lime.isN (tr l) b)) := ifSmall_yes hs
def chain_Chain.f (l0 : List S40) (a1 : Int) : Option (List Int) := ifSmall l0 (Lime.chR (tr l0) a1)
theorem chain_Chain.calls (A0 : Option Addr) (c0 : Nat) (l0 : List S40) (a1 : Int) (r : List Int) (w : World) (hr0 : Kd.C k40 w A0 l0.length l0) (hc0 : l0.length ≤ c0) (h : chain_Chain.f l0 a1 = some r) :
    Calls Try.prog 13 #[.slice A0 l0.length c0, .int .i64 a1] w fun e w' => ∃ v0_ : Value, e = .returned (v0_) ∧ Kd.V (Kd.int .i64) 3 w' w.heap.size (fun k_ => w.heap.size ≤ k_) v0_ r ∧ Below w.heap.size w w' := by
  obtain ⟨hs, rfl⟩ := ifSmall_some h
  exact (Lime.chain_r (row_tree hr0 hc0) (kidsOk_small hs) a1).mono fun e w' ⟨u, h1, h2, h3⟩ => ⟨u, h1, V_ints h2, h3.out⟩
theorem Chain_f {l : List S40} (hs : Lime.smallT (tr l) = true) (n : Int) : chain_Chain.f l n = some (Lime.chR (tr l) n) := ifSmall_yes hs
def chain_Events.f (l0 : List S40) (a1 : Int) (a2 : Int) : Option (List S37) := ifSmall l0 ((Lime.evR (tr l0) a1 a2).map ev2)
theorem chain_Events.calls (A0 : Option Addr) (c0 : Nat) (l0 : List S40) (a1 : Int) (a2 : Int) (r : List S37) (w : World) (hr0 : Kd.C k40 w A0 l0.length l0) (hc0 : l0.length ≤ c0) (h : chain_Events.f l0 a1 a2 = some r) :
    Calls Try.prog 10 #[.slice A0 l0.length c0, .int .i64 a1, .int .i64 a2] w fun e w' => ∃ v0_ : Value, e = .returned (v0_) ∧ Kd.R k37 37 w' w.heap.size (fun _ => True) v0_ r ∧ Below w.heap.size w w' := by
  obtain ⟨hs, rfl⟩ := ifSmall_some h
  exact (Lime.events_r (row_tree hr0 hc0) (kidsOk_small hs) a1 a2).mono fun e w' ⟨u, h1, h2, h3⟩ => ⟨u, h1, R_of_own ev2 rfl (fun _ _ x cs h => by rw [show cs = _ from h]; exact k37_mkM _ _ _ (ev2 x)) h2 (fun _ hk => hk), h3.out⟩
theorem Events_f {l : List S40} (hs : Lime.smallT (tr l) = true) (a b : Int) : chain_Events.f l a b = some ((Lime.evR (tr l) a b).map ev2) := ifSmall_yes hs
end Go.Proofs.Ytbbmdpmpbggmgaa.P
