/- Walks: tree order: the iterators. Walks: tree order: lists, ways up, tops. Walk: tree order: who stands ahead of whom. -/
import Derived.Test.YtaggmjnpocndkaaGreatMP
import Derived.Test.YtaggmjnpocndkaaGreatMA
import Derived.Test.YtaggmjnpocndkaaGreatMC
namespace Go.Proofs.Lime
open Go.RowKit
set_option linter.unusedVariables false
set_option linter.unusedSimpArgs false
attribute [local go_sem] Oper.semAt_some

theorem oup_c (w : World) (A : Option Addr) (m c : Nat) (n : Int) : Calls Tryz.prog 84 #[.slice A m c, .int .i64 n] w fun e w' => e = .returned (.func (.func 100) #[] #[.pointer (some ⟨w.heap.size + 1, 0, none⟩), .pointer (some ⟨w.heap.size, 0, none⟩)]) ∧ w' = (w.alloc (.cells #[.slice A m c] 23)).alloc (.cells #[.int .i64 n] 3) := by
  go_enter Tryz.func84, Tryz.ntmps84
  go_wp2
  go_ret
  exact ⟨rfl, rfl⟩
theorem olist_c (w : World) (A : Option Addr) (m c : Nat) (n : Int) : Calls Tryz.prog 114 #[.slice A m c, .int .i64 n] w fun e w' => e = .returned (.func (.func 116) #[] #[.pointer (some ⟨w.heap.size, 0, none⟩), .pointer (some ⟨w.heap.size + 1, 0, none⟩)]) ∧ w' = (w.alloc (.cells #[.slice A m c] 23)).alloc (.cells #[.int .i64 n] 3) := by
  go_enter Tryz.func114, Tryz.ntmps114
  go_wp2
  go_ret
  exact ⟨rfl, rfl⟩

set_option maxRecDepth 100000 in
set_option maxHeartbeats 2000000 in
theorem oup1_it {S : Nat → Prop} {w : World} {v : Value} {t : List Nd} (hr : Row nodeK S w v t) (M : May t) {n : Nat} (hn : n < t.length) {BT BN : Nat}
    (h1 : w.cell? ⟨BT, 0, none⟩ = some v) (h2 : Boxed w BN 3 (.int .i64 n)) (hne : BT ≠ BN) (hS : ∀ b, S b → b ≠ BN) :
    Iter Tryz.prog 100 #[.pointer (some ⟨BN, 0, none⟩), .pointer (some ⟨BT, 0, none⟩)] (fun x : Int => #[.int .i64 x]) (· = BN) (fun b => S b ∨ b = BT) (upsP t n) w := by
  intro l J Jx O W hk hO hJ hJx hY h0
  have hOT : ¬ O BT := fun h => (hO BT h).2 (World.block_lt_of_cell? w _ h1) (.inr rfl)
  have hON : ¬ O BN := fun h => (hO BN h).1 rfl
  have hrW := hr.bound.kpt hk (fun x hx hl h => (hO x h).2 hx.2 (.inl hx.1))
  have hOS : ∀ x, S x ∧ x < w.heap.size → x < W.heap.size → ¬ (O x ∨ x = BN) := fun x hx hlt h => h.elim (fun h => (hO x h).2 hx.2 (.inl hx.1)) (hS x hx.1)
  have cT := hk.cell (p := ⟨BT, 0, none⟩) hOT h1
  have bN : Boxed W BN 3 (.int .i64 n) := (hk.block BN h2.lt hON).trans h2
  have hBW := bN.lt
  clear hr h1 h2
  obtain ⟨A, c, rfl, hc, hm⟩ := hrW.form
  obtain ⟨b, o, rfl, hSb, hb, hN⟩ := tree_base hrW (by omega)
  refine callsIn_of_wp Tryz.func100 rfl trivial ?_ rfl; simp only [Tryz.ntmps100, List.size_toArray, List.length_cons, List.length_nil, Nat.reduceAdd, Nat.reduceSub, Array.replicate_succ, Array.replicate_zero, List.push_toArray, List.append_toArray, List.nil_append, List.cons_append]
  have hxl := M.upsP_le (isN_of hn)
  have U0 := Lib.hid (show UpSt (fun m => isN t m = true) (parN t) (upsP t n) (t.length + 1) BN O J W 0 n O W from ⟨Nat.zero_le _, .inr (isN_of hn), rfl, Kpt.refl _ _, fun b hb => .inl hb, h0, bN⟩)
  generalize hxs : upsP t n = xs at hY U0 hxl
  have HX := Lib.hid hxs
  clear hxs h0 bN
  gi_wp2
  gi_loopw [] (fun wr => ∃ (k : Nat) (m : Int) (O' : Nat → Prop), Aside (UpSt (fun m => isN t m = true) (parN t) xs (t.length + 1) BN O J W k m O' wr)) (fun wr => (chainIn (parN t) (t.length + 1) (intOf ((wr.cell? ⟨BN, 0, none⟩).getD undef))).length)
  case atStart => exact ⟨0, n, O, U0⟩
  case round =>
    obtain ⟨k, m, O', U⟩ := hrel
    have cT' := U.out.kp.cell (p := ⟨BT, 0, none⟩) (fun h => h.elim hOT hne) cT
    have cN' := U.out.box.cell
    by_cases hm1 : m = -1
    · subst hm1
      gi_wp2
      refine ⟨fun _ h => (by cases h), ?_⟩
      gi_wp2
      refine bodyPost_end (results_none rfl _ _ _) rfl ?_
      exact ⟨⟨_, rfl⟩, O', .inl U.out.over⟩
    · have hkF : k < t.length + 1 := by have := U.out.le; omega
      obtain ⟨j, rfl, hj⟩ := isN_nat (U.out.cur.resolve_left hm1)
      obtain ⟨hkx, hxk, _⟩ := U.out.next hm1 hkF
      have hY1 := hY k hkx O' wr U.out.inv
      rw [hxk] at hY1
      obtain ⟨fn, tmps, assign, body, hy, hR⟩ := hY1
      have hne1 : ((j : Int) != -1) = true := by simp
      obtain ⟨Ak, ck, Aa, ca, N⟩ := (hN j hj)
      gi_wp2
      refine ⟨rfl, hR.mono ?_⟩
      rintro e W3 ⟨O3, h3, hk3, (⟨rfl, hj3⟩ | ⟨rfl, hj3⟩)⟩
      · have hk3' : Kpt (fun b => O b ∨ b = BN) W W3 := U.out.kp.trans hk3 fun x hx => (U.out.sub x hx).imp .inl id
        have cT3 := hk3'.cell (p := ⟨BT, 0, none⟩) (fun h => h.elim hOT hne) cT
        have hnN : ¬ O' BN := fun h => (U.out.sub BN h).elim hON (fun h => by omega)
        have bN3 := Boxed.keep U.out.box hk3 hnN
        have cN3 := Boxed.cell bN3
        have fN3 := Boxed.frozen bN3
        have x2 := hk3'.cell (p := ⟨b, o + j * 7 + 2, none⟩) (hOS b hSb hb) N.c2
        have hp : t[j].parent = parN t j := by rw [parN, nd_nat hj]
        have U3 := Lib.hid (U.out.go hON hBW hm1 hkF ((M.par (isN_of hj)).imp id And.left) h3 hk3 hj3 hJ).2
        have HM := Lib.hid (show (chainIn (parN t) (t.length + 1) (parN t j)).length < (chainIn (parN t) (t.length + 1) j).length by
          have := M.upsP_step (isN_of hj); unfold upsP at this; rw [this]; simp)
        rw [hp] at x2
        generalize parN t j = p at x2 U3 HM
        have hjz : (j : Int) < (t.length : Int) := by omega
        have HC := Lib.hid cN'
        clear bN3 N hY hy hp cN'
        gi_wp2
        go_roundw
        case rel => exact ⟨k + 1, p, O3, U3⟩
        case measure =>
          have h5 : (W3.setCell ⟨BN, 0, none⟩ (.int .i64 p)).cell? ⟨BN, 0, none⟩ = some (.int .i64 p) := Boxed.cell U3.out.box
          rw [h5, HC.out]
          exact HM.out
      · gi_wp2
        refine bodyPost_end (results_none rfl _ _ _) rfl ?_
        exact ⟨⟨_, rfl⟩, O3, .inr ⟨_, hj3⟩⟩
theorem drop_app {α : Type} {xs ys zs : List α} {k : Nat} (h : xs.drop k = ys ++ zs) : xs.drop (k + ys.length) = zs := by
  rw [← List.drop_drop, h, List.drop_left]
theorem flat_take {α : Type} {f : Int → List α} {l : List Int} {i : Nat} (h : i < l.length) : (l.take (i + 1)).flatMap f = (l.take i).flatMap f ++ f l[i] := by
  rw [List.take_succ_eq_append_getElem h, List.flatMap_append]; simp
set_option maxRecDepth 100000 in
set_option maxHeartbeats 2000000 in
/-- Down from a node: all of its list is handed over, from place k0 of the whole on. -/
theorem down_c {S : Nat → Prop} {B0 : Nat} {A : Option Addr} {c : Nat} {t : List Nd} (M : May t) (l : Nat) (J Jx : Nat → (Nat → Prop) → World → Prop) (tot : List Int) (hSB : ∀ b, S b → b < B0)
    (hY : ∀ k (hk : k < tot.length) (O : Nat → Prop) (W1 : World), J k O W1 → YieldAt Fence.wide 0 Tryz.prog l #[.int .i64 tot[k]] W1 fun e W' => ∃ O', (∀ b, O' b → O b ∨ W1.heap.size ≤ b) ∧ Kpt O W1 W' ∧
      ((e = .returned (.bool true) ∧ J (k + 1) O' W') ∨ (e = .returned (.bool false) ∧ Jx (k + 1) O' W'))) :
    ∀ (f : Nat) (n : Int) (k0 : Nat) (O : Nat → Prop) (W : World) (rest : List Int), isN t n = true → t.length < dep t n + f → tot.drop k0 = listIn t f n ++ rest → Row nodeK S W (.slice A t.length c) t → B0 ≤ W.heap.size → (∀ b, O b → ¬ S b) → J k0 O W →
    CallsIn Fence.wide 0 Tryz.prog 117 #[.slice A t.length c, .int .i64 n, .func (.yield l) #[] #[]] W fun e W' => ∃ O', (∀ b, O' b → O b ∨ W.heap.size ≤ b) ∧ Kpt O W W' ∧
      ((e = .returned (.bool true) ∧ J (k0 + (listIn t f n).length) O' W') ∨ (e = .returned (.bool false) ∧ ∃ k, Jx k O' W')) := by
  intro f
  induction f with
  | zero => intro n k0 O W rest hn hf; have := M.dep_le hn; omega
  | succ f ih =>
    intro n k0 O W rest hn hf htot hr hB hO h0
    rw [listIn] at htot
    obtain ⟨hk, hxk, htot2⟩ := drop_cons htot
    have hY1 := hY k0 hk O W h0
    rw [hxk] at hY1
    obtain ⟨fn, tmps, assign, body, hy, hR⟩ := hY1
    obtain ⟨j, rfl, hj⟩ := isN_nat hn
    have hks : ∀ y, y ∈ (nd t j).kids → isN t y = true ∧ t.length < dep t y + f := fun y hy => by
      obtain ⟨h1, _, h2⟩ := M.dep_kid hn hy
      exact ⟨h1, by omega⟩
    have hlen := Lib.hid (show (listIn t (f + 1) j).length = 1 + ((nd t j).kids.flatMap (listIn t f)).length by rw [listIn]; simp; omega)
    rw [nd_nat hj] at hks htot2 hlen
    refine callsIn_of_wp Tryz.func117 rfl trivial ?_ rfl; simp only [Tryz.ntmps117, List.size_toArray, List.length_cons, List.length_nil, Nat.reduceAdd, Nat.reduceSub, Array.replicate_succ, Array.replicate_zero, List.push_toArray, List.append_toArray, List.nil_append, List.cons_append]
    gi_wp2
    refine ⟨rfl, hR.mono ?_⟩
    rintro e W3 ⟨O3, h3, hk3, (⟨rfl, hj3⟩ | ⟨rfl, hj3⟩)⟩
    · clear hy hR hY
      have hr3 : Row nodeK S W3 (.slice A t.length c) t := hr.kpt hk3 fun x hx _ h => hO x h hx
      obtain ⟨hc, hm⟩ : t.length ≤ c ∧ t.length ≤ 9223372036854775807 := by
        obtain ⟨A', c', e, h1, h2⟩ := hr.form
        injection e with e1 e2 e3
        exact ⟨by omega, h2⟩
      obtain ⟨b, o, rfl, hSb, hb, hN⟩ := tree_base hr3 (by omega)
      obtain ⟨Ak, ck, Aa, ca, N⟩ := hN j hj
      have x3 := N.c3
      have hrk := N.kids
      have hkc := N.k1
      have hk2 := N.k2
      have hjz : (j : Int) < (t.length : Int) := by omega
      clear N hN
      generalize t[j].kids = ks at x3 hrk hks htot2 hkc hk2 hlen
      have hsz := hk3.size
      have hO3 : ∀ x, O3 x → ¬ S x := fun x hx h => (h3 x hx).elim (fun h' => hO x h' h) (fun h' => by have := hSB x h; omega)
      gi_wp2
      gi_loopw [8, 19] (fun s8 s19 wr => ∃ (i : Nat) (O' : Nat → Prop), s19 = .int .i64 i ∧ i ≤ ks.length ∧ Aside ((∀ b, O' b → O3 b ∨ W3.heap.size ≤ b) ∧ Kpt O3 W3 wr ∧ J (k0 + 1 + ((ks.take i).flatMap (listIn t f)).length) O' wr)) (fun _ s19 _ => ks.length - (intOf s19).toNat)
      case atStart => exact ⟨0, O3, rfl, Nat.zero_le _, fun b hb => .inl hb, Kpt.refl _ _, by simpa using hj3⟩
      case round =>
        obtain ⟨i, O', rfl, hi, HA⟩ := hrel
        by_cases hlt : i < ks.length
        · have hltz : (i : Int) < (ks.length : Int) := by omega
          have hrw : Row nodeK S wr (.slice (some ⟨b, o, none⟩) t.length c) t := hr3.kpt HA.out.2.1 fun x hx _ h => hO3 x h hx
          have hrkw := hrk.kpt HA.out.2.1 fun x hx _ h => hO3 x h hx
          obtain ⟨b', o', rfl, _, _, y0⟩ := int_at hrkw i hlt
          have hy1 := hks _ (List.getElem_mem hlt)
          have hci := ih ks[i] _ O' wr ((ks.drop (i + 1)).flatMap (listIn t f) ++ rest) hy1.1 hy1.2 (by
            refine drop_app ?_ (ys := (ks.take i).flatMap (listIn t f))
            rw [htot2, ← List.append_assoc, ← List.append_assoc, ← flat_take hlt, ← List.flatMap_append, List.take_append_drop]; try rfl) hrw (by have := HA.out.2.1.size; omega) (fun x hx => (HA.out.1 x hx).elim (hO3 x) (fun h h' => by have := hSB x h'; omega)) HA.out.2.2
          have HL := Lib.hid (show k0 + 1 + ((ks.take i).flatMap (listIn t f)).length + (listIn t f ks[i]).length = k0 + 1 + ((ks.take (i + 1)).flatMap (listIn t f)).length by rw [flat_take hlt, List.length_append]; omega)
          generalize ks[i] = y at y0 hci HL
          clear hy1 ih
          gi_wp2
          refine ⟨trivial, rfl, hci.mono ?_⟩
          rintro e W4 ⟨O4, h4, hk4, (⟨rfl, hj4⟩ | ⟨rfl, k4, hj4⟩)⟩
          · gi_wp2
            go_roundw
            case rel => exact ⟨i + 1, O4, by go_num, by omega, fun x hx => (h4 x hx).elim (HA.out.1 x) (fun h => by have := HA.out.2.1.size; exact .inr (by omega)), HA.out.2.1.trans hk4 HA.out.1, by rw [← HL.out]; exact hj4⟩
            case measure => simp [intOf]; omega
          · gi_wp2
            go_ret
            exact ⟨O4, fun x hx => (h4 x hx).elim (fun h => (HA.out.1 x h).elim (h3 x) (fun h => .inr (by omega))) (fun h => by have := HA.out.2.1.size; exact .inr (by omega)), hk3.trans (HA.out.2.1.trans hk4 HA.out.1) h3, .inr ⟨rfl, k4, hj4⟩⟩
        · have hltz : ¬ (i : Int) < (ks.length : Int) := by omega
          gi_wp2
          go_ret
          exact ⟨O', fun x hx => (HA.out.1 x hx).elim (h3 x) (fun h => .inr (by omega)), hk3.trans HA.out.2.1 h3, .inl ⟨rfl, by rw [hlen.out]; have := HA.out.2.2; rw [List.take_of_length_le (by omega)] at this; rw [← Nat.add_assoc]; exact this⟩⟩
    · gi_wp2
      go_ret
      exact ⟨O3, h3, hk3, .inr ⟨rfl, _, hj3⟩⟩
end Go.Proofs.Lime
namespace Go.Proofs.Lime
open Go.RowKit
set_option linter.unusedVariables false
set_option linter.unusedSimpArgs false
attribute [local go_sem] Oper.semAt_some

/-- Few kids of each node. -/
def KidsOk (t : List Nd) : Prop := ∀ k (hk : k < t.length), t[k].kids.length ≤ 1000

set_option maxHeartbeats 1000000 in
theorem olist1_it {S : Nat → Prop} {w : World} {A : Option Addr} {c : Nat} {t : List Nd} (hr : Row nodeK S w (.slice A t.length c) t) (M : May t) {n : Int} (hn : isN t n = true) {BT BN : Nat}
    (h1 : w.cell? ⟨BT, 0, none⟩ = some (.slice A t.length c)) (h2 : w.cell? ⟨BN, 0, none⟩ = some (.int .i64 n)) :
    Iter Tryz.prog 116 #[.pointer (some ⟨BT, 0, none⟩), .pointer (some ⟨BN, 0, none⟩)] (fun x : Int => #[.int .i64 x]) (fun _ => False) (fun b => S b ∨ b = BT ∨ b = BN) (listT t n) w := by
  intro l J Jx O W hk hO hJ hJx hY h0
  have hOT : ¬ O BT := fun h => (hO BT h).2 (World.block_lt_of_cell? w _ h1) (.inr (.inl rfl))
  have hON : ¬ O BN := fun h => (hO BN h).2 (World.block_lt_of_cell? w _ h2) (.inr (.inr rfl))
  have hrW := hr.bound.kpt hk (fun x hx hl h => (hO x h).2 hx.2 (.inl hx.1))
  have cT := hk.cell (p := ⟨BT, 0, none⟩) hOT h1
  have cN := hk.cell (p := ⟨BN, 0, none⟩) hON h2
  have hd := down_c (S := fun k => S k ∧ k < w.heap.size) (B0 := w.heap.size) (A := A) (c := c) M l J Jx (listT t n) (fun b hb => hb.2) hY (t.length + 1) n 0 O W [] hn (by omega) (by rw [List.append_nil]; rfl) hrW hk.size (fun b hb h => (hO b hb).2 h.2 (.inl h.1)) h0
  clear hr h1 h2 hY
  refine callsIn_of_wp Tryz.func116 rfl trivial ?_ rfl; simp only [Tryz.ntmps116, List.size_toArray, List.length_cons, List.length_nil, Nat.reduceAdd, Nat.reduceSub, Array.replicate_succ, Array.replicate_zero, List.push_toArray, List.append_toArray, List.nil_append, List.cons_append]
  gi_wp2
  refine ⟨trivial, rfl, hd.mono ?_⟩
  rintro e W4 ⟨O4, h4, hk4, (⟨rfl, hj4⟩ | ⟨rfl, k4, hj4⟩)⟩
  · gi_wp2
    refine bodyPost_end (results_none rfl _ _ _) rfl ?_
    exact ⟨⟨_, rfl⟩, O4, .inl (by rw [Nat.zero_add] at hj4; exact hj4)⟩
  · gi_wp2
    refine bodyPost_end (results_none rfl _ _ _) rfl ?_
    exact ⟨⟨_, rfl⟩, O4, .inr ⟨_, hj4⟩⟩

def allT (t : List Nd) (ns : List Int) : Bool := mayT t && !(ns.any fun n => !isN t n)
theorem all1_c {w : World} {A : Option Addr} {t : List Nd} {c : Nat} (hl : t.length ≤ 64) (y : Int) (B : Nat) (h1 : w.cell? ⟨B, 0, none⟩ = some (.slice A t.length c)) :
    Calls Tryz.prog 99 #[.int .i64 y, .pointer (some ⟨B, 0, none⟩)] w fun e w' => e = .returned (.bool (!isN t y)) ∧ Stp w w' := by
  go_enter Tryz.func99, Tryz.ntmps99
  go_wp2
  all_goals
    go_ret
    exact ⟨ret_bool (by clear h1; grind [isN]), by (exact Lime.stp_)⟩
set_option maxHeartbeats 1000000 in
theorem all_c {S T : Nat → Prop} {w : World} {v u : Value} {t : List Nd} {ns : List Int} (hr : Row nodeK S w v t) (hks : KidsOk t) (hi : Row intK T w u ns) :
    Calls Tryz.prog 83 #[v, u] w fun e w' => e = .returned (.bool (allT t ns)) ∧ Stp w w' := by
  obtain ⟨A, c, rfl, hc, hm⟩ := hr.form
  obtain ⟨A2, c2, rfl, hc2, hm2⟩ := hi.form
  have ck := fun W (hW : Stp w W) => check_c (hr.stp hW) hks
  have eg := (enters_of Tryz.func99 (by kernel_rfl) rfl)
  cases h : mayT t with
  | false =>
    have HA := Lib.hid (show allT t ns = false by rw [allT, h]; rfl)
    rw [h] at ck
    simp only [Bool.false_eq_true, if_false] at ck
    go_enter Tryz.func83, Tryz.ntmps83
    go_wp2_with (go_at_call 18; refine (ck _ Lime.stp_).mono ?_; rintro e w1 ⟨rfl, hb1⟩)
    go_ret
    exact ⟨ret_bool (by rw [HA.out]), by (exact Lime.stp_)⟩
  | true =>
    have HA := Lib.hid (show allT t ns = !(ns.any fun n => !isN t n) by rw [allT, h]; rfl)
    have hl := (May.of h).len2
    rw [h] at ck
    simp only [if_true] at ck
    go_enter Tryz.func83, Tryz.ntmps83
    go_wp2_with fail
    obtain ⟨w0, hw0⟩ : ∃ w0, w.alloc (.cells #[.slice A t.length c] 23) = w0 := ⟨_, rfl⟩
    have b0 : Boxed w0 w.heap.size 23 (.slice A t.length c) := by rw [← hw0]; exact Boxed.new _ _ _
    have hs0 : Stp w w0 := by rw [← hw0]; exact (Stp.refl w).alloc _
    rw [hw0]
    clear hw0
    have g0 := Boxed.cell b0
    refine (ck _ hs0).mono ?_
    rintro e w1 ⟨rfl, hb1⟩
    replace g0 := hb1.cell g0
    go_wp2_with (go_at_call 63; refine (containsFuncI_c (hi.stp Lime.stp_) (fun y => !isN t y) _ _ eg ?hp).mono ?_; (case hp => exact fun W y hW => all1_c hl y _ (hW.cell g0)); rintro e w9 ⟨rfl, hb9⟩)
    go_ret
    exact ⟨ret_bool (by rw [HA.out]), by (exact Lime.stp_)⟩

/-- One number, just laid. -/
theorem one_row (w : World) (n : Int) : Row intK (fun b => b = w.heap.size) (w.alloc (.cells #[.int .i64 n] 3)) (.slice (some ⟨w.heap.size, 0, none⟩) 1 1) [n] := Row.box (World.alloc_heap_new w _) rfl rfl
theorem all_one {t : List Nd} {n : Int} : allT t [n] = (mayT t && isN t n) := by simp [allT]

def upsR (t : List Nd) (n : Int) : List Int := if mayT t = true ∧ isN t n = true then upsP t n else []
def listR (t : List Nd) (n : Int) : List Int := if mayT t = true ∧ isN t n = true then listT t n else []
def topR (t : List Nd) (n : Int) : Int := if mayT t = true ∧ isN t n = true then topT t n else -1
set_option maxHeartbeats 1000000 in
theorem olist_r {S : Nat → Prop} {w : World} {v : Value} {t : List Nd} (hr : Row nodeK S w v t) (hks : KidsOk t) (n : Int) :
    Calls Tryz.prog 105 #[v, .int .i64 n] w fun e w' => ∃ u, e = .returned u ∧ Own intK 3 (fun b => w.heap.size ≤ b) w' u (listR t n) ∧ Stp w w' := by
  have hrb := hr.bound
  obtain ⟨A, c, rfl, hc, hm⟩ := hr.form
  have ca := fun (_ : Unit) => all_c (hr.stp ((Stp.refl w).alloc (.cells #[.int .i64 n] 3))) hks (one_row w n)
  cases ho : allT t [n] with
  | false =>
    rw [ho] at ca
    have HR := Lib.hid (show listR t n = [] by rw [listR, if_neg (by rintro ⟨h1, h2⟩; rw [all_one, h1, h2] at ho; cases ho)])
    clear ho
    go_enter Tryz.func105, Tryz.ntmps105
    go_wp2_with (go_at_call 83; refine (ca ()).mono ?_; rintro e w1 ⟨rfl, hb1⟩)
    go_ret
    exact ⟨_, rfl, by rw [HR.out]; exact Own.nil _ _ _ _, by (exact Lime.stp_)⟩
  | true =>
    rw [ho] at ca
    rw [all_one, Bool.and_eq_true] at ho
    have M := May.of ho.1
    have hn := ho.2
    have HR := Lib.hid (show listR t n = listT t n by rw [listR, if_pos ho])
    clear ho
    have eg := (enters_of Tryz.func116 (by kernel_rfl) rfl)
    go_enter Tryz.func105, Tryz.ntmps105
    go_wp2_with (first | (go_at_call 83; refine (ca ()).mono ?_; rintro e w1 ⟨rfl, hb1⟩) | (go_at_call 114; refine (olist_c _ _ _ _ _).mono ?_; rintro e w' ⟨rfl, rfl⟩))
    obtain ⟨w2, hw2, hs2, hz2, bT, bN⟩ := two_boxes w1 23 3 (.slice A t.length c) (.int .i64 n)
    rw [hw2]
    clear hw2
    have hst : Stp w w2 := by (exact Lime.stp_)
    have hit := olist1_it (hrb.stp hst) M hn (Boxed.cell bT) (Boxed.cell bN)
    have hle := M.listT_le hn
    have hl2 := M.len2
    have hszw := hst.size
    generalize hxs : listT t n = xs at HR hit hle
    have HX := Lib.hid hxs
    clear hxs
    refine (collect_c eg hit (fun _ h => h.elim) (fun b hb => hb.elim (fun h => by have := h.2; omega) (fun h => by omega)) (by omega)).mono ?_
    rintro e w3 ⟨u, rfl, ho, hk⟩
    have hs3 : Stp w2 w3 := hk.stp fun _ h => h.elim
    have ho2 := Lib.hid (ho.mono (S' := fun b => w.heap.size ≤ b) fun k hk _ => by omega)
    clear ho hit
    go_wp2
    go_ret
    exact ⟨_, rfl, by rw [HR.out]; exact ho2, by (exact Lime.stp_)⟩

set_option maxHeartbeats 1000000 in
theorem oup_r {S : Nat → Prop} {w : World} {v : Value} {t : List Nd} (hr : Row nodeK S w v t) (hks : KidsOk t) (n : Int) :
    Calls Tryz.prog 90 #[v, .int .i64 n] w fun e w' => ∃ u, e = .returned u ∧ Own intK 3 (fun b => w.heap.size ≤ b) w' u (upsR t n) ∧ Stp w w' := by
  have hrb := hr.bound
  obtain ⟨A, c, rfl, hc, hm⟩ := hr.form
  have ca := fun (_ : Unit) => all_c (hr.stp ((Stp.refl w).alloc (.cells #[.int .i64 n] 3))) hks (one_row w n)
  cases ho : allT t [n] with
  | false =>
    rw [ho] at ca
    have HR := Lib.hid (show upsR t n = [] by rw [upsR, if_neg (by rintro ⟨h1, h2⟩; rw [all_one, h1, h2] at ho; cases ho)])
    clear ho
    go_enter Tryz.func90, Tryz.ntmps90
    go_wp2_with (go_at_call 83; refine (ca ()).mono ?_; rintro e w1 ⟨rfl, hb1⟩)
    go_ret
    exact ⟨_, rfl, by rw [HR.out]; exact Own.nil _ _ _ _, by (exact Lime.stp_)⟩
  | true =>
    rw [ho] at ca
    rw [all_one, Bool.and_eq_true] at ho
    have M := May.of ho.1
    have hn := ho.2
    have HR := Lib.hid (show upsR t n = upsP t n by rw [upsR, if_pos ho])
    clear ho
    have eg := (enters_of Tryz.func100 (by kernel_rfl) rfl)
    go_enter Tryz.func90, Tryz.ntmps90
    go_wp2_with (first | (go_at_call 83; refine (ca ()).mono ?_; rintro e w1 ⟨rfl, hb1⟩) | (go_at_call 84; refine (oup_c _ _ _ _ _).mono ?_; rintro e w' ⟨rfl, rfl⟩))
    obtain ⟨w2, hw2, hs2, hz2, bT, bN⟩ := two_boxes w1 23 3 (.slice A t.length c) (.int .i64 n)
    rw [hw2]
    clear hw2
    have hst : Stp w w2 := by (exact Lime.stp_)
    have hszw := hst.size
    have hsz1 : w.heap.size ≤ w1.heap.size := Stp.size Lime.stp_
    obtain ⟨j, rfl, hj⟩ := isN_nat hn
    have hit := oup1_it (hrb.stp hst) M hj (Boxed.cell bT) bN (by omega) (fun b hb => by have := hb.2; omega)
    have hle := M.upsP_le hn
    have hl2 := M.len2
    generalize hxs : upsP t j = xs at HR hit hle
    have HX := Lib.hid hxs
    clear hxs
    refine (collect_c eg hit (fun _ h => by omega) (fun b hb => hb.elim (fun h => by have := h.2; omega) (fun h => by omega)) (by omega)).mono ?_
    rintro e w3 ⟨u, rfl, ho, hk⟩
    have hs3 : Stp w w3 := ((Kpt.of_stp (O := fun b => w.heap.size ≤ b) hst).trans hk fun x hx => .inl (by omega)).stp fun _ h => h
    have ho2 := Lib.hid (ho.mono (S' := fun b => w.heap.size ≤ b) fun k hk _ => by omega)
    clear ho hit
    go_wp2
    go_ret
    exact ⟨_, rfl, by rw [HR.out]; exact ho2, hs3⟩

/-- What 'Top' holds between two rounds. -/
structure TopSt (C : Nat → Prop) (xs : List Int) (B : Nat) (w : World) (k : Nat) (O : Nat → Prop) (W : World) : Prop where mk ::
  ob : O B
  new : ∀ b, O b → b = B ∨ w.heap.size ≤ b
  kp : Kpt (fun b => C b ∨ b = B) w W
  box : Boxed W B 3 (.int .i64 ((xs.take k).getLastD (-1)))
theorem top_abide (C : Nat → Prop) (xs : List Int) (B : Nat) (w : World) : Abide C w.heap.size (TopSt C xs B w) := by
  intro k O A W h hk
  exact ⟨h.ob, h.new, h.kp.trans hk (fun x hx => hx.2.imp .inl id), Boxed.keep h.box hk (fun hb => hb.1 h.ob)⟩
theorem take_last {xs : List Int} {k : Nat} (h : k < xs.length) (d : Int) : (xs.take (k + 1)).getLastD d = xs[k] := by
  rw [List.take_succ_eq_append_getElem h]; exact List.getLastD_concat ..

set_option maxHeartbeats 1000000 in
theorem otop_r {S : Nat → Prop} {w : World} {v : Value} {t : List Nd} (hr : Row nodeK S w v t) (hks : KidsOk t) (n : Int) :
    Calls Tryz.prog 67 #[v, .int .i64 n] w fun e w' => e = .returned (.int .i64 (topR t n)) ∧ Stp w w' := by
  have hrb := hr.bound
  obtain ⟨A, c, rfl, hc, hm⟩ := hr.form
  have ca := fun (_ : Unit) => all_c (hr.stp (((Stp.refl w).alloc (.cells #[.int .i64 (-1)] 3)).alloc (.cells #[.int .i64 n] 3))) hks (one_row _ n)
  simp only [World.size_alloc] at ca
  have hs1 : Stp w ((w.alloc (.cells #[.int .i64 (-1)] 3)).alloc (.cells #[.int .i64 n] 3)) := ((Stp.refl w).alloc _).alloc _
  have b1 : Boxed ((w.alloc (.cells #[.int .i64 (-1)] 3)).alloc (.cells #[.int .i64 n] 3)) w.heap.size 3 (.int .i64 (-1)) := Boxed.alloc (Boxed.new _ _ _) _
  cases ho : allT t [n] with
  | false =>
    rw [ho] at ca
    have HR := Lib.hid (show topR t n = -1 by rw [topR, if_neg (by rintro ⟨h1, h2⟩; rw [all_one, h1, h2] at ho; cases ho)])
    clear ho
    refine (callsIn_wide (n := 0)).1 (callsIn_of_wp_marks Tryz.func67 rfl trivial (wpIn_wide.2 ?_) rfl); simp only [Tryz.ntmps67, List.size_toArray, List.length_cons, List.length_nil, Nat.reduceAdd, Nat.reduceSub, Array.replicate_succ, Array.replicate_zero, List.push_toArray, List.append_toArray, List.nil_append, List.cons_append]
    go_wp2_with fail
    refine (ca ()).mono ?_
    rintro e w1 ⟨rfl, hb1⟩
    have g1 := Boxed.cell (Boxed.stp b1 hb1)
    go_wp2
    exact ⟨_, results_tmp rfl _ _ _, by rw [HR.out]; rfl, hs1.trans hb1⟩
  | true =>
    rw [ho] at ca
    rw [all_one, Bool.and_eq_true] at ho
    have M := May.of ho.1
    have hn := ho.2
    have HR := Lib.hid (show topR t n = (upsP t n).getLastD (-1) by rw [topR, if_pos ho]; rfl)
    clear ho
    have eg := (enters_of Tryz.func100 (by kernel_rfl) rfl)
    refine (callsIn_wide (n := 0)).1 (callsIn_of_wp_marks Tryz.func67 rfl trivial (wpIn_wide.2 ?_) rfl); simp only [Tryz.ntmps67, List.size_toArray, List.length_cons, List.length_nil, Nat.reduceAdd, Nat.reduceSub, Array.replicate_succ, Array.replicate_zero, List.push_toArray, List.append_toArray, List.nil_append, List.cons_append]
    go_wp2_with fail
    refine (ca ()).mono ?_
    rintro e w1 ⟨rfl, hb1⟩
    replace b1 := Boxed.stp b1 hb1
    go_wp2_with (go_at_call 84; refine (oup_c _ _ _ _ _).mono ?_; rintro e w' ⟨rfl, rfl⟩)
    obtain ⟨w2, hw2, hs2, hz2, bT, bN⟩ := two_boxes w1 23 3 (.slice A t.length c) (.int .i64 n)
    rw [hw2]
    clear hw2
    replace b1 := Boxed.stp b1 hs2
    have hst : Stp w w2 := by (exact Lime.stp_)
    have hszw := hst.size
    have hsz1 : w.heap.size + 2 ≤ w1.heap.size := by have := hb1.size; simpa using this
    obtain ⟨j, rfl, hj⟩ := isN_nat hn
    have hit := oup1_it (hrb.stp hst) M hj (Boxed.cell bT) bN (by omega) (fun b hb => by have := hb.2; omega)
    generalize hxs : upsP t j = xs at HR hit
    have HX := Lib.hid hxs
    clear hxs
    generalize hB : w.heap.size = B at *
    refine wp_range2 (gf := 100) rfl eg hit (fun _ => rfl) (fun b hb => by omega) (· = B) (fun b hb => ?_) (TopSt (· = w1.heap.size + 1) xs B w2) (fun _ _ _ _ => False) (top_abide _ _ _ _) (fun _ _ _ _ _ h _ => h) ?_ (fun a' k O W => TopSt (· = w1.heap.size + 1) xs B w2 (k + 1) O W) (fun _ k => top_abide _ _ _ _ (k + 1)) ?_ ?_ ?_ ?_
    · subst hb
      exact ⟨by omega, fun h => by omega, fun h => h.elim (fun h => by have := h.2; omega) (fun h => by omega)⟩
    · exact ⟨rfl, fun b hb => .inl hb, Kpt.refl _ _, b1⟩
    · intro l k hk O W K hI hK
      have hcB := Boxed.cell hI.box
      have hfB := Boxed.frozen hI.box
      have hkp : Kpt O W (W.setCell ⟨B, 0, none⟩ (.int .i64 xs[k])) := Kpt.setCell W _ hI.ob
      have H2 := Lib.hid (show TopSt (· = w1.heap.size + 1) xs B w2 (k + 1) O (W.setCell ⟨B, 0, none⟩ (.int .i64 xs[k])) from ⟨hI.ob, hI.new, hI.kp.trans hkp fun b hb => (hI.new b hb).imp .inr id, by rw [take_last hk]; exact Boxed.set _ hI.box⟩)
      clear hI
      generalize xs[k] = x at H2 hkp
      gi_wp2
      exact hK _ O _ (fun b hb => .inl hb) hkp H2
    · intro l k hk a' O W hI
      gi_wp2
      exact ⟨O, fun b hb => .inl hb, Kpt.refl _ _, hI⟩
    · intro D O W hD hn hI hWD
      have hcB := Boxed.cell hI.box
      rw [List.take_of_length_le (Nat.le_refl _)] at hcB
      go_wp2
      refine leaves_mark hWD (results_tmp rfl _ _ _) ⟨by rw [HR.out, List.getLastD_eq_getLast?]; rfl, ?_⟩
      have hk1 : Kpt (fun b => B ≤ b) w W := ((Kpt.of_stp (O := fun b => B ≤ b) hst).trans hI.kp fun x hx => .inl (by omega))
      exact (hk1.trans (Kpt.put (O := fun b => b = D) W _ rfl) fun x hx => .inl (by omega)).stp fun x hx => by omega
    · intro D c k O W _ _ h
      exact h.elim
end Go.Proofs.Lime
namespace Go.Proofs.Lime
open Go.RowKit
set_option linter.unusedVariables false
set_option linter.unusedSimpArgs false
attribute [local go_sem] Oper.semAt_some

/-- Does a come ahead of b in a list (b there)? s: a has come. -/
def scanB (a b : Int) : Bool → List Int → Bool
  | _, [] => false
  | s, n :: r => if n = a then scanB a b true r else if n = b then s else scanB a b s r
def beforeR (t : List Nd) (a b : Int) : Bool := if (mayT t && (isN t a && isN t b)) = true ∧ a ≠ b then scanB a b false (listT t (topT t a)) else false

structure BefSt (a b : Int) (xs : List Int) (Br Bs : Nat) (w : World) (k : Nat) (O : Nat → Prop) (W : World) : Prop where mk ::
  oR : O Br
  oS : O Bs
  new : ∀ x, O x → (x = Br ∨ x = Bs) ∨ w.heap.size ≤ x
  kp : Kpt (fun x => x = Br ∨ x = Bs) w W
  bR : ∃ r, Boxed W Br 4 (.bool r)
  bS : ∃ s, Boxed W Bs 4 (.bool s) ∧ scanB a b s (xs.drop k) = scanB a b false xs
structure BefEx (a b : Int) (xs : List Int) (Br Bs : Nat) (w : World) (O : Nat → Prop) (W : World) : Prop where mk ::
  oR : O Br
  new : ∀ x, O x → (x = Br ∨ x = Bs) ∨ w.heap.size ≤ x
  kp : Kpt (fun x => x = Br ∨ x = Bs) w W
  bR : Boxed W Br 4 (.bool (scanB a b false xs))
theorem bef_abide (a b : Int) (xs : List Int) (Br Bs : Nat) (w : World) : Abide (fun _ => False) w.heap.size (BefSt a b xs Br Bs w) := by
  intro k O A W h hk
  obtain ⟨r, hr⟩ := h.bR
  obtain ⟨s, hs, he⟩ := h.bS
  exact ⟨h.oR, h.oS, h.new, h.kp.trans hk (fun x hx => .inr (hx.2.resolve_left id)), ⟨r, Boxed.keep hr hk (fun hb => hb.1 h.oR)⟩, s, Boxed.keep hs hk (fun hb => hb.1 h.oS), he⟩
theorem befx_abide (a b : Int) (xs : List Int) (Br Bs : Nat) (w : World) (c : Code) : Abide (fun _ => False) w.heap.size (fun _ O W => c = .ret ∧ BefEx a b xs Br Bs w O W) := by
  rintro k O A W ⟨hc, h⟩ hk
  exact ⟨hc, h.oR, h.new, h.kp.trans hk (fun x hx => .inr (hx.2.resolve_left id)), Boxed.keep h.bR hk (fun hb => hb.1 h.oR)⟩
theorem topT_isN {t : List Nd} (M : May t) {n : Int} (hn : isN t n = true) : isN t (topT t n) = true := by
  have h1 := M.upsP_step hn
  refine M.upsP_isN (.inr hn) ?_
  rw [topT, List.getLastD_eq_getLast?, List.getLast?_eq_some_getLast (by rw [h1]; simp)]
  exact List.getLast_mem _

/-- Two numbers, just laid. -/
theorem two_row (w : World) (a b : Int) : Row intK (fun x => x = w.heap.size) (w.alloc (.cells #[.int .i64 a, .int .i64 b] 3)) (.slice (some ⟨w.heap.size, 0, none⟩) 2 2) [a, b] := by
  refine ⟨⟨_, 2, rfl, by simp, by simp⟩, fun j hj => ?_⟩
  have hj2 : j = 0 ∨ j = 1 := by simp at hj; omega
  rcases hj2 with rfl | rfl
  · refine ⟨_, 0, 2, [.int .i64 a], rfl, rfl, by simp, rfl, fun i u hi => ?_⟩
    obtain ⟨rfl, rfl⟩ : i = 0 ∧ u = .int .i64 a := by cases i <;> simp_all
    exact box_at w _ _ 0 _ rfl
  · refine ⟨_, 0, 2, [.int .i64 b], rfl, rfl, by simp, rfl, fun i u hi => ?_⟩
    obtain ⟨rfl, rfl⟩ : i = 0 ∧ u = .int .i64 b := by cases i <;> simp_all
    exact box_at w _ _ 1 _ rfl
theorem all_two {t : List Nd} {a b : Int} : allT t [a, b] = (mayT t && (isN t a && isN t b)) := by simp [allT]
theorem three_boxes (w : World) (s t u : TypeId) (x y z : Value) : ∃ W, ((w.alloc (.cells #[x] s)).alloc (.cells #[y] t)).alloc (.cells #[z] u) = W ∧ Stp w W ∧ W.heap.size = w.heap.size + 3 ∧ Boxed W w.heap.size s x ∧ Boxed W (w.heap.size + 1) t y ∧ Boxed W (w.heap.size + 1 + 1) u z := by
  obtain ⟨W, h, h1, h2, h3, h4⟩ := two_boxes w s t x y
  refine ⟨_, rfl, (((Stp.refl w).alloc _).alloc _).alloc _, by simp, ?_, ?_, ?_⟩
  · rw [h]; exact Boxed.alloc h3 _
  · rw [h]; exact Boxed.alloc h4 _
  · rw [h]; have := Boxed.new W u z; rw [h2] at this; exact this

end Go.Proofs.Lime
