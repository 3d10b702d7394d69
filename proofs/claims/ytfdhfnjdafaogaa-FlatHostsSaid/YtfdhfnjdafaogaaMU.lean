/- Walk: the iterator that hands over a list of numbers from its end. Walks: the flat tree: kids, parents. Walks: the flat tree: ways up. Walks: the flat tree in a list. Trees and lists written out, as they lie in blocks. No conditions. Walk: some answers that the document gives, of the flat tree. The contracts of the flat tree in the print's form. No conditions. -/
import Derived.Test.YtfdhfnjdafaogaaMA
import Derived.Test.YtfdhfnjdafaogaaMT
import Derived.Test.YtfdhfnjdafaogaaMP
import Derived.Test.YtfdhfnjdafaogaaME
namespace Go.Proofs.Lime
open Go.RowKit
set_option linter.unusedVariables false
set_option linter.unusedSimpArgs false
attribute [local go_sem] Oper.semAt_some
theorem back_c (w : World) (A : Option Addr) (m c : Nat) : Calls Try.prog 46 #[.slice A m c] w fun e w' => e = .returned (.func (.func 64) #[] #[.pointer (some ⟨w.heap.size, 0, none⟩)]) ∧ w' = w.alloc (.cells #[.slice A m c] 27) := by
  go_enter Try.func46, Try.ntmps46
  go_wp2
  go_ret
  exact ⟨rfl, rfl⟩
/-- What is handed over: places and elements, from the end. -/
def backs (xs : List Int) : List (Int × Int) := (List.range xs.length).reverse.map fun i : Nat => ((i : Int), xs.getD i 0)
theorem backs_length (xs : List Int) : (backs xs).length = xs.length := by simp [backs]
theorem backs_at {xs : List Int} {k : Nat} (h : k < (backs xs).length) (h2 : xs.length - 1 - k < xs.length) : (backs xs)[k] = (((xs.length - 1 - k : Nat) : Int), xs[xs.length - 1 - k]) := by
  simp only [backs, List.getElem_map, List.getElem_reverse, List.getElem_range, List.length_range]
  rw [List.getD_eq_getElem?_getD, List.getElem?_eq_getElem h2]; rfl
set_option maxHeartbeats 1000000 in
theorem back1_it {S : Nat → Prop} {w : World} {A : Option Addr} {c : Nat} {xs : List Int} (hr : Row intK S w (.slice A xs.length c) xs) {B : Nat} (h1 : w.cell? ⟨B, 0, none⟩ = some (.slice A xs.length c)) :
    Iter Try.prog 64 #[.pointer (some ⟨B, 0, none⟩)] (fun p : Int × Int => #[.int .i64 p.1, .int .i64 p.2]) (fun _ => False) (fun b => S b ∨ b = B) (backs xs) w := by
  intro l J Jx O W hk hO hJ hJx hY h0
  have hOB : ¬ O B := fun h => (hO B h).2 (World.block_lt_of_cell? w _ h1) (.inr rfl)
  have hrW := hr.bound.kpt hk (fun x hx hl h => (hO x h).2 hx.2 (.inl hx.1))
  have cB := hk.cell (p := ⟨B, 0, none⟩) hOB h1
  have hOS : ∀ x, S x ∧ x < w.heap.size → ¬ O x := fun x hx h => (hO x h).2 hx.2 (.inl hx.1)
  have hBW := World.block_lt_of_cell? W _ cB
  have hSW := hk.size
  obtain ⟨A', c', e, hc, hm⟩ := hr.form
  injection e with e1 e2 e3
  subst e1 e3
  clear hr h1 e2
  refine callsIn_of_wp Try.func64 rfl trivial ?_ rfl; simp only [Try.ntmps64, List.size_toArray, List.length_cons, List.length_nil, Nat.reduceAdd, Nat.reduceSub, Array.replicate_succ, Array.replicate_zero, List.push_toArray, List.append_toArray, List.nil_append, List.cons_append]
  gi_wp2
  gi_loopw [3] (fun s3 wr => ∃ (i : Int) (k : Nat) (O' : Nat → Prop), s3 = .int .i64 i ∧ -1 ≤ i ∧ i + k + 1 = xs.length ∧ Aside ((∀ b, O' b → O b ∨ W.heap.size ≤ b) ∧ Kpt O W wr ∧ J k O' wr)) (fun s3 _ => (intOf s3 + 1).toNat)
  case atStart => exact ⟨_, 0, O, rfl, by omega, by omega, fun b hb => .inl hb, Kpt.refl _ _, h0⟩
  case round =>
    obtain ⟨i, k, O', rfl, hi1, hi, HA⟩ := hrel
    have cB' := HA.out.2.1.cell (p := ⟨B, 0, none⟩) hOB cB
    by_cases hi0 : 0 ≤ i
    · have hilt : xs.length - 1 - k < xs.length := by omega
      obtain ⟨j, rfl⟩ : ∃ j : Nat, i = j := ⟨i.toNat, by omega⟩
      have hjx : j = xs.length - 1 - k := by omega
      have hj : j < xs.length := by omega
      have hkx : k < (backs xs).length := by rw [backs_length]; omega
      have hY1 := hY k hkx O' wr HA.out.2.2
      rw [backs_at hkx hilt] at hY1
      dsimp only at hY1
      subst hjx
      obtain ⟨fn, tmps, assign, body, hy, hR⟩ := hY1
      have hrw := hrW.kpt HA.out.2.1 fun x hx _ h => hOS x hx h
      obtain ⟨b', o', rfl, _, _, y0⟩ := int_at hrw _ hj
      have hjz : ((xs.length - 1 - k : Nat) : Int) < (xs.length : Int) := by omega
      generalize xs[xs.length - 1 - k] = y at y0 hR hy
      generalize xs.length - 1 - k = j at *
      gi_wp2
      refine ⟨rfl, hR.mono ?_⟩
      rintro e W3 ⟨O3, h3, hk3, (⟨rfl, hj3⟩ | ⟨rfl, hj3⟩)⟩
      · gi_wp2
        go_roundw
        case rel => exact ⟨(j : Int) - 1, k + 1, O3, by go_num, by omega, by omega, fun x hx => (h3 x hx).elim (HA.out.1 x) (fun h => by have := HA.out.2.1.size; exact .inr (by omega)), HA.out.2.1.trans hk3 HA.out.1, hj3⟩
        case measure => simp [intOf]
      · gi_wp2
        refine bodyPost_ret (results_none rfl _ _ _) rfl ?_
        exact ⟨⟨_, rfl⟩, O3, .inr ⟨_, hj3⟩⟩
    · gi_wp2
      refine bodyPost_end (results_none rfl _ _ _) rfl ?_
      exact ⟨⟨_, rfl⟩, O', .inl (by rw [backs_length]; rw [show xs.length = k by omega]; exact HA.out.2.2)⟩
end Go.Proofs.Lime
namespace Go.Proofs.Lime
open Go.RowKit
set_option linter.unusedVariables false
set_option linter.unusedSimpArgs false

theorem flis_r {S : Nat → Prop} {w : World} {v : Value} {t : List Nd} (hr : Row nodeK S w v t) (hks : KidsOk t) (n : Int) :
    Calls Try.prog 34 #[v, .int .i64 n] w fun e w' => e = .returned (.bool (mayT t && isN t n)) ∧ Stp w w' := by
  obtain ⟨A, c, rfl, hc, hm⟩ := hr.form
  have ct := fun W (hW : Stp w W) => otop_r (hr.stp hW) hks n
  by_cases ho : mayT t = true ∧ isN t n = true
  · have M := May.of ho.1
    rw [show topR t n = topT t n from if_pos ho] at ct
    obtain ⟨k, hk, hkt⟩ := isN_nat (M.topT_isN ho.2)
    rw [hk] at ct
    have hkn : ((k : Int) != -1) = true := by simp
    go_enter Try.func34, Try.ntmps34
    go_wp2_with (go_at_call 53; refine (ct _ Lime.stp_).mono ?_; rintro e w1 ⟨rfl, hb1⟩)
    go_ret
    exact ⟨ret_bool (by rw [ho.1, ho.2]; rfl), by (exact Lime.stp_)⟩
  · have HR := Lib.hid (show (mayT t && isN t n) = false by rw [← Bool.not_eq_true]; simpa using ho)
    rw [topR_none ho] at ct
    clear ho
    go_enter Try.func34, Try.ntmps34
    go_wp2_with (go_at_call 53; refine (ct _ Lime.stp_).mono ?_; rintro e w1 ⟨rfl, hb1⟩)
    go_ret
    exact ⟨ret_bool (by rw [HR.out]), by (exact Lime.stp_)⟩
/-- A row that is read: of the tree's blocks, or new ones. -/
def ReadRet (xs : List Int) (S : Nat → Prop) (w : World) (e : Ending) (w' : World) : Prop := ∃ u, e = .returned u ∧ Row intK (fun b => S b ∨ w.heap.size ≤ b) w' u xs ∧ Stp w w'
set_option maxHeartbeats 2000000 in
theorem fkids_r {S : Nat → Prop} {w : World} {v : Value} {t : List Nd} (hr : Row nodeK S w v t) (hks : KidsOk t) (M : May t) {n : Int} (hn : isN t n = true) :
    Calls Try.prog 36 #[v, .int .i64 n] w (ReadRet (kidsF t n) S w) := by
  have cas := fun W (hW : Stp w W) => slasg_r (hr.stp hW) hks n
  rw [show asgR t n = asgT t n from if_pos ⟨May.iff.2 M, hn⟩] at cas
  have HR := Lib.hid (show kidsF t n = if (nd t n).kind = 3 then [] else if (nd t n).root ≠ -1 then (nd t (nd t n).root).kids else if asgT t n ≠ [] then asgT t n else (nd t n).kids from rfl)
  have hroot := fun (h : (nd t n).root ≠ -1) => (M.root hn rfl h).2.1
  obtain ⟨A, c, rfl, hc, hm⟩ := hr.form
  obtain ⟨k, rfl, hkt⟩ := isN_nat hn
  obtain ⟨b, o, rfl, hS, hb, hN⟩ := tree_base hr (by omega)
  obtain ⟨Ak, ck, Aa, ca, N⟩ := hN k hkt
  have x0 := N.c0
  have x1 := N.c1
  have x2 := N.c2
  have x3 := N.c3
  have x4 := N.c4
  have x5 := N.c5
  have x6 := N.c6
  have hkz : (k : Int) < (t.length : Int) := by omega
  rw [nd_nat hkt] at HR hroot
  have hrk := N.kids
  have hN2 := Lib.hid hN
  generalize t[k] = x at *
  clear N hN
  by_cases hk3 : x.kind = 3
  · have HX := Lib.hid (show kidsF t k = [] by rw [HR.out, if_pos hk3])
    rw [hk3] at x0
    clear HR hk3
    go_enter Try.func36, Try.ntmps36
    go_wp2
    go_ret
    exact ⟨_, rfl, by rw [HX.out]; exact Row.nil _ _ _, by (exact Lime.stp_)⟩
  have hk3z : (x.kind == 3) = false := by simpa using hk3
  have HX := Lib.hid (show kidsF t k = if x.root ≠ -1 then (nd t x.root).kids else if asgT t k ≠ [] then asgT t k else x.kids by rw [HR.out, if_neg hk3])
  clear HR hk3
  by_cases hr1 : x.root = -1
  · have hr1z : (x.root != -1) = false := by simpa using hr1
    have HX2 := Lib.hid (show kidsF t k = if asgT t k ≠ [] then asgT t k else x.kids by rw [HX.out, if_neg (by simpa using hr1)])
    have hrk2 := hrk
    generalize asgT t k = as_ at cas HX2
    generalize x.kids = ks at x3 hrk HX2 hrk2
    generalize x.kind = q0 at x0 hk3z
    generalize x.root = q5 at x5 hr1z
    clear HX hr1 hroot
    by_cases he : as_ = []
    · subst he
      have HX3 := Lib.hid (show kidsF t k = ks by rw [HX2.out]; simp)
      clear HX2
      go_enter Try.func36, Try.ntmps36
      go_wp2_with (go_at_call 54; go_loud (refine (cas _ Lime.stp_).mono ?_; rintro e w1 ⟨u, rfl, ho, hb1⟩; obtain ⟨A1, c1, rfl, hc1, hm1⟩ := ho.reads.form); have g3 := hb1.cell (box_at w _ _ 3 _ rfl))
      go_ret
      exact ⟨_, rfl, by rw [HX3.out]; exact (hrk.mono fun b hb => .inl hb).stp Lime.stp_, by (exact Lime.stp_)⟩
    · have HX3 := Lib.hid (show kidsF t k = as_ by rw [HX2.out, if_pos he])
      have hl0 : 0 < as_.length := List.length_pos_iff.2 he
      have hl0z : (0 : Int) < (as_.length : Int) := by omega
      clear HX2 he
      go_enter Try.func36, Try.ntmps36
      go_wp2_with (go_at_call 54; go_loud (refine (cas _ Lime.stp_).mono ?_; rintro e w1 ⟨u, rfl, ho, hb1⟩; obtain ⟨A1, c1, rfl, hc1, hm1⟩ := ho.reads.form); have ho2 := Lib.hid ho; clear ho)
      go_ret
      exact ⟨_, rfl, by rw [HX3.out]; exact ho2.out.reads.mono fun b hb => .inr (Nat.le_trans (Stp.size Lime.stp_) hb), by (exact Lime.stp_)⟩
  · have hr1z : (x.root != -1) = true := by simpa using hr1
    have hrN := hroot hr1
    have HX2 := Lib.hid (show kidsF t k = (nd t x.root).kids by rw [HX.out, if_pos hr1])
    obtain ⟨j, hj, hjt⟩ := isN_nat hrN
    rw [hj] at x5 HX2 hr1z
    obtain ⟨Ak2, ck2, Aa2, ca2, N2⟩ := hN2.out j hjt
    rw [nd_nat hjt] at HX2
    have y3 := N2.c3
    have hrk2 := N2.kids
    have hjz : (j : Int) < (t.length : Int) := by omega
    generalize t[j].kids = ks at y3 hrk2 HX2
    generalize x.kind = q0 at x0 hk3z
    clear HX hr1 hroot N2 hj hrN
    go_enter Try.func36, Try.ntmps36
    go_wp2
    go_ret
    exact ⟨_, rfl, by rw [HX2.out]; exact (hrk2.mono fun b hb => .inl hb).stp Lime.stp_, by (exact Lime.stp_)⟩
set_option maxHeartbeats 1000000 in
theorem fover_r {S : Nat → Prop} {w : World} {v : Value} {t : List Nd} (hr : Row nodeK S w v t) (hks : KidsOk t) (M : May t) {n : Int} (hn : isN t n = true) :
    Calls Try.prog 37 #[v, .int .i64 n] w fun e w' => e = .returned (.int .i64 (overF t n)) ∧ Stp w w' := by
  have ch := fun W (hW : Stp w W) => host_r (hr.stp hW) hks n
  rw [show hostR t n = hostT t n from if_pos ⟨May.iff.2 M, hn⟩] at ch
  have co := fun W (hW : Stp w W) => slof_r (hr.stp hW) hks n
  rw [show ofR t n = ofT t n from if_pos ⟨May.iff.2 M, hn⟩] at co
  have HR := Lib.hid (show overF t n = if parN t n = -1 then -1 else if (nd t (parN t n)).kind = 3 then hostT t n else if (nd t (parN t n)).root ≠ -1 then ofT t n else parN t n from rfl)
  have hp := M.parN_or hn
  obtain ⟨A, c, rfl, hc, hm⟩ := hr.form
  obtain ⟨k, rfl, hkt⟩ := isN_nat hn
  obtain ⟨b, o, rfl, hS, hb, hN⟩ := tree_base hr (by omega)
  obtain ⟨Ak, ck, Aa, ca, N⟩ := hN k hkt
  have x0 := N.c0
  have x1 := N.c1
  have x2 := N.c2
  have x3 := N.c3
  have x4 := N.c4
  have x5 := N.c5
  have x6 := N.c6
  have hkz : (k : Int) < (t.length : Int) := by omega
  have hpe : t[k].parent = parN t k := by rw [parN, nd_nat hkt]
  rw [hpe] at x2
  clear N hpe x0 x1 x3 x4 x5 x6
  generalize hostT t k = h at ch HR
  generalize ofT t k = f at co HR
  generalize parN t k = p at x2 hp HR
  rcases hp with rfl | hp
  · have HX := Lib.hid (show overF t k = -1 by rw [HR.out]; rfl)
    clear HR
    go_enter Try.func37, Try.ntmps37
    go_wp2
    go_ret
    exact ⟨ret_int (by rw [HX.out]), by (exact Lime.stp_)⟩
  obtain ⟨j, rfl, hjt⟩ := isN_nat hp
  obtain ⟨Ak2, ck2, Aa2, ca2, N2⟩ := hN j hjt
  rw [nd_nat hjt, if_neg (by omega)] at HR
  have y0 := N2.c0
  have y5 := N2.c5
  have hjz : (j : Int) < (t.length : Int) := by omega
  have hjn : ((j : Int) == -1) = false := by simp
  generalize t[j].kind = q0 at y0 HR
  generalize t[j].root = q5 at y5 HR
  clear N2 hN hp
  by_cases h3 : q0 = 3
  · have HX := Lib.hid (show overF t k = h by rw [HR.out, if_pos h3])
    subst h3
    clear HR
    go_enter Try.func37, Try.ntmps37
    go_wp2_with (go_at_call 55; refine (ch _ Lime.stp_).mono ?_; rintro e w1 ⟨rfl, hb1⟩)
    go_ret
    exact ⟨ret_int (by rw [HX.out]), by (exact Lime.stp_)⟩
  have h3z : (q0 == 3) = false := by simpa using h3
  have HX := Lib.hid (show overF t k = if q5 ≠ -1 then f else j by rw [HR.out, if_neg h3])
  clear HR h3
  by_cases h5 : q5 = -1
  · have HX2 := Lib.hid (show overF t k = j by rw [HX.out, if_neg (by simpa using h5)])
    subst h5
    clear HX
    go_enter Try.func37, Try.ntmps37
    go_wp2
    go_ret
    exact ⟨ret_int (by rw [HX2.out]), by (exact Lime.stp_)⟩
  · have HX2 := Lib.hid (show overF t k = f by rw [HX.out, if_pos h5])
    have h5z : (q5 != -1) = true := by simpa using h5
    clear HX h5
    go_enter Try.func37, Try.ntmps37
    go_wp2_with (go_at_call 56; refine (co _ Lime.stp_).mono ?_; rintro e w1 ⟨rfl, hb1⟩)
    go_ret
    exact ⟨ret_int (by rw [HX2.out]), by (exact Lime.stp_)⟩
set_option maxHeartbeats 1000000 in
theorem fpar_r {S : Nat → Prop} {w : World} {v : Value} {t : List Nd} (hr : Row nodeK S w v t) (hks : KidsOk t) (n : Int) :
    Calls Try.prog 14 #[v, .int .i64 n] w fun e w' => e = .returned (.int .i64 (parFR t n)) ∧ Stp w w' := by
  have ci := fun W (hW : Stp w W) => flis_r (hr.stp hW) hks n
  by_cases ho : mayT t = true ∧ isN t n = true
  · have M := May.of ho.1
    have HR := Lib.hid (show parFR t n = if overF t n ≠ -1 ∧ n ∈ kidsF t (overF t n) then overF t n else -1 by rw [parFR, if_pos ho]; rfl)
    have co := fun W (hW : Stp w W) => fover_r (hr.stp hW) hks M ho.2
    have hov := (M.overF_or ho.2).imp id And.left
    rw [ho.1, ho.2] at ci
    obtain ⟨A, c, rfl, hc, hm⟩ := hr.form
    by_cases hv : overF t n = -1
    · have HX := Lib.hid (show parFR t n = -1 by rw [HR.out, if_neg (fun h => h.1 hv)])
      rw [hv] at co
      clear HR hv ho hov
      go_enter Try.func14, Try.ntmps14
      go_wp2_with (first | (go_at_call 34; refine (ci _ Lime.stp_).mono ?_; rintro e w1 ⟨rfl, hb1⟩) | (go_at_call 37; refine (co _ Lime.stp_).mono ?_; rintro e w2 ⟨rfl, hb2⟩))
      go_ret
      exact ⟨ret_int (by rw [HX.out]), by (exact Lime.stp_)⟩
    · have hvN := hov.resolve_left hv
      have ck := fun W (hW : Stp w W) => fkids_r (hr.stp hW) hks M hvN
      have HX := Lib.hid (show parFR t n = if n ∈ kidsF t (overF t n) then overF t n else -1 by
        rw [HR.out]
        by_cases hm : n ∈ kidsF t (overF t n)
        · rw [if_pos ⟨hv, hm⟩, if_pos hm]
        · rw [if_neg (fun h => hm h.2), if_neg hm])
      obtain ⟨j, hj, hjt⟩ := isN_nat hvN
      rw [hj] at co ck HX
      have hjn : ((j : Int) != -1) = true := by simp
      generalize kidsF t j = ks at ck HX
      clear HR hv ho hov hvN hj
      have hcont : ks.any (· == n) = decide (n ∈ ks) := by
        rw [Bool.eq_iff_iff, List.any_eq_true, decide_eq_true_eq]
        exact ⟨fun ⟨y, hy, he⟩ => by rw [eq_of_beq he] at hy; exact hy, fun h => ⟨n, h, beq_self_eq_true _⟩⟩
      have hcont2 := Lib.hid hcont
      clear hcont
      by_cases hmem : n ∈ ks
      · have HY := Lib.hid (show parFR t n = j by rw [HX.out, if_pos hmem])
        have hc3 := Lib.hid (show ks.any (· == n) = true by rw [hcont2.out]; simpa using hmem)
        clear HX hmem hcont2
        go_enter Try.func14, Try.ntmps14
        go_wp2_with (first | (go_at_call 34; refine (ci _ Lime.stp_).mono ?_; rintro e w1 ⟨rfl, hb1⟩) | (go_at_call 37; refine (co _ Lime.stp_).mono ?_; rintro e w2 ⟨rfl, hb2⟩) | (go_at_call 36; refine (ck _ Lime.stp_).mono ?_; rintro e w3 ⟨u, rfl, hu, hb3⟩; have cc := contains_c hu n; rw [hc3.out] at cc; obtain ⟨A3, c3, rfl, _⟩ := hu.form; clear hu) | (go_at_call 33; refine cc.mono ?_; rintro e w4 ⟨rfl, hb4⟩))
        go_ret
        exact ⟨ret_int (by rw [HY.out]), by (exact Lime.stp_)⟩
      · have HY := Lib.hid (show parFR t n = -1 by rw [HX.out, if_neg hmem])
        have hc3 := Lib.hid (show ks.any (· == n) = false by rw [hcont2.out]; simpa using hmem)
        clear HX hmem hcont2
        go_enter Try.func14, Try.ntmps14
        go_wp2_with (first | (go_at_call 34; refine (ci _ Lime.stp_).mono ?_; rintro e w1 ⟨rfl, hb1⟩) | (go_at_call 37; refine (co _ Lime.stp_).mono ?_; rintro e w2 ⟨rfl, hb2⟩) | (go_at_call 36; refine (ck _ Lime.stp_).mono ?_; rintro e w3 ⟨u, rfl, hu, hb3⟩; have cc := contains_c hu n; rw [hc3.out] at cc; obtain ⟨A3, c3, rfl, _⟩ := hu.form; clear hu) | (go_at_call 33; refine cc.mono ?_; rintro e w4 ⟨rfl, hb4⟩))
        go_ret
        exact ⟨ret_int (by rw [HY.out]), by (exact Lime.stp_)⟩
  · have HR := Lib.hid (show parFR t n = -1 from if_neg ho)
    have hf : (mayT t && isN t n) = false := by rw [← Bool.not_eq_true]; simpa using ho
    rw [hf] at ci
    obtain ⟨A, c, rfl, hc, hm⟩ := hr.form
    clear ho hf
    go_enter Try.func14, Try.ntmps14
    go_wp2_with (go_at_call 34; refine (ci _ Lime.stp_).mono ?_; rintro e w1 ⟨rfl, hb1⟩)
    go_ret
    exact ⟨ret_int (by rw [HR.out]), by (exact Lime.stp_)⟩
theorem kidsF_len {t : List Nd} (M : May t) {n : Int} (hn : isN t n = true) : (kidsF t n).length ≤ 64 := by
  have h1 := nodup_isN (M.kidsF_nodup hn) (fun x hx => ((M.mem_kidsF hn).1 hx).1)
  have := M.len2; omega
theorem fkidsC_r {S : Nat → Prop} {w : World} {v : Value} {t : List Nd} (hr : Row nodeK S w v t) (hks : KidsOk t) (n : Int) :
    Calls Try.prog 13 #[v, .int .i64 n] w fun e w' => ∃ u, e = .returned u ∧ Own intK 3 (fun b => w.heap.size ≤ b) w' u (kidsFR t n) ∧ Stp w w' := by
  have ci := fun W (hW : Stp w W) => flis_r (hr.stp hW) hks n
  by_cases ho : mayT t = true ∧ isN t n = true
  · have M := May.of ho.1
    have HR := Lib.hid (show kidsFR t n = kidsF t n from if_pos ho)
    have ck := fun W (hW : Stp w W) => fkids_r (hr.stp hW) hks M ho.2
    have hkl := kidsF_len M ho.2
    rw [ho.1, ho.2] at ci
    obtain ⟨A, c, rfl, hc, hm⟩ := hr.form
    generalize kidsF t n = ks at ck HR hkl
    clear ho
    go_enter Try.func13, Try.ntmps13
    go_wp2_with (first | (go_at_call 34; refine (ci _ Lime.stp_).mono ?_; rintro e w1 ⟨rfl, hb1⟩) | (go_at_call 36; refine (ck _ Lime.stp_).mono ?_; rintro e w3 ⟨u, rfl, hu, hb3⟩; have cc := cloneI_c hu (by omega); obtain ⟨A3, c3, rfl, _⟩ := hu.form; clear hu) | (go_at_call 35; refine cc.mono ?_; rintro e w4 ⟨u4, rfl, ho4, hb4⟩; have ho5 := Lib.hid ho4; clear ho4))
    go_ret
    exact ⟨_, rfl, by rw [HR.out]; exact ho5.out.mono fun k hk _ => Nat.le_trans (Stp.size Lime.stp_) hk, by (exact Lime.stp_)⟩
  · have HR := Lib.hid (show kidsFR t n = [] from if_neg ho)
    have hf : (mayT t && isN t n) = false := by rw [← Bool.not_eq_true]; simpa using ho
    rw [hf] at ci
    obtain ⟨A, c, rfl, hc, hm⟩ := hr.form
    clear ho hf
    go_enter Try.func13, Try.ntmps13
    go_wp2_with (go_at_call 34; refine (ci _ Lime.stp_).mono ?_; rintro e w1 ⟨rfl, hb1⟩)
    go_ret
    exact ⟨_, rfl, by rw [HR.out]; exact Own.nil _ _ _ _, by (exact Lime.stp_)⟩
end Go.Proofs.Lime
namespace Go.Proofs.Lime
open Go.RowKit
set_option linter.unusedVariables false
set_option linter.unusedSimpArgs false
attribute [local go_sem] Oper.semAt_some

theorem fup_c (w : World) (A : Option Addr) (m c : Nat) (n : Int) : Calls Try.prog 39 #[.slice A m c, .int .i64 n] w fun e w' => e = .returned (.func (.func 58) #[] #[.pointer (some ⟨w.heap.size + 1, 0, none⟩), .pointer (some ⟨w.heap.size, 0, none⟩)]) ∧ w' = (w.alloc (.cells #[.slice A m c] 23)).alloc (.cells #[.int .i64 n] 3) := by
  go_enter Try.func39, Try.ntmps39
  go_wp2
  go_ret
  exact ⟨rfl, rfl⟩
set_option maxRecDepth 100000 in
set_option maxHeartbeats 2000000 in
theorem fup1_it {S : Nat → Prop} {w : World} {A : Option Addr} {c : Nat} {t : List Nd} (hr : Row nodeK S w (.slice A t.length c) t) (hks : KidsOk t) (M : May t) {n : Nat} (hn : n < t.length) {BT BN : Nat}
    (h1 : w.cell? ⟨BT, 0, none⟩ = some (.slice A t.length c)) (h2 : Boxed w BN 3 (.int .i64 n)) (hne : BT ≠ BN) (hS : ∀ b, S b → b ≠ BN) :
    Iter Try.prog 58 #[.pointer (some ⟨BN, 0, none⟩), .pointer (some ⟨BT, 0, none⟩)] (fun x : Int => #[.int .i64 x]) (· = BN) (fun b => S b ∨ b = BT) (upsF t n) w := by
  intro l J Jx O W hk hO hJ hJx hY h0
  have hOT : ¬ O BT := fun h => (hO BT h).2 (World.block_lt_of_cell? w _ h1) (.inr rfl)
  have hON : ¬ O BN := fun h => (hO BN h).1 rfl
  have hrW := hr.bound.kpt hk (fun x hx hl h => (hO x h).2 hx.2 (.inl hx.1))
  have hOS : ∀ x, S x ∧ x < w.heap.size → x < W.heap.size → ¬ (O x ∨ x = BN) := fun x hx hlt h => h.elim (fun h => (hO x h).2 hx.2 (.inl hx.1)) (hS x hx.1)
  have cT := hk.cell (p := ⟨BT, 0, none⟩) hOT h1
  have bN : Boxed W BN 3 (.int .i64 n) := (hk.block BN h2.lt hON).trans h2
  have hBW := bN.lt
  clear hr h1 h2
  have hxl : (upsF t n).length ≤ t.length := Nat.le_trans (M.flat.up_le (isN_of hn)) (M.flat.bound _ (isN_of hn))
  refine callsIn_of_wp Try.func58 rfl trivial ?_ rfl; simp only [Try.ntmps58, List.size_toArray, List.length_cons, List.length_nil, Nat.reduceAdd, Nat.reduceSub, Array.replicate_succ, Array.replicate_zero, List.push_toArray, List.append_toArray, List.nil_append, List.cons_append]
  have U0 := Lib.hid (show UpSt (fun m => isN t m = true) (parF t) (upsF t n) (t.length + 1) BN O J W 0 n O W from ⟨Nat.zero_le _, .inr (isN_of hn), rfl, Kpt.refl _ _, fun b hb => .inl hb, h0, bN⟩)
  generalize hxs : upsF t n = xs at hY U0 hxl
  have HX := Lib.hid hxs
  clear hxs h0 bN
  gi_wp2
  gi_loopw [] (fun wr => ∃ (k : Nat) (m : Int) (O' : Nat → Prop), Aside (UpSt (fun m => isN t m = true) (parF t) xs (t.length + 1) BN O J W k m O' wr)) (fun wr => (chainIn (parF t) (t.length + 1) (intOf ((wr.cell? ⟨BN, 0, none⟩).getD undef))).length)
  case atStart => exact ⟨0, n, O, U0⟩
  case round =>
    obtain ⟨k, m, O', U⟩ := hrel
    have cT' := U.out.kp.cell (p := ⟨BT, 0, none⟩) (fun h => h.elim hOT hne) cT
    have cN' := U.out.box.cell
    by_cases hm1 : m = -1
    · subst hm1
      gi_wp2
      refine ⟨fun _ h => (by cases h), ?_⟩
      gi_wp2
      refine bodyPost_end (results_none rfl _ _ _) rfl ?_
      exact ⟨⟨_, rfl⟩, O', .inl U.out.over⟩
    · have hkF : k < t.length + 1 := by have := U.out.le; omega
      have hmN := U.out.cur.resolve_left hm1
      obtain ⟨hkx, hxk, _⟩ := U.out.next hm1 hkF
      have hY1 := hY k hkx O' wr U.out.inv
      rw [hxk] at hY1
      obtain ⟨fn, tmps, assign, body, hy, hR⟩ := hY1
      have hne1 : (m != -1) = true := by simpa using hm1
      gi_wp2
      refine ⟨rfl, hR.mono ?_⟩
      rintro e W3 ⟨O3, h3, hk3, (⟨rfl, hj3⟩ | ⟨rfl, hj3⟩)⟩
      · have hk3' : Kpt (fun b => O b ∨ b = BN) W W3 := U.out.kp.trans hk3 fun x hx => (U.out.sub x hx).imp .inl id
        have cT3 := hk3'.cell (p := ⟨BT, 0, none⟩) (fun h => h.elim hOT hne) cT
        have hnN : ¬ O' BN := fun h => (U.out.sub BN h).elim hON (fun h => by omega)
        have bN3 := Boxed.keep U.out.box hk3 hnN
        have cN3 := Boxed.cell bN3
        have hr3 := hrW.kpt hk3' hOS
        have cp := fpar_r hr3 hks m
        rw [show parFR t m = parF t m from if_pos ⟨May.iff.2 M, hmN⟩] at cp
        have hpo := (M.parF_or hmN).imp id And.left
        have HM := Lib.hid (show (chainIn (parF t) (t.length + 1) (parF t m)).length < (chainIn (parF t) (t.length + 1) m).length by
          have := M.flat.up_step hmN; rw [this]; simp)
        have HC := Lib.hid cN'
        have hm1' := Lib.hid hm1
        clear hY hy hne1 hxk hm1 cN'
        gi_wp2
        refine ⟨trivial, rfl, (callsIn_wide.2 cp).mono ?_⟩
        rintro e W4 ⟨rfl, hb4⟩
        have hj4 : J (k + 1) O3 W4 := hJ _ _ _ _ hj3 (Kpt.of_stp hb4)
        have hk4 : Kpt O' wr W4 := hk3.trans (Kpt.of_stp (O := fun _ => False) hb4) fun x hx => hx.elim
        have bN4 := Boxed.stp bN3 hb4
        have cN4 := Boxed.cell bN4
        have fN4 := Boxed.frozen bN4
        have U3 := Lib.hid (U.out.go hON hBW hm1'.out hkF hpo h3 hk4 hj4 hJ).2
        generalize parF t m = p at U3 HM
        clear cp hr3 bN4
        gi_wp2
        go_roundw
        case rel => exact ⟨k + 1, p, O3, U3⟩
        case measure =>
          have h5 : (W4.setCell ⟨BN, 0, none⟩ (.int .i64 p)).cell? ⟨BN, 0, none⟩ = some (.int .i64 p) := Boxed.cell U3.out.box
          rw [h5, HC.out]
          exact HM.out
      · gi_wp2
        refine bodyPost_end (results_none rfl _ _ _) rfl ?_
        exact ⟨⟨_, rfl⟩, O3, .inr ⟨_, hj3⟩⟩
set_option maxHeartbeats 1000000 in
theorem fupC_r {S : Nat → Prop} {w : World} {v : Value} {t : List Nd} (hr : Row nodeK S w v t) (hks : KidsOk t) (n : Int) :
    Calls Try.prog 15 #[v, .int .i64 n] w fun e w' => ∃ u, e = .returned u ∧ Own intK 3 (fun b => w.heap.size ≤ b) w' u (upsFR t n) ∧ Stp w w' := by
  have hrb := hr.bound
  obtain ⟨A, c, rfl, hc, hm⟩ := hr.form
  have ci := fun W (hW : Stp w W) => flis_r (hr.stp hW) hks n
  by_cases ho : mayT t = true ∧ isN t n = true
  · have M := May.of ho.1
    have hn := ho.2
    have HR := Lib.hid (show upsFR t n = upsF t n from if_pos ho)
    rw [ho.1, ho.2] at ci
    have eg := (enters_of Try.func58 (by kernel_rfl) rfl)
    clear ho
    go_enter Try.func15, Try.ntmps15
    go_wp2_with (first | (go_at_call 34; refine (ci _ Lime.stp_).mono ?_; rintro e w1 ⟨rfl, hb1⟩) | (go_at_call 39; refine (fup_c _ _ _ _ _).mono ?_; rintro e w' ⟨rfl, rfl⟩))
    obtain ⟨w2, hw2, hs2, hz2, bT, bN⟩ := two_boxes w1 23 3 (.slice A t.length c) (.int .i64 n)
    rw [hw2]
    clear hw2
    have hst : Stp w w2 := by (exact Lime.stp_)
    have hszw := hst.size
    have hsz1 : w.heap.size ≤ w1.heap.size := Stp.size Lime.stp_
    obtain ⟨j, rfl, hj⟩ := isN_nat hn
    have hit := fup1_it (hrb.stp hst) hks M hj (Boxed.cell bT) bN (by omega) (fun b hb => by have := hb.2; omega)
    have hle : (upsF t j).length ≤ t.length := Nat.le_trans (M.flat.up_le hn) (M.flat.bound _ hn)
    have hl2 := M.len2
    generalize hxs : upsF t j = xs at HR hit hle
    have HX := Lib.hid hxs
    clear hxs
    refine (collect_c eg hit (fun _ h => by omega) (fun b hb => hb.elim (fun h => by have := h.2; omega) (fun h => by omega)) (by omega)).mono ?_
    rintro e w3 ⟨u, rfl, ho, hk⟩
    have hs3 : Stp w w3 := ((Kpt.of_stp (O := fun b => w.heap.size ≤ b) hst).trans hk fun x hx => .inl (by omega)).stp fun _ h => h
    have ho2 := Lib.hid (ho.mono (S' := fun b => w.heap.size ≤ b) fun k hk _ => by omega)
    clear ho hit
    go_wp2
    go_ret
    exact ⟨_, rfl, by rw [HR.out]; exact ho2, hs3⟩
  · have HR := Lib.hid (show upsFR t n = [] from if_neg ho)
    have hf : (mayT t && isN t n) = false := by rw [← Bool.not_eq_true]; simpa using ho
    rw [hf] at ci
    clear ho hf
    go_enter Try.func15, Try.ntmps15
    go_wp2_with (go_at_call 34; refine (ci _ Lime.stp_).mono ?_; rintro e w1 ⟨rfl, hb1⟩)
    go_ret
    exact ⟨_, rfl, by rw [HR.out]; exact Own.nil _ _ _ _, by (exact Lime.stp_)⟩
def aboveFR (t : List Nd) (a b : Int) : Bool := decide (a ∈ upsFR t b)
theorem fabove_r {S : Nat → Prop} {w : World} {v : Value} {t : List Nd} (hr : Row nodeK S w v t) (hks : KidsOk t) (a b : Int) :
    Calls Try.prog 12 #[v, .int .i64 a, .int .i64 b] w fun e w' => e = .returned (.bool (aboveFR t a b)) ∧ Stp w w' := by
  have cu := fupC_r hr hks b
  obtain ⟨A, c, rfl, hc, hm⟩ := hr.form
  have HR := Lib.hid (show (upsFR t b).any (· == a) = aboveFR t a b by
    unfold aboveFR
    rw [Bool.eq_iff_iff, List.any_eq_true, decide_eq_true_eq]
    exact ⟨fun ⟨y, hy, he⟩ => by rw [eq_of_beq he] at hy; exact hy, fun h => ⟨a, h, beq_self_eq_true _⟩⟩)
  generalize aboveFR t a b = bb at HR ⊢
  generalize upsFR t b = us at cu HR
  go_enter Try.func12, Try.ntmps12
  go_wp2_with (first | (go_at_call 15; refine cu.mono ?_; rintro e w1 ⟨u, rfl, ho, hb1⟩; have cc := contains_c ho.reads a; rw [HR.out] at cc; obtain ⟨A1, c1, rfl, _⟩ := ho.reads.form; clear ho) | (go_at_call 33; refine cc.mono ?_; rintro e w2 ⟨rfl, hb2⟩))
  go_ret
  exact ⟨rfl, by (exact Lime.stp_)⟩
theorem fhas_r {S : Nat → Prop} {w : World} {v : Value} {t : List Nd} (hr : Row nodeK S w v t) (hks : KidsOk t) (b : Int) :
    Calls Try.prog 16 #[v, .int .i64 b] w fun e w' => e = .returned (.bool (aboveFR t 0 b)) ∧ Stp w w' := by
  have cu := fabove_r hr hks 0 b
  obtain ⟨A, c, rfl, hc, hm⟩ := hr.form
  generalize aboveFR t 0 b = bb at cu ⊢
  go_enter Try.func16, Try.ntmps16
  go_wp2_with (go_at_call 12; refine cu.mono ?_; rintro e w1 ⟨rfl, hb1⟩)
  go_ret
  exact ⟨rfl, by (exact Lime.stp_)⟩
end Go.Proofs.Lime
namespace Go.Proofs.Lime
open Go.RowKit
set_option linter.unusedVariables false
set_option linter.unusedSimpArgs false
attribute [local go_sem] Oper.semAt_some

/-- What is still to be told of a stack of nodes, the last one first. -/
def restF (t : List Nd) (st : List Int) : List Int := st.reverse.flatMap (listF t)
theorem restF_nil (t : List Nd) : restF t [] = [] := rfl
theorem restF_pop {t : List Nd} (M : May t) {n : Int} (hn : isN t n = true) (st : List Int) : restF t (st ++ [n]) = n :: restF t (st ++ (kidsF t n).reverse) := by
  unfold restF
  rw [List.reverse_append, List.reverse_append, List.reverse_reverse, List.flatMap_append, List.flatMap_append]
  simp only [List.reverse_cons, List.reverse_nil, List.nil_append, List.flatMap_cons, List.flatMap_nil, List.append_nil]
  rw [show listF t n = n :: (kidsF t n).flatMap (listF t) from M.flat.pre_step hn]
  rfl
theorem restF_len {t : List Nd} (M : May t) : ∀ st : List Int, (∀ x ∈ st, isN t x = true) → st.length ≤ (restF t st).length := by
  intro st h
  have key : ∀ l : List Int, (∀ x ∈ l, isN t x = true) → l.length ≤ (l.flatMap (listF t)).length := by
    intro l
    induction l with
    | nil => intro _; simp
    | cons x l ih =>
      intro h
      rw [List.flatMap_cons, List.length_append, show listF t x = x :: (kidsF t x).flatMap (listF t) from M.flat.pre_step (h x List.mem_cons_self)]
      have := ih fun y hy => h y (List.mem_cons_of_mem _ hy)
      simp only [List.length_cons]
      omega
  have := key st.reverse (fun x hx => h x (List.mem_reverse.1 hx))
  rwa [List.length_reverse] at this
theorem listF_len {t : List Nd} (M : May t) {n : Int} (hn : isN t n = true) : (listF t n).length ≤ t.length := nodup_isN (M.flat.nodup_pre hn) fun x hx => ((M.flat.mem_pre hn).1 hx).1
/-- Marks of ranges that are over: each is taken away. -/
abbrev markOf (D : Nat) : Deferred := { target := .collected D, args := #[] }
theorem leaves_marks {P : Program} {fn : Func} {tmps : Array Value} {R : Ending → World → Prop} : ∀ (Ds : List Nat) (W : World), Ds.Nodup → (∀ D ∈ Ds, W.heap[D]? = some (.deferred (some []))) →
    (∀ W', Kpt (fun b => b ∈ Ds) W W' → ∃ v, (results fn tmps).run P W' = .ok v W' ∧ R (.returned v) W') → LeavesInM Fence.wide 0 P fn tmps R (Ds.map markOf) .returning W
  | [], W, _, _, h => by
    obtain ⟨v, h1, h2⟩ := h W (Kpt.refl _ _)
    exact ⟨v, h1, h2⟩
  | D :: Ds, W, hd, hD, h => by
    obtain ⟨h1, h2⟩ := List.nodup_cons.1 hd
    refine ⟨by simp, .inl ⟨D, _, rfl, run_takeDeferred (hD D List.mem_cons_self), leaves_marks Ds _ h2 (fun E hE => ?_) fun W' hk => ?_⟩⟩
    · rw [World.putObj_heap_other (by rintro rfl; exact h1 hE)]
      exact hD E (List.mem_cons_of_mem _ hE)
    · refine h W' ((Kpt.put (O := fun b => b ∈ D :: Ds) W _ List.mem_cons_self).trans hk fun x hx => .inl (List.mem_cons_of_mem _ hx))
theorem own_no_mark {w : World} {v : Value} {e : TypeId} {n : Nat} {ys : List Value} {k : Nat} {x : Option (List Deferred)} (h : w.ownsRow 0 e 1 v n ys) (hk : v.ownBlock = some k) (hm : w.heap[k]? = some (.deferred x)) : False := by
  rcases h.2 with ⟨rfl, _⟩ | ⟨g, cap, cur, rfl, _, hh, _⟩
  · simp [Value.ownBlock] at hk
  · have : g = k := by simpa [Value.ownBlock] using hk
    subst this
    rw [hh] at hm
    cases hm
theorem hst0_alloc {w : World} {v : Value} {e : TypeId} {n : Nat} {ys : List Value} (h : w.ownsRow 0 e 1 v n ys) (o : Obj) : (w.alloc o).ownsRow 0 e 1 v n ys := own_move h fun k hk => Below.heap_alloc _ _ _ (own_lt h k hk)
/-- What is held between two rounds of the inner range: B: the stack's cell; st: the stack when it began; O0: its block. -/
structure LiSt (st ys : List Int) (B : Nat) (O0 : Nat → Prop) (w : World) (k : Nat) (O : Nat → Prop) (W : World) : Prop where mk ::
  ob : O B
  new : ∀ b, O b → b = B ∨ O0 b ∨ w.heap.size ≤ b
  kp : Kpt (fun b => b = B ∨ O0 b) w W
  own : ∃ v, Boxed W B 27 v ∧ Own intK 3 (fun b => O b ∧ b ≠ B) W v (st ++ ys.take k)
theorem liSt_abide (st ys : List Int) (B : Nat) (O0 : Nat → Prop) (w : World) : Abide (fun _ => False) w.heap.size (LiSt st ys B O0 w) := by
  intro k O A W h hk
  obtain ⟨h1, h2, h3, v, h4, h5⟩ := h
  exact ⟨h1, h2, h3.trans hk (fun x hx => .inr (hx.2.resolve_left id)), v, Boxed.keep h4 hk (fun h => h.1 h1), h5.kpt hk (fun x hx _ h => h.1 hx.1)⟩
/-- What the walk of the flat tree holds at the head of its loop. -/
structure FlSt (t : List Nd) (w : World) (B : Nat) (vl : Value) (Ds : List Nat) (g : Nat) (W : World) : Prop where mk ::
  stp : Stp w W
  hB : w.heap.size ≤ B
  rest : ∃ acc st vs, Boxed W B 27 vs ∧ W.ownsRow 0 3 1 vl acc.length (acc.map (Value.int .i64)) ∧ W.ownsRow 0 3 1 vs st.length (st.map (Value.int .i64)) ∧
    (∀ b, vl.ownBlock = some b → w.heap.size ≤ b ∧ b ≠ B ∧ vs.ownBlock ≠ some b) ∧ (∀ b, vs.ownBlock = some b → w.heap.size ≤ b ∧ b ≠ B) ∧
    acc ++ restF t st = listF t 0 ∧ (∀ x ∈ st, isN t x = true) ∧ (restF t st).length ≤ g
  marks : Ds.Nodup ∧ ∀ D ∈ Ds, w.heap.size ≤ D ∧ W.heap[D]? = some (.deferred (some []))
def FlJ (t : List Nd) (w : World) (A : Option Addr) (c : Nat) (g : Nat) (a : Act) (W : World) : Prop :=
  ∃ (B : Nat) (Ds : List Nat) (vl u5 u7 u11 u12 u13 u14 u15 u16 u17 u18 u19 u20 u21 u22 u23 u24 u25 u26 u27 u28 u29 u30 u31 u32 u33 u34 u35 u36 u37 u38 u39 u40 u41 : Value), a = { tmps := #[.slice A t.length c, undef, .slice none 0 0, vl, .pointer (some ⟨B, 0, none⟩), u5, undef, u7, .slice A t.length c, .bool true, .bool false, u11, u12, u13, u14, u15, u16, u17, u18, u19, u20, u21, u22, u23, u24, u25, u26, u27, u28, u29, u30, u31, u32, u33, u34, u35, u36, u37, u38, u39, u40, u41], defers := Ds.map markOf } ∧ Aside (FlSt t w B vl Ds g W)
set_option maxRecDepth 100000 in
set_option maxHeartbeats 4000000 in
theorem flist_r {S : Nat → Prop} {w : World} {v : Value} {t : List Nd} (hr : Row nodeK S w v t) (hks : KidsOk t) :
    Calls Try.prog 24 #[v] w fun e w' => ∃ u, e = .returned u ∧ Own intK 3 (fun b => w.heap.size ≤ b) w' u (listFR t) ∧ Stp w w' := by
  have hrb := hr.bound
  have ci := fun W (hW : Stp w W) => flis_r (hr.stp hW) hks 0
  by_cases hm1 : mayT t = true
  · have M := May.of hm1
    have h0N := M.par_0.1
    have HR := Lib.hid (show listFR t = listF t 0 from if_pos hm1)
    rw [hm1, h0N] at ci
    have hll := listF_len M h0N
    have h64 := M.len2
    have eg := (enters_of Try.func64 (by kernel_rfl) rfl)
    have hm2 := Lib.hid hm1
    obtain ⟨A, c, rfl, hc, hm⟩ := hr.form
    clear hm1
    refine (callsIn_wide (n := 0)).1 (callsIn_of_wp_marks Try.func24 rfl trivial (wpIn_wide.2 ?_) rfl); simp only [Try.ntmps24, List.size_toArray, List.length_cons, List.length_nil, Nat.reduceAdd, Nat.reduceSub, Array.replicate_succ, Array.replicate_zero, List.push_toArray, List.append_toArray, List.nil_append, List.cons_append]
    go_wp2_with (go_at_call 34; refine (ci _ Lime.stp_).mono ?_; rintro e w1 ⟨rfl, hb1⟩)
    refine wp_loop_ghost_k (FlJ t w A c) (listF t 0).length ?_ ?_
    · have hz1 : w.heap.size ≤ w1.heap.size := Stp.size Lime.stp_
      refine ⟨w1.heap.size + 1, [], _, _, _, _, _, _, _, _, _, _, _, _, _, _, _, _, _, _, _, _, _, _, _, _, _, _, _, _, _, _, _, _, _, _, rfl, ⟨(((show Stp w w1 by (exact Lime.stp_)).alloc _).alloc _), by omega, ⟨[], [0], _, ?_, ⟨by simp, .inl ⟨rfl, rfl⟩⟩, ⟨by simp, .inr ⟨w1.heap.size, 1, #[.int .i64 0], rfl, Nat.zero_le _, ?_, by simp, by simp [maxLen], by simp, by simp⟩⟩, fun b hb => by simp [Value.ownBlock] at hb, fun b hb => ?_, ?_, ?_, ?_⟩, List.nodup_nil, fun D hD => by simp at hD⟩⟩
      · have := Boxed.new (w1.alloc (.cells #[.int .i64 0] 3)) 27 (.slice (some ⟨w1.heap.size, 0, none⟩) 1 1)
        rw [World.size_alloc] at this
        exact this
      · exact heap_old (World.alloc_heap_new w1 _)
      · have : w1.heap.size = b := by simpa [Value.ownBlock] using hb
        omega
      · show [] ++ restF t [0] = _
        simp [restF]
      · intro x hx
        rw [List.mem_singleton.1 hx]
        exact h0N
      · simp [restF]
    · rintro g _ W ⟨B, Ds, vl, u5, u7, u11, u12, u13, u14, u15, u16, u17, u18, u19, u20, u21, u22, u23, u24, u25, u26, u27, u28, u29, u30, u31, u32, u33, u34, u35, u36, u37, u38, u39, u40, u41, rfl, hJ⟩ J K hJ2 hK2
      obtain ⟨hstp, hwB, ⟨acc, st, vs, hBx, hvl, hvs, hne1, hne2, hacc, hstN, hg⟩, hDs⟩ := hJ.out
      have hal : acc.length ≤ 64 := by have := congrArg List.length hacc; rw [List.length_append] at this; omega
      have hsl : st.length ≤ 64 := by have := congrArg List.length hacc; rw [List.length_append] at this; have := restF_len M st hstN; omega
      have cB := Boxed.cell hBx
      have fB := Boxed.frozen hBx
      have hvlO := own_of_ints (S := fun _ => True) hvl fun _ _ => trivial
      have hvsO := own_of_ints (S := fun _ => True) hvs fun _ _ => trivial
      have hDs2 := Lib.hid hDs
      clear hDs
      rcases List.eq_nil_or_concat st with rfl | ⟨st, n, hcc⟩
      · obtain ⟨As, cs, rfl, _⟩ := hvsO.reads.form
        obtain ⟨Al, cl, rfl, _⟩ := hvlO.reads.form
        have HA := Lib.hid (show acc = listF t 0 by rw [← hacc, restF_nil, List.append_nil])
        have hvl2 := Lib.hid hvl
        have hne3 := Lib.hid hne1
        have hst2 := Lib.hid hstp
        clear hvl hvs hne1 hne2 hacc hstN hvlO hvsO
        go_wp2
        refine leaves_marks Ds W hDs2.out.1 (fun D hD => (hDs2.out.2 D hD).2) fun W' hk => ⟨_, results_tmp rfl _ _ _, _, rfl, ?_, ?_⟩
        · rw [HR.out, ← HA.out]
          exact own_of_ints (own_move hvl2.out fun k hk' => hk.block k (own_lt hvl2.out k hk') fun hD => own_no_mark hvl2.out hk' (hDs2.out.2 k hD).2) fun k hk' => (hne3.out k hk').1
        · exact ((Kpt.of_stp (O := fun b => w.heap.size ≤ b) hst2.out).trans hk fun x hx => .inl (hDs2.out.2 x hx).1).stp fun _ h => h
      · rw [List.concat_eq_append] at hcc
        subst hcc
        have el : (st ++ [n]).length = st.length + 1 := by simp
        have hnN : isN t n = true := hstN n (by simp)
        have hpop := restF_pop M hnN st
        obtain ⟨hvs1, hvs2⟩ := hvs
        rcases hvs2 with ⟨_, h0⟩ | ⟨gs, cap, cur, rfl, _, hgs, hcap, hcm, hcz, htk⟩
        · omega
        rw [el] at hcap htk hvs1 hsl cB hBx
        rw [Nat.mul_one] at hcz htk
        simp only [maxLen] at hcm
        have hgsw := hne2 gs (by simp [Value.ownBlock])
        have x0 : W.cell? ⟨gs, st.length, none⟩ = some (.int .i64 n) := by
          have h1 : (cur.toList.take (st.length + 1))[st.length]? = some (.int .i64 n) := by rw [htk, List.getElem?_map, List.getElem?_append_right (Nat.le_refl _)]; simp
          rw [List.getElem?_take, if_pos (by omega)] at h1
          simp only [World.cell?, hgs]
          simpa using h1
        have hpre : ∀ W1 : World, W1.heap[gs]? = W.heap[gs]? → W1.ownsRow 0 3 1 (.slice (some ⟨gs, 0, none⟩) st.length cap) st.length (st.map (Value.int .i64)) := fun W1 hW1 => by
          refine ⟨by simp, .inr ⟨gs, cap, cur, rfl, Nat.zero_le _, by rw [hW1]; exact hgs, by omega, by simp only [maxLen]; omega, by omega, ?_⟩⟩
          have h1 := congrArg (List.take st.length) htk
          rw [List.take_take, Nat.min_eq_left (by omega), List.map_append, List.take_append_of_le_length (by simp), List.take_of_length_le (l := st.map (Value.int .i64)) (by simp)] at h1
          rw [Nat.mul_one]
          exact h1
        obtain ⟨W1, hW1⟩ : ∃ W1, W.setCell ⟨B, 0, none⟩ (.slice (some ⟨gs, 0, none⟩) st.length cap) = W1 := ⟨_, rfl⟩
        have hBlt := hBx.lt
        have hW1s : W1.heap.size = W.heap.size := by rw [← hW1]; simp
        have hW1b : ∀ k, k ≠ B → W1.heap[k]? = W.heap[k]? := fun k hk => by rw [← hW1]; exact Below.heap_setCell W ⟨B, 0, none⟩ _ k hk
        have hst1 : Stp w W1 := by rw [← hW1]; exact hstp.setCell hwB _
        have hBx1 : Boxed W1 B 27 (.slice (some ⟨gs, 0, none⟩) st.length cap) := by rw [← hW1]; exact Boxed.set _ hBx
        have hvl1 : W1.ownsRow 0 3 1 vl acc.length (acc.map (Value.int .i64)) := own_move hvl fun k hk => hW1b k (hne1 k hk).2.1
        have hvs1' := hpre W1 (hW1b gs hgsw.2)
        have hne1' : ∀ b, vl.ownBlock = some b → w.heap.size ≤ b ∧ b ≠ B ∧ b ≠ gs := fun b hb => by
          obtain ⟨h1, h2, h3⟩ := hne1 b hb
          exact ⟨h1, h2, fun e => h3 (by rw [e]; simp [Value.ownBlock])⟩
        have hgslt : gs < W.heap.size := (Array.getElem?_eq_some_iff.1 hgs).1
        have HO := Lib.hid (show Own intK 3 (fun b => b ≠ B ∧ b ≠ gs ∧ w.heap.size ≤ b) W1 vl acc from own_of_ints hvl1 fun k hk => ⟨(hne1' k hk).2.1, (hne1' k hk).2.2, (hne1' k hk).1⟩)
        have hW1w := hst1.size
        have ck := fun W' (h : Stp w W') => fkids_r (hrb.stp h) hks M hnN
        have hkl := kidsF_len M hnN
        have hkN : ∀ x ∈ kidsF t n, isN t x = true := fun x hx => ((M.mem_kidsF hnN).1 hx).1
        obtain ⟨Al, cl, rfl, _⟩ := hvlO.reads.form
        have s13 := Lib.hid hW1s
        have s1 := Lib.hid hacc
        have s2 := Lib.hid hstN
        have s3 := Lib.hid hg
        have s4 := Lib.hid hpop
        have s5 := Lib.hid hBx1
        have s6 := Lib.hid hvs1'
        have s7 := Lib.hid hne1'
        have s8 := Lib.hid hW1b
        have s9 := Lib.hid hst1
        have s10 := Lib.hid hstp
        have s11 := Lib.hid hgsw
        have s12 := Lib.hid hkN
        have hzi : (((st.length + 1 : Nat) : Int) - 1) = (st.length : Int) := by omega
        have hzt : (0 : Int) < ((st.length + 1 : Nat) : Int) := by omega
        have hmz : (st.length : Int) ≤ (cap : Int) := by omega
        clear hW1s hacc hstN hg hpop hBx1 hvs1' hne1' hW1b hst1 hstp hgsw hkN hvl hvl1 hvlO hvsO hne1 hne2 hgs htk hcz hpre hBx el hvs1
        go_wp2_with (first | (at_builtin; go_loud (refine wpl_append1 (d := intK) (S := fun b => b ≠ B ∧ b ≠ gs ∧ w.heap.size ≤ b) (T := fun _ => False) rfl (.tmp 26) (.tmp 28) 27 3 _ 8 rfl Try.underlying27 infoInt rfl (by decide) (by decide) (.slice Al acc.length cl) acc n [.int .i64 n] rfl rfl rfl (fun _ h => h.elim) HO.out (fun k hk => by have := s13.out; exact ⟨by omega, by omega, by omega⟩) (by omega) ?_; intro v1 w2 ho2 hg2; have hb2 : Stp w w2 := Stp.grown s9.out hg2 (fun k hk => (s7.out k hk).1); obtain ⟨A1, c1, e1⟩ : ∃ A1 c1, v1 = .slice A1 (acc ++ [n]).length c1 := ho2.reads.slice; subst e1; have ho3 := Lib.hid ho2; have hg3 := Lib.hid hg2; clear ho2 hg2)) | (go_at_call 36; refine (ck _ Lime.stp_).mono ?_; rintro e w3 ⟨u3, rfl, hu3, hb3⟩; obtain ⟨A3, c3, rfl, _⟩ := hu3.form; have hu4 := Lib.hid hu3; clear hu3) | (go_at_call 46; refine (back_c _ _ _ _).mono ?_; rintro e w' ⟨rfl, rfl⟩))
        obtain ⟨w4, hw4, hs4, hz4, bBk⟩ := one_box w3 27 (.slice A3 (kidsF t n).length c3)
        rw [hw4]
        clear hw4 hW1
        have hs13 := s13.out
        have hsz2 : W1.heap.size ≤ w2.heap.size := hg3.out.size
        have hsz3 := hb3.size
        have h24 : Stp w2 w4 := hb3.trans hs4
        have hst4 : Stp w w4 := hb2.trans h24
        have hnB : (Value.slice Al acc.length cl).ownBlock ≠ some B := fun e => (s7.out B e).2.1 rfl
        have hng : (Value.slice Al acc.length cl).ownBlock ≠ some gs := fun e => (s7.out gs e).2.2 rfl
        have hB4 : Boxed w4 B 27 (.slice (some ⟨gs, 0, none⟩) st.length cap) := Boxed.stp (Boxed.grown s5.out hg3.out hnB) h24
        have hvs4 : w4.ownsRow 0 3 1 (.slice (some ⟨gs, 0, none⟩) st.length cap) st.length (st.map (Value.int .i64)) := own_move s6.out fun k hk => by
          obtain rfl : gs = k := by simpa [Value.ownBlock] using hk
          exact (h24.block (by omega)).trans (hg3.out.block gs (by omega) (fun e => hng e.symm))
        have hvl4 := own_ints (ho3.out.stp h24)
        have hvlb := ho3.out.blk
        have hvlt : ∀ k, (Value.slice A1 (acc ++ [n]).length c1).ownBlock = some k → k < w2.heap.size := fun k hk => own_lt (own_ints ho3.out) k hk
        have hmk4 : ∀ D ∈ Ds, w4.heap[D]? = some (.deferred (some [])) := fun D hD => by
          have h1 := (hDs2.out.2 D hD).2
          have hDB : D ≠ B := by
            rintro rfl
            have := World.cell?_of_block (w := W) (a := ⟨D, 0, none⟩) rfl
            simp only [World.cell?, h1] at cB
            cases cB
          have h2 : W1.heap[D]? = some (.deferred (some [])) := (s8.out D hDB).trans h1
          have hl := (Array.getElem?_eq_some_iff.1 h2).1
          have h3 := (hg3.out.block D hl (fun e => own_no_mark (own_ints HO.out) e.symm h2)).trans h2
          exact (h24.block (Array.getElem?_eq_some_iff.1 h3).1).trans h3
        have hku := (hu4.out.bound.stp hs4)
        have hit := back1_it hku (Boxed.cell bBk)
        have hrv : ∀ k (h : k < (backs (kidsF t n)).length), ∃ h2 : k < (kidsF t n).reverse.length, ((backs (kidsF t n))[k]).2 = (kidsF t n).reverse[k] := fun k h => by
          have hl := backs_length (kidsF t n)
          refine ⟨by rw [List.length_reverse]; omega, ?_⟩
          rw [backs_at h (by omega), List.getElem_reverse]
        have hbl := backs_length (kidsF t n)
        have hrl : (kidsF t n).reverse.length = (kidsF t n).length := List.length_reverse
        have s14 := Lib.hid hrv
        have hO0 := Lib.hid (show Own intK 3 (fun b => (b = B ∨ b = gs) ∧ b ≠ B) w4 (.slice (some ⟨gs, 0, none⟩) st.length cap) st from own_of_ints hvs4 fun k hk => (by
          obtain rfl : gs = k := by simpa [Value.ownBlock] using hk
          exact ⟨.inr rfl, s11.out.2⟩))
        clear hrv x0 cB fB hs13
        refine wp_range (gf := 64) rfl eg hit (fun _ => rfl) (fun _ h => h.elim) (fun b => b = B ∨ b = gs) (fun b hb => by have hs13 := s13.out; exact ⟨by omega, id, fun h => by rcases h with ⟨h | h, h'⟩ | h <;> rcases hb with rfl | rfl <;> first | (have := h.2; have := s11.out.1; omega) | omega⟩) (LiSt st (kidsF t n).reverse B (· = gs) w4) (fun _ _ _ _ => False) (liSt_abide _ _ _ _ _) (fun _ _ _ _ _ h _ => h) ?_ (fun p => { tmps := #[.slice A t.length c, undef, .slice none 0 0, .slice A1 (acc.length + 1) c1, .pointer (some ⟨B, 0, none⟩), .int .i64 n, undef, .int .i64 p.2, .slice A t.length c, .bool true, .bool false, u11, .slice (some ⟨gs, 0, none⟩) (st.length + 1) cap, .int .i64 (↑st.length + 1), .bool true, .slice (some ⟨gs, 0, none⟩) (st.length + 1) cap, .slice (some ⟨gs, 0, none⟩) (st.length + 1) cap, .int .i64 (↑st.length + 1), .int .i64 ↑st.length, .pointer (some ⟨gs, st.length, none⟩), .int .i64 n, .slice (some ⟨gs, 0, none⟩) (st.length + 1) cap, .slice (some ⟨gs, 0, none⟩) (st.length + 1) cap, .int .i64 (↑st.length + 1), .int .i64 ↑st.length, .slice (some ⟨gs, 0, none⟩) st.length cap, .slice Al acc.length cl, .int .i64 n, .slice (some ⟨W1.heap.size, 0, none⟩) 1 1, .slice A1 (acc.length + 1) c1, .slice A t.length c, .int .i64 n, .slice A3 (kidsF t n).length c3, .func (.func 64) #[] #[.pointer (some ⟨w3.heap.size, 0, none⟩)], .int .i64 p.1, .int .i64 p.2, u36, u37, u38, u39, u40, u41], defers := [] }) ?_ ?_ ?_ ?_
        · exact ⟨.inl rfl, fun b hb => hb.imp id .inl, Kpt.refl _ _, _, hB4, by rw [List.take_zero, List.append_nil]; exact hO0.out⟩
        · intro l x W' K' hK'
          gi_wp2
          exact hK'
        · intro l k hk O W' hI
          obtain ⟨hkr, hxe⟩ := s14.out k hk
          have hxk := List.take_succ_eq_append_getElem hkr
          rw [← hxe] at hxk
          obtain ⟨h1, h2, h3, v, h4, h5⟩ := hI
          have hcB := Boxed.cell h4
          have hfB := Boxed.frozen h4
          have hxk2 := Lib.hid hxk
          clear hxk hxe
          generalize (backs (kidsF t n))[k] = p at hxk2
          obtain ⟨p1, x⟩ := p
          have hnB' : v.ownBlock ≠ some B := fun e => (h5.blk B e).2 rfl
          have hBW := h4.lt
          have hk1 := Lib.hid (show ((st ++ (kidsF t n).reverse.take k).length + [x].length) * 8 ≤ 140737488355328 by rw [List.length_append, List.length_take]; simp; omega)
          have hHO := Lib.hid ((h5.stp ((Stp.refl W').alloc (.cells #[.int .i64 x] 3))).mono (S' := fun b => b ≠ B ∧ (O b ∨ W'.heap.size ≤ b)) fun k hk _ => ⟨hk.2, .inl hk.1⟩)
          dsimp only at hxk2 ⊢
          have z1 := Lib.hid h1
          have z2 := Lib.hid h2
          have z3 := Lib.hid h3
          have z4 := Lib.hid h4
          have z5 := Lib.hid h5
          clear h1 h2 h3 h4 h5
          gi_wp2_with (gi_at_builtin; go_loud (refine wplI_appendrow (d := intK) (S := fun b => b ≠ B ∧ (O b ∨ W'.heap.size ≤ b)) (T := fun b => b = W'.heap.size) (T' := fun _ => False) rfl (.tmp 36) (.tmp 38) 27 3 (.int .i64 0) 8 rfl Try.underlying27 infoInt rfl (by decide) (by decide) v (st ++ (kidsF t n).reverse.take k) _ [x] rfl rfl (Row.box (World.alloc_heap_new W' _) rfl rfl) (fun _ _ h => h) (fun _ h => h.elim) hHO.out (fun k hk => by rw [World.size_alloc] at hk; exact ⟨by omega, .inr (by omega)⟩) hk1.out ?_; intro v1' w1' ho' hg'; have hb1' := Boxed.grown (Boxed.alloc z4.out (.cells #[.int .i64 x] 3)) hg' hnB'; have hc1' := Boxed.cell hb1'; have hf1' := Boxed.frozen hb1'; obtain ⟨A1', n1', c1', e1'⟩ : ∃ A1 n1 c1, v1' = .slice A1 n1 c1 := (let ⟨A1, c1, e⟩ := ho'.reads.slice; ⟨A1, _, c1, e⟩); subst e1'))
          have hg2 : W'.grownBy w1' v.ownBlock := World.grownBy.trans (World.grownBy_alloc W' _ _) hg'
          have hkp : Kpt O W' (w1'.setCell ⟨B, 0, none⟩ (.slice A1' n1' c1')) := kpt_store (Kpt.of_grown hg2 fun k e => (z5.out.blk k e).1) z1.out
          have hszg := hg2.size
          refine ⟨fun b => O b ∨ (W'.heap.size ≤ b ∧ b < w1'.heap.size), fun b hb => hb.imp id And.left, hkp, .inl z1.out, fun b hb => hb.elim (z2.out b) (fun h => by have := z3.out.size; omega), ?_, _, Boxed.set _ hb1', ?_⟩
          · exact z3.out.trans hkp fun b hb => by
              have := z2.out b hb
              rcases this with h | h | h
              · exact .inl (.inl h)
              · exact .inl (.inr h)
              · exact .inr h
          · rw [hxk2.out, ← List.append_assoc]
            have ho2' := ho'.mono (S' := fun b => (O b ∨ (W'.heap.size ≤ b ∧ b < w1'.heap.size)) ∧ b ≠ B) fun k hk hl => ⟨hk.2.imp id (fun h => ⟨h, hl⟩), hk.1⟩
            exact ho2'.move fun k hk _ => Below.heap_setCell w1' ⟨B, 0, none⟩ _ k hk.2
        · intro D O W' hD hn hI hWD
          obtain ⟨h1, h2, h3, v, h4, h5⟩ := hI
          rw [hbl, ← hrl, List.take_of_length_le (Nat.le_refl _)] at h5
          have hcB := Boxed.cell h4
          obtain ⟨Av, cv, hve, _⟩ := h5.reads.form
          obtain ⟨nv, hnv⟩ : ∃ nv, (st ++ (kidsF t n).reverse).length = nv := ⟨_, rfl⟩
          rw [hnv] at hve
          subst hve
          have hnv2 := Lib.hid hnv
          have z1 := Lib.hid h1
          have z2 := Lib.hid h2
          have z3 := Lib.hid h3
          have z4 := Lib.hid h4
          have z5 := Lib.hid h5
          clear h1 h2 h3 h4 h5 hnv
          go_wp2
          refine Handed.intro (restF t (st ++ (kidsF t n).reverse)).length ?_ (hJ2 _ _ _ ⟨W'.heap.size, D :: Ds, _, _, _, _, _, _, _, _, _, _, _, _, _, _, _, _, _, _, _, _, _, _, _, _, _, _, _, _, _, _, _, _, _, _, rfl, ?_⟩)
          · have h1 := s3.out
            rw [s4.out] at h1
            simp only [List.length_cons] at h1
            omega
          · have hs4' := hst4.size
            have hstW : Stp w W' := ((Kpt.of_stp (O := fun b => b = B ∨ b = gs) hst4).trans z3.out fun x hx => .inl hx).stp fun x hx => by have := s11.out.1; omega
            have hgrow : ∀ k, k < w4.heap.size → k ≠ B → k ≠ gs → W'.heap[k]? = w4.heap[k]? := fun k hk h1 h2 => z3.out.block k hk (fun h => h.elim h1 h2)
            have hWs := z3.out.size
            have hBW := z4.out.lt
            have hst0 := own_ints z5.out
            have hsub : ∀ k, (Value.slice Av nv cv).ownBlock = some k → w.heap.size ≤ k ∧ k < W'.heap.size ∧ (k = gs ∨ w4.heap.size ≤ k) := fun k hk => by
              have h1 := z5.out.blk k hk
              have h2 := own_lt hst0 k hk
              rcases z2.out k h1.1 with h | h | h
              · exact absurd h h1.2
              · exact ⟨by have := s11.out.1; omega, h2, .inl h⟩
              · exact ⟨by omega, h2, .inr h⟩
            refine ⟨hstW.alloc _, by omega, ⟨acc ++ [n], st ++ (kidsF t n).reverse, _, Boxed.new _ _ _, ?_, hst0_alloc hst0 _, fun b hb => ?_, fun b hb => ⟨(hsub b hb).1, by have := (hsub b hb).2.1; omega⟩, ?_, ?_, Nat.le_refl _⟩, ?_, ?_⟩
            · have : ((acc ++ [n]).length : Nat) = acc.length + 1 := by simp
              rw [show Value.slice A1 (acc.length + 1) c1 = Value.slice A1 (acc ++ [n]).length c1 by rw [this]]
              exact own_move hvl4 fun k hk => (Below.heap_alloc _ _ _ (by have := hvlt k hk; omega)).trans (hgrow k (by have := hvlt k hk; have := h24.size; omega) (hvlb k hk).1 (hvlb k hk).2.1)
            · have hb' : (Value.slice A1 (acc ++ [n]).length c1).ownBlock = some b := by
                have : ((acc ++ [n]).length : Nat) = acc.length + 1 := by simp
                rw [this]; exact hb
              have h1 := hvlb b hb'
              have h2 := hvlt b hb'
              have h3 := h24.size
              exact ⟨h1.2.2, by omega, fun e => by rcases (hsub b e).2.2 with h | h <;> first | exact h1.2.1 h | omega⟩
            · rw [← s1.out, s4.out, List.append_assoc]; rfl
            · intro x hx
              rcases List.mem_append.1 hx with h | h
              · exact s2.out x (List.mem_append_left _ h)
              · exact s12.out x (List.mem_reverse.1 h)
            · refine List.nodup_cons.2 ⟨fun hD' => ?_, hDs2.out.1⟩
              have := (Array.getElem?_eq_some_iff.1 (hmk4 D hD')).1
              omega
            · intro D' hD'
              rcases List.mem_cons.1 hD' with rfl | hD'
              · exact ⟨by omega, heap_old hWD⟩
              · have h1 := hmk4 D' hD'
                have hl := (Array.getElem?_eq_some_iff.1 h1).1
                refine ⟨(hDs2.out.2 D' hD').1, heap_old ((hgrow D' hl ?_ ?_).trans h1)⟩
                · rintro rfl
                  rw [show w4.heap[D']? = some _ from hB4] at h1
                  cases h1
                · rintro rfl
                  exact own_no_mark hvs4 (by simp [Value.ownBlock]) h1
        · intro D c' k O W' _ _ h
          exact h.elim
  · have HR := Lib.hid (show listFR t = [] from if_neg hm1)
    have hf : (mayT t && isN t 0) = false := by rw [← Bool.not_eq_true]; simp [hm1]
    rw [hf] at ci
    obtain ⟨A, c, rfl, hc, hm⟩ := hr.form
    clear hm1 hf
    refine (callsIn_wide (n := 0)).1 (callsIn_of_wp_marks Try.func24 rfl trivial (wpIn_wide.2 ?_) rfl); simp only [Try.ntmps24, List.size_toArray, List.length_cons, List.length_nil, Nat.reduceAdd, Nat.reduceSub, Array.replicate_succ, Array.replicate_zero, List.push_toArray, List.append_toArray, List.nil_append, List.cons_append]
    go_wp2_with (go_at_call 34; refine (ci _ Lime.stp_).mono ?_; rintro e w1 ⟨rfl, hb1⟩)
    exact ⟨_, results_tmp rfl _ _ _, _, rfl, by rw [HR.out]; exact Own.nil _ _ _ _, by (exact Lime.stp_)⟩
end Go.Proofs.Lime
namespace Go.Proofs.Lime
open Go.RowKit
set_option linter.unusedVariables false
set_option linter.unusedSimpArgs false

theorem ints_lit (xs : List Int) {S : Nat → Prop} {W : World} {B : Nat} {e : TypeId} (hB : W.heap[B]? = some (.cells (xs.map (Value.int .i64)).toArray e (0, 0))) (hS : S B) (hl : xs.length ≤ 1000) : Row intK S W (.slice (some ⟨B, 0, none⟩) xs.length xs.length) xs := by
  refine ⟨⟨_, _, rfl, Nat.le_refl _, by omega⟩, fun j hj => ⟨B, 0, _, [.int .i64 xs[j]], rfl, hS, (Array.getElem?_eq_some_iff.1 hB).1, rfl, fun i u hi => ?_⟩⟩
  have h1 : i < 1 := (List.getElem?_eq_some_iff.1 hi).1
  obtain rfl : i = 0 := by omega
  have h2 : intK.sz = 1 := rfl
  simp only [World.cell?, hB, h2]
  simp at hi
  subst hi
  simp [hj]
theorem flat_at {α : Type} (f : α → List Value) (n : Nat) (hn : ∀ x, (f x).length = n) : ∀ (xs : List α) (j : Nat) (hj : j < xs.length) (i : Nat), i < n → (xs.flatMap f)[j * n + i]? = (f xs[j])[i]?
  | [], j, hj, _, _ => by simp at hj
  | x :: xs, 0, _, i, hi => by
    rw [List.flatMap_cons, Nat.zero_mul, Nat.zero_add, List.getElem_cons_zero, List.getElem?_append_left (by rw [hn]; exact hi)]
  | x :: xs, j + 1, hj, i, hi => by
    have h1 : (f x).length ≤ (j + 1) * n + i := by rw [hn, Nat.succ_mul]; omega
    rw [List.flatMap_cons, List.getElem?_append_right h1, hn, List.getElem_cons_succ]
    rw [show (j + 1) * n + i - n = j * n + i by rw [Nat.succ_mul]; omega]
    exact flat_at f n hn xs j (by simpa using hj) i hi
theorem attrs_lit (xs : List Attr) {S : Nat → Prop} {W : World} {B : Nat} {e : TypeId} (hB : W.heap[B]? = some (.cells (xs.flatMap Attr.cells).toArray e (0, 0))) (hS : S B) (hl : xs.length ≤ 1000) : Row attrK S W (.slice (some ⟨B, 0, none⟩) xs.length xs.length) xs := by
  refine ⟨⟨_, _, rfl, Nat.le_refl _, by omega⟩, fun j hj => ⟨B, 0, _, _, rfl, hS, (Array.getElem?_eq_some_iff.1 hB).1, rfl, fun i u hi => ?_⟩⟩
  have h1 : i < 2 := (List.getElem?_eq_some_iff.1 hi).1
  have h2 : attrK.sz = 2 := rfl
  simp only [World.cell?, hB, h2]
  have := flat_at Attr.cells 2 (fun _ => rfl) xs j hj i h1
  rw [show (xs[j].cells)[i]? = some u from hi] at this
  simpa using this
/-- A node's cells: vk, va: where its kids and attributes lie. -/
def Nd.lit (x : Nd) (vk va : Value) : List Value := [.int .i64 x.kind, .int .i64 x.tag, .int .i64 x.parent, vk, .int .i64 x.host, .int .i64 x.root, va]
theorem tree_lit (xs : List (Nd × Value × Value)) {S : Nat → Prop} {W : World} {B : Nat} {e : TypeId} (hB : W.heap[B]? = some (.cells (xs.flatMap fun p => p.1.lit p.2.1 p.2.2).toArray e (0, 0))) (hS : S B) (hl : xs.length ≤ 1000)
    (hk : ∀ p ∈ xs, Row intK S W p.2.1 p.1.kids ∧ Row attrK S W p.2.2 p.1.attrs) : Row nodeK S W (.slice (some ⟨B, 0, none⟩) xs.length xs.length) (xs.map Prod.fst) := by
  have hlen : (xs.map Prod.fst).length = xs.length := by simp
  refine ⟨⟨_, _, by rw [hlen], by omega, by omega⟩, fun j hj => ?_⟩
  have hj' : j < xs.length := by omega
  have h0 := hk _ (List.getElem_mem hj')
  refine ⟨B, 0, xs.length, _, by rw [hlen], hS, (Array.getElem?_eq_some_iff.1 hB).1, ⟨xs[j].2.1, xs[j].2.2, rfl, by simpa using h0.1, by simpa using h0.2⟩, fun i u hi => ?_⟩
  have hi' : ((xs[j].1).lit xs[j].2.1 xs[j].2.2)[i]? = some u := by simpa [Nd.lit] using hi
  have h1 : i < 7 := (List.getElem?_eq_some_iff.1 hi').1
  have h2 : nodeK.sz = 7 := rfl
  simp only [World.cell?, hB, h2]
  have := flat_at (fun p : Nd × Value × Value => p.1.lit p.2.1 p.2.2) 7 (fun _ => rfl) xs j hj' i h1
  rw [hi'] at this
  simpa using this
theorem calls_named {P : Program} {f : FuncId} {args : Array Value} {w : World} {R : Ending → World → Prop} (h : ∀ W, W = w → Calls P f args W R) : Calls P f args w R := h _ rfl
end Go.Proofs.Lime
namespace Go.Proofs.Lime
open Go.RowKit
set_option linter.unusedVariables false
set_option linter.unusedSimpArgs false

def liveT : List Nd := [⟨0, 0, -1, [1], -1, -1, []⟩, ⟨1, 0, 0, [4, 5], -1, 2, []⟩, ⟨3, 0, -1, [3], 1, -1, []⟩, ⟨1, 3, 2, [6], -1, -1, []⟩, ⟨1, 0, 1, [], -1, -1, [⟨4, 7⟩]⟩, ⟨2, 0, 1, [], -1, -1, []⟩, ⟨1, 0, 3, [], -1, -1, []⟩]
set_option maxRecDepth 100000 in
set_option maxHeartbeats 4000000 in
theorem live_c (w : World) : Calls Try.prog 10 #[] w fun e w' => e = .returned (.bool true) ∧ Stp w w' := by
  go_enter Try.func10, Try.ntmps10
  go_wp2_with fail
  refine calls_named fun W hW => ?_
  have hr : Row nodeK (fun _ => True) W (.slice (some ⟨w.heap.size + 1 + 1 + 1 + 1 + 1, 0, none⟩) 7 7) liveT := by
    refine tree_lit (e := 36) [(⟨0, 0, -1, [1], -1, -1, []⟩, .slice (some ⟨w.heap.size, 0, none⟩) 1 1, .slice none 0 0), (⟨1, 0, 0, [4, 5], -1, 2, []⟩, .slice (some ⟨w.heap.size + 1, 0, none⟩) 2 2, .slice none 0 0), (⟨3, 0, -1, [3], 1, -1, []⟩, .slice (some ⟨w.heap.size + 1 + 1, 0, none⟩) 1 1, .slice none 0 0), (⟨1, 3, 2, [6], -1, -1, []⟩, .slice (some ⟨w.heap.size + 1 + 1 + 1, 0, none⟩) 1 1, .slice none 0 0), (⟨1, 0, 1, [], -1, -1, [⟨4, 7⟩]⟩, .slice none 0 0, .slice (some ⟨w.heap.size + 1 + 1 + 1 + 1, 0, none⟩) 1 1), (⟨2, 0, 1, [], -1, -1, []⟩, .slice none 0 0, .slice none 0 0), (⟨1, 0, 3, [], -1, -1, []⟩, .slice none 0 0, .slice none 0 0)] ?_ trivial (by simp) ?_
    · rw [hW]
      refine heap_new _ _ _ ?_
      simp
    · intro p hp
      simp only [List.mem_cons, List.not_mem_nil, or_false] at hp
      rcases hp with rfl | rfl | rfl | rfl | rfl | rfl | rfl
      · exact ⟨ints_lit [1] (e := 3) (by rw [hW]; (repeat (first | (refine heap_new _ _ _ ?_; (first | rfl | (simp; done)); done) | refine heap_old ?_))) trivial (by simp), Row.nil _ _ _⟩
      · exact ⟨ints_lit [4, 5] (e := 3) (by rw [hW]; (repeat (first | (refine heap_new _ _ _ ?_; (first | rfl | (simp; done)); done) | refine heap_old ?_))) trivial (by simp), Row.nil _ _ _⟩
      · exact ⟨ints_lit [3] (e := 3) (by rw [hW]; (repeat (first | (refine heap_new _ _ _ ?_; (first | rfl | (simp; done)); done) | refine heap_old ?_))) trivial (by simp), Row.nil _ _ _⟩
      · exact ⟨ints_lit [6] (e := 3) (by rw [hW]; (repeat (first | (refine heap_new _ _ _ ?_; (first | rfl | (simp; done)); done) | refine heap_old ?_))) trivial (by simp), Row.nil _ _ _⟩
      · exact ⟨Row.nil _ _ _, attrs_lit [⟨4, 7⟩] (e := 41) (by rw [hW]; (repeat (first | (refine heap_new _ _ _ ?_; (first | rfl | (simp; done)); done) | refine heap_old ?_))) trivial (by simp)⟩
      · exact ⟨Row.nil _ _ _, Row.nil _ _ _⟩
      · exact ⟨Row.nil _ _ _, Row.nil _ _ _⟩
  have hst : Stp w W := by rw [hW]; (exact Lime.stp_)
  clear hW
  have hks : KidsOk liveT := by unfold KidsOk liveT; decide
  have hks0 : KidsOk [] := fun k hk => absurd hk (by simp)
  have c0 := fun W' (h : Stp W W') => flist_r (hr.stp h) hks
  rw [show listFR liveT = [0, 1, 3, 5] by decide +kernel] at c0
  have c1 := fun W' (h : Stp W W') => fpar_r (hr.stp h) hks 5
  rw [show parFR liveT 5 = 3 by decide +kernel] at c1
  have c2 := fun W' (h : Stp W W') => fpar_r (hr.stp h) hks 4
  rw [show parFR liveT 4 = -1 by decide +kernel] at c2
  have c3 := fun W' (h : Stp W W') => fpar_r (hr.stp h) hks 6
  rw [show parFR liveT 6 = -1 by decide +kernel] at c3
  have c4 := fun W' (h : Stp W W') => fpar_r (hr.stp h) hks 3
  rw [show parFR liveT 3 = 1 by decide +kernel] at c4
  have c5 := fun W' (h : Stp W W') => fupC_r (hr.stp h) hks 5
  rw [show upsFR liveT 5 = [5, 3, 1, 0] by decide +kernel] at c5
  have c6 := fun W' (h : Stp W W') => fhas_r (hr.stp h) hks 5
  rw [show aboveFR liveT 0 5 = true by decide +kernel] at c6
  have c7 := fun W' (h : Stp W W') => fhas_r (hr.stp h) hks 6
  rw [show aboveFR liveT 0 6 = false by decide +kernel] at c7
  have c8 := fun W' (h : Stp W W') => fabove_r (hr.stp h) hks 1 5
  rw [show aboveFR liveT 1 5 = true by decide +kernel] at c8
  have c9 := fun W' (h : Stp W W') => fkidsC_r (hr.stp h) hks 1
  rw [show kidsFR liveT 1 = [3] by decide +kernel] at c9
  have c10 := fun W' (h : Stp W W') => fkidsC_r (hr.stp h) hks 2
  rw [show kidsFR liveT 2 = [] by decide +kernel] at c10
  have c11 := fun W' (h : Stp W W') => flist_r (Row.nil nodeK (fun _ => True) W') hks0
  rw [show listFR [] = [] by decide +kernel] at c11
  clear hr hks hks0
  refine (show Calls Try.prog 24 _ _ _ from c0 _ (Stp.refl _)).mono ?_
  rintro e w0a ⟨u, rfl, o0, b0⟩
  clear c0
  obtain ⟨Au0, cu0, rfl, _⟩ := o0.reads.form
  go_wp2_with fail
  refine (show Calls Try.prog 17 _ _ _ from ints_c (T := fun _ => True) (o0.reads.stp ((Stp.refl _).alloc _)) (ints_lit [0, 1, 3, 5] (World.alloc_heap_new _ _) trivial (by decide))).mono ?_
  rintro e w0b ⟨rfl, hb⟩
  have b0b : Stp w0a w0b := ((Stp.refl _).alloc _).trans hb
  clear hb
  clear o0
  go_wp2_with fail
  refine (show Calls Try.prog 14 _ _ _ from c1 _ Lime.stp_).mono ?_
  rintro e w1a ⟨rfl, b1⟩
  clear c1
  go_wp2_with fail
  refine (show Calls Try.prog 14 _ _ _ from c2 _ Lime.stp_).mono ?_
  rintro e w2a ⟨rfl, b2⟩
  clear c2
  go_wp2_with fail
  refine (show Calls Try.prog 14 _ _ _ from c3 _ Lime.stp_).mono ?_
  rintro e w3a ⟨rfl, b3⟩
  clear c3
  go_wp2_with fail
  refine (show Calls Try.prog 14 _ _ _ from c4 _ Lime.stp_).mono ?_
  rintro e w4a ⟨rfl, b4⟩
  clear c4
  go_wp2_with fail
  refine (show Calls Try.prog 15 _ _ _ from c5 _ Lime.stp_).mono ?_
  rintro e w5a ⟨u, rfl, o5, b5⟩
  clear c5
  obtain ⟨Au5, cu5, rfl, _⟩ := o5.reads.form
  go_wp2_with fail
  refine (show Calls Try.prog 17 _ _ _ from ints_c (T := fun _ => True) (o5.reads.stp ((Stp.refl _).alloc _)) (ints_lit [5, 3, 1, 0] (World.alloc_heap_new _ _) trivial (by decide))).mono ?_
  rintro e w5b ⟨rfl, hb⟩
  have b5b : Stp w5a w5b := ((Stp.refl _).alloc _).trans hb
  clear hb
  clear o5
  go_wp2_with fail
  refine (show Calls Try.prog 16 _ _ _ from c6 _ Lime.stp_).mono ?_
  rintro e w6a ⟨rfl, b6⟩
  clear c6
  go_wp2_with fail
  refine (show Calls Try.prog 16 _ _ _ from c7 _ Lime.stp_).mono ?_
  rintro e w7a ⟨rfl, b7⟩
  clear c7
  go_wp2_with fail
  refine (show Calls Try.prog 12 _ _ _ from c8 _ Lime.stp_).mono ?_
  rintro e w8a ⟨rfl, b8⟩
  clear c8
  go_wp2_with fail
  refine (show Calls Try.prog 13 _ _ _ from c9 _ Lime.stp_).mono ?_
  rintro e w9a ⟨u, rfl, o9, b9⟩
  clear c9
  obtain ⟨Au9, cu9, rfl, _⟩ := o9.reads.form
  go_wp2_with fail
  refine (show Calls Try.prog 17 _ _ _ from ints_c (T := fun _ => True) (o9.reads.stp ((Stp.refl _).alloc _)) (ints_lit [3] (World.alloc_heap_new _ _) trivial (by decide))).mono ?_
  rintro e w9b ⟨rfl, hb⟩
  have b9b : Stp w9a w9b := ((Stp.refl _).alloc _).trans hb
  clear hb
  clear o9
  go_wp2_with fail
  refine (show Calls Try.prog 13 _ _ _ from c10 _ Lime.stp_).mono ?_
  rintro e w10a ⟨u, rfl, o10, b10⟩
  clear c10
  obtain ⟨Au10, cu10, rfl, _⟩ := o10.reads.form
  clear o10
  go_wp2_with fail
  refine (show Calls Try.prog 24 _ _ _ from c11 _ Lime.stp_).mono ?_
  rintro e w11a ⟨u, rfl, o11, b11⟩
  clear c11
  obtain ⟨Au11, cu11, rfl, _⟩ := o11.reads.form
  clear o11
  go_wp2
  go_ret
  exact ⟨rfl, by (exact Lime.stp_)⟩
end Go.Proofs.Lime
namespace Go.Proofs.Ytfdhfnjdafaogaa.P
open Go.RowKit Go.Proofs.YtfdhfnjdafaogaaW.PrintWords Go.Proofs.YtfdhfnjdafaogaaW.PrintLast Go.Proofs.YtfdhfnjdafaogaaW.PrintMore
set_option linter.unusedVariables false
set_option linter.unusedSimpArgs false

def flat_Kids.f (l0 : List S36) (a1 : Int) : Option (List Int) := ifSmall l0 (Lime.kidsFR (tr l0) a1)
theorem flat_Kids.calls (A0 : Option Addr) (c0 : Nat) (l0 : List S36) (a1 : Int) (r : List Int) (w : World) (hr0 : Kd.C k36 w A0 l0.length l0) (hc0 : l0.length ≤ c0) (h : flat_Kids.f l0 a1 = some r) :
    Calls Try.prog 13 #[.slice A0 l0.length c0, .int .i64 a1] w fun e w' => ∃ v0_ : Value, e = .returned (v0_) ∧ Kd.R (Kd.int .i64) 3 w' w.heap.size (fun _ => True) v0_ r ∧ Below w.heap.size w w' := by
  obtain ⟨hs, rfl⟩ := ifSmall_some h
  exact (Lime.fkidsC_r (row_tree hr0 hc0) (kidsOk_small hs) a1).mono fun e w' ⟨u, h1, h2, h3⟩ => ⟨u, h1, R_ints h2 (fun _ hk => hk), h3.out⟩
theorem FKids_f {l : List S36} (hs : Lime.smallT (tr l) = true) (a1 : Int) : flat_Kids.f l a1 = some (Lime.kidsFR (tr l) a1) := ifSmall_yes hs
def flat_Parent.f (l0 : List S36) (a1 : Int) : Option (Int) := ifSmall l0 (Lime.parFR (tr l0) a1)
theorem flat_Parent.calls (A0 : Option Addr) (c0 : Nat) (l0 : List S36) (a1 : Int) (r : Int) (w : World) (hr0 : Kd.C k36 w A0 l0.length l0) (hc0 : l0.length ≤ c0) (h : flat_Parent.f l0 a1 = some r) :
    Calls Try.prog 14 #[.slice A0 l0.length c0, .int .i64 a1] w fun e w' => e = .returned (.int .i64 r) ∧ Below w.heap.size w w' := by
  obtain ⟨hs, rfl⟩ := ifSmall_some h
  exact (Lime.fpar_r (row_tree hr0 hc0) (kidsOk_small hs) a1).mono fun e w' ⟨h1, h3⟩ => ⟨h1, h3.out⟩
theorem FPar_f {l : List S36} (hs : Lime.smallT (tr l) = true) (a1 : Int) : flat_Parent.f l a1 = some (Lime.parFR (tr l) a1) := ifSmall_yes hs
def flat_Up.f (l0 : List S36) (a1 : Int) : Option (List Int) := ifSmall l0 (Lime.upsFR (tr l0) a1)
theorem flat_Up.calls (A0 : Option Addr) (c0 : Nat) (l0 : List S36) (a1 : Int) (r : List Int) (w : World) (hr0 : Kd.C k36 w A0 l0.length l0) (hc0 : l0.length ≤ c0) (h : flat_Up.f l0 a1 = some r) :
    Calls Try.prog 15 #[.slice A0 l0.length c0, .int .i64 a1] w fun e w' => ∃ v0_ : Value, e = .returned (v0_) ∧ Kd.R (Kd.int .i64) 3 w' w.heap.size (fun _ => True) v0_ r ∧ Below w.heap.size w w' := by
  obtain ⟨hs, rfl⟩ := ifSmall_some h
  exact (Lime.fupC_r (row_tree hr0 hc0) (kidsOk_small hs) a1).mono fun e w' ⟨u, h1, h2, h3⟩ => ⟨u, h1, R_ints h2 (fun _ hk => hk), h3.out⟩
theorem FUp_f {l : List S36} (hs : Lime.smallT (tr l) = true) (a1 : Int) : flat_Up.f l a1 = some (Lime.upsFR (tr l) a1) := ifSmall_yes hs
def flat_List.f (l0 : List S36)  : Option (List Int) := ifSmall l0 (Lime.listFR (tr l0))
theorem flat_List.calls (A0 : Option Addr) (c0 : Nat) (l0 : List S36)  (r : List Int) (w : World) (hr0 : Kd.C k36 w A0 l0.length l0) (hc0 : l0.length ≤ c0) (h : flat_List.f l0 = some r) :
    Calls Try.prog 24 #[.slice A0 l0.length c0] w fun e w' => ∃ v0_ : Value, e = .returned (v0_) ∧ Kd.R (Kd.int .i64) 3 w' w.heap.size (fun _ => True) v0_ r ∧ Below w.heap.size w w' := by
  obtain ⟨hs, rfl⟩ := ifSmall_some h
  exact (Lime.flist_r (row_tree hr0 hc0) (kidsOk_small hs)).mono fun e w' ⟨u, h1, h2, h3⟩ => ⟨u, h1, R_ints h2 (fun _ hk => hk), h3.out⟩
theorem FList_f {l : List S36} (hs : Lime.smallT (tr l) = true)  : flat_List.f l = some (Lime.listFR (tr l)) := ifSmall_yes hs
def flat_Above.f (l0 : List S36) (a1 : Int) (a2 : Int) : Option (Bool) := ifSmall l0 (Lime.aboveFR (tr l0) a1 a2)
theorem flat_Above.calls (A0 : Option Addr) (c0 : Nat) (l0 : List S36) (a1 : Int) (a2 : Int) (r : Bool) (w : World) (hr0 : Kd.C k36 w A0 l0.length l0) (hc0 : l0.length ≤ c0) (h : flat_Above.f l0 a1 a2 = some r) :
    Calls Try.prog 12 #[.slice A0 l0.length c0, .int .i64 a1, .int .i64 a2] w fun e w' => e = .returned (.bool r) ∧ Below w.heap.size w w' := by
  obtain ⟨hs, rfl⟩ := ifSmall_some h
  exact (Lime.fabove_r (row_tree hr0 hc0) (kidsOk_small hs) a1 a2).mono fun e w' ⟨h1, h3⟩ => ⟨h1, h3.out⟩
theorem FAbove_f {l : List S36} (hs : Lime.smallT (tr l) = true) (a1 : Int) (a2 : Int) : flat_Above.f l a1 a2 = some (Lime.aboveFR (tr l) a1 a2) := ifSmall_yes hs
def flat_Has.f (l0 : List S36) (a1 : Int) : Option (Bool) := ifSmall l0 (Lime.aboveFR (tr l0) 0 a1)
theorem flat_Has.calls (A0 : Option Addr) (c0 : Nat) (l0 : List S36) (a1 : Int) (r : Bool) (w : World) (hr0 : Kd.C k36 w A0 l0.length l0) (hc0 : l0.length ≤ c0) (h : flat_Has.f l0 a1 = some r) :
    Calls Try.prog 16 #[.slice A0 l0.length c0, .int .i64 a1] w fun e w' => e = .returned (.bool r) ∧ Below w.heap.size w w' := by
  obtain ⟨hs, rfl⟩ := ifSmall_some h
  exact (Lime.fhas_r (row_tree hr0 hc0) (kidsOk_small hs) a1).mono fun e w' ⟨h1, h3⟩ => ⟨h1, h3.out⟩
theorem FHas_f {l : List S36} (hs : Lime.smallT (tr l) = true) (a1 : Int) : flat_Has.f l a1 = some (Lime.aboveFR (tr l) 0 a1) := ifSmall_yes hs
def limelightlaw06_live.f : Option Bool := some true
theorem limelightlaw06_live.calls (r : Bool) (w : World) (h : limelightlaw06_live.f = some r) : Calls Try.prog 10 #[] w fun e w' => e = .returned (.bool r) ∧ Below w.heap.size w w' := by
  obtain rfl := Option.some.inj h
  exact (Lime.live_c w).mono fun e w' ⟨h1, h3⟩ => ⟨h1, h3.out⟩
theorem live_some : Ev (fun _ => (limelightlaw06_live.f).bind fun t => some t) true := Ev.pure rfl
end Go.Proofs.Ytfdhfnjdafaogaa.P
