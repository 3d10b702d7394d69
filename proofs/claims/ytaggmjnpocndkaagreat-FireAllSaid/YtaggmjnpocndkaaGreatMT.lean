/- Walks: attributes; slots, one by one. Walks: the slots of a shadow. Walks: the slots of a shadow in a list; the slot of a node. -/
import Derived.Test.YtaggmjnpocndkaaGreatMS
import Derived.Test.YtaggmjnpocndkaaGreatMP
namespace Go.Proofs.Lime
open Go.RowKit
set_option linter.unusedVariables false
set_option linter.unusedSimpArgs false

/-- What is asked of a predicate on attributes. -/
def AttrPred (g : Nat) (lb : Array Value) (p : Attr → Bool) (w : World) : Prop :=
  ∀ (W : World) (x : Attr), Stp w W → Calls Tryz.prog g (#[x.val] ++ lb) W fun e w' => e = .returned (.bool (p x)) ∧ Stp W w'
set_option maxHeartbeats 1000000 in
theorem indexFuncA_c {S : Nat → Prop} {w : World} {v : Value} {xs : List Attr} (h : Row attrK S w v xs) (p : Attr → Bool) (g : Nat) (lb : Array Value)
    (eg : ∀ args w, (callFunc g args).run Tryz.prog w = .ok (.enter g args) w) (hp : AttrPred g lb p w) :
    Calls Tryz.prog 112 #[v, .func (.func g) #[] lb] w fun e w' => e = .returned (.int .i64 (idx p xs)) ∧ Stp w w' := by
  obtain ⟨A, c, rfl, hc, hm⟩ := h.form
  go_enter Tryz.func112, Tryz.ntmps112
  go_wp2
  go_loopg [5, 8] xs.length (fun gg _ s8 wr => ∃ k : Nat, k ≤ xs.length ∧ xs.length - k ≤ gg ∧ s8 = .int .i64 k ∧ Stp w wr ∧ Aside (idxFrom p k (xs.drop k) = idx p xs))
  case atStart => exact ⟨0, Nat.zero_le _, by omega, rfl, Stp.refl w, rfl⟩
  case round =>
    obtain ⟨k, hk, hg, rfl, hb, A1⟩ := hrel
    by_cases hlt : k < xs.length
    · have hltz : (k : Int) < (xs.length : Int) := by omega
      obtain ⟨b, o, rfl, hS, hbw, x0, x1⟩ := attr_at (h.stp hb) k hlt
      have hcall := hp wr xs[k] hb
      generalize hy : xs[k] = y at x0 x1 hcall
      have B : Aside (xs[k] = y) := hy
      clear hy h hp
      cases hq : p y with
      | true =>
        rw [hq] at hcall
        go_wp2_with (go_at_fn g; refine hcall.mono ?_; rintro e w' ⟨rfl, hb'⟩)
        go_ret
        exact ⟨ret_int (by rw [← A1.out, idxFrom_hit hlt (by rw [B.out]; exact hq)]), hb.trans hb'⟩
      | false =>
        rw [hq] at hcall
        go_wp2_with (go_at_fn g; refine hcall.mono ?_; rintro e w' ⟨rfl, hb'⟩)
        go_roundg (xs.length - (k + 1))
        case measure => omega
        case rel => exact ⟨k + 1, by omega, by omega, by go_num, hb.trans hb', (idxFrom_miss hlt (by rw [B.out]; exact hq)).symm.trans A1.out⟩
    · have hltz : ¬ (k : Int) < (xs.length : Int) := by omega
      go_wp2
      go_ret
      exact ⟨ret_int (by rw [← A1.out, idxFrom_end hlt]), hb⟩
theorem aat1_c (name : Int) (x : Attr) (B : Nat) (w : World) (h0 : w.cell? ⟨B, 0, none⟩ = some (.int .i64 name)) :
    Calls Tryz.prog 113 #[x.val, .pointer (some ⟨B, 0, none⟩)] w fun e w' => e = .returned (.bool (x.name == name)) ∧ Stp w w' := by
  have hB : B < w.heap.size := World.block_lt_of_cell? w _ h0
  go_enter Tryz.func113, Tryz.ntmps113
  go_wp2
  go_ret
  exact ⟨rfl, by (exact Lime.stp_)⟩
theorem aat_c {S : Nat → Prop} {w : World} {vk va : Value} (x : Nd) (hr : Row attrK S w va x.attrs) (hk1 : vk.oneCell' = true) (name : Int) :
    Calls Tryz.prog 103 #[x.val vk va, .int .i64 name] w fun e w' => e = .returned (.int .i64 (idx (fun a : Attr => a.name == name) x.attrs)) ∧ Stp w w' := by
  have e1 := (enters_of Tryz.func113 (by kernel_rfl) rfl)
  have hr' := hr.stp (((Stp.refl w).alloc (.cells #[.int .i64 x.kind, .int .i64 x.tag, .int .i64 x.parent, vk, .int .i64 x.host, .int .i64 x.root, va] 51)).alloc (.cells #[.int .i64 name] 3))
  clear hr
  go_enter Tryz.func103, Tryz.ntmps103
  go_wp2_with (go_at_call 112; refine (indexFuncA_c hr' (fun a : Attr => a.name == name) _ _ e1 ?_).mono ?_; (intro W x hW; refine aat1_c name x _ W (hW.cell ?_) <;> go_simp); rintro e w' ⟨rfl, hb'⟩)
  go_ret
  exact ⟨rfl, by (exact Lime.stp_)⟩
theorem anode_r {S : Nat → Prop} {w : World} {v : Value} {t : List Nd} (hr : Row nodeK S w v t) (hks : KidsOk t) (n : Int) :
    Calls Tryz.prog 102 #[v, .int .i64 n] w fun e w' => e = .returned (.bool (mayT t && isN t n)) ∧ Stp w w' := by
  obtain ⟨A, c, rfl, hc, hm⟩ := hr.form
  have cc := check_c hr hks
  cases ho : mayT t with
  | true =>
    rw [ho] at cc
    simp only [if_true] at cc
    go_enter Tryz.func102, Tryz.ntmps102
    go_wp2_with (go_at_call 18; refine cc.mono ?_; rintro e w1 ⟨rfl, hb1⟩)
    all_goals
      go_ret
      exact ⟨ret_bool (by grind [isN]), by (exact Lime.stp_)⟩
  | false =>
    rw [ho] at cc
    simp only [Bool.false_eq_true, if_false] at cc
    go_enter Tryz.func102, Tryz.ntmps102
    go_wp2_with (go_at_call 18; refine cc.mono ?_; rintro e w1 ⟨rfl, hb1⟩)
    all_goals
      go_ret
      exact ⟨ret_bool (by simp), by (exact Lime.stp_)⟩
theorem idx_find {ats : List Attr} {name : Int} {i : Nat} (hi : i < ats.length) (h : idx (fun a : Attr => a.name == name) ats = i) : attrOf ats name = some ats[i].value := by
  have key : ∀ (ats : List Attr) (m : Int) (i : Nat) (hi : i < ats.length), 0 ≤ m → idxFrom (fun a : Attr => a.name == name) m ats = m + i → attrOf ats name = some ats[i].value := by
    intro ats
    induction ats with
    | nil => intro m i hi; simp at hi
    | cons a ats ih =>
      intro m i hi hm h
      rw [idxFrom] at h
      unfold attrOf
      rw [List.find?_cons]
      cases ha : a.name == name with
      | true =>
        rw [ha] at h
        simp only [if_true] at h
        obtain rfl : i = 0 := by omega
        rfl
      | false =>
        rw [ha] at h
        simp only [Bool.false_eq_true, if_false] at h
        cases i with
        | zero => have := idxFrom_ge (fun a : Attr => a.name == name) ats (m + 1); omega
        | succ i => exact ih (m + 1) i (by simpa using hi) (by omega) (by omega)
  exact key ats 0 i hi (by omega) (by rw [Int.zero_add]; exact h)
theorem idx_none {ats : List Attr} {name : Int} (h : idx (fun a : Attr => a.name == name) ats < 0) : attrOf ats name = none := by
  have h1 := idx_any (fun a : Attr => a.name == name) ats
  rw [decide_eq_false (by omega)] at h1
  unfold attrOf
  rw [List.find?_eq_none.2 (fun x hx => by have := List.any_eq_false.1 h1.symm x hx; simpa using this)]
  rfl
set_option maxHeartbeats 1000000 in
theorem aget_r {S : Nat → Prop} {w : World} {v : Value} {t : List Nd} (hr : Row nodeK S w v t) (hks : KidsOk t) (n name : Int) :
    Calls Tryz.prog 86 #[v, .int .i64 n, .int .i64 name] w fun e w' => e = .returned (.tuple #[.int .i64 ((attrR t n name).getD 0), .bool (attrR t n name).isSome]) ∧ Stp w w' := by
  obtain ⟨A, c, rfl, hc, hm⟩ := hr.form
  have cn := fun W (hW : Stp w W) => anode_r (hr.stp hW) hks n
  by_cases ho : mayT t = true ∧ isN t n = true
  · have HR := Lib.hid (show attrR t n name = attrOf (nd t n).attrs name from if_pos ho)
    rw [ho.1, ho.2] at cn
    obtain ⟨k, hk, hkt⟩ := isN_nat ho.2
    subst hk
    obtain ⟨b, o, rfl, hS, hb, hN⟩ := tree_base hr (by omega)
    obtain ⟨Ak, ck, Aa, ca, N⟩ := hN k hkt
    rw [nd_nat hkt] at HR
    generalize t[k] = x at N HR
    have x0 := N.c0
    have x1 := N.c1
    have x2 := N.c2
    have x3 := N.c3
    have x4 := N.c4
    have x5 := N.c5
    have x6 := N.c6
    have hra := N.attrs
    have ha1 := N.a1
    have ha2 := N.a2
    have ca1 := fun W (hW : Stp w W) => aat_c (vk := .slice Ak x.kids.length ck) x (hra.stp hW) rfl name
    have hkz : (k : Int) < (t.length : Int) := by omega
    clear N hN ho
    by_cases hi : 0 ≤ idx (fun a : Attr => a.name == name) x.attrs
    · obtain ⟨i, hi1, hil, _⟩ := idx_nat hi
      have HV := Lib.hid (idx_find hil hi1)
      obtain ⟨b', o', rfl, _, _, y0, y1⟩ := attr_at hra i hil
      generalize x.attrs[i].value = y at y1 HV
      rw [hi1] at ca1
      have hiz : (i : Int) < (x.attrs.length : Int) := by omega
      clear hi hi1 y0
      go_enter Tryz.func86, Tryz.ntmps86
      go_wp2_with (first | (go_at_call 102; refine (cn _ Lime.stp_).mono ?_; rintro e w1 ⟨rfl, hb1⟩; replace x0 := hb1.cell x0; replace x1 := hb1.cell x1; replace x2 := hb1.cell x2; replace x3 := hb1.cell x3; replace x4 := hb1.cell x4; replace x5 := hb1.cell x5; replace x6 := hb1.cell x6; replace y1 := hb1.cell y1) | (go_at_call 103; refine (ca1 _ Lime.stp_).mono ?_; rintro e w2 ⟨rfl, hb2⟩; replace x6 := hb2.cell x6; replace y1 := hb2.cell y1))
      go_ret2
      exact ⟨by rw [HR.out, HV.out]; rfl, by (exact Lime.stp_)⟩
    · have HV := Lib.hid (idx_none (name := name) (ats := x.attrs) (by omega))
      have hin : idx (fun a : Attr => a.name == name) x.attrs < 0 := by omega
      generalize idx (fun a : Attr => a.name == name) x.attrs = i at ca1 hin
      clear hi
      go_enter Tryz.func86, Tryz.ntmps86
      go_wp2_with (first | (go_at_call 102; refine (cn _ Lime.stp_).mono ?_; rintro e w1 ⟨rfl, hb1⟩; replace x0 := hb1.cell x0; replace x1 := hb1.cell x1; replace x2 := hb1.cell x2; replace x3 := hb1.cell x3; replace x4 := hb1.cell x4; replace x5 := hb1.cell x5; replace x6 := hb1.cell x6) | (go_at_call 103; refine (ca1 _ Lime.stp_).mono ?_; rintro e w2 ⟨rfl, hb2⟩))
      go_ret2
      exact ⟨by rw [HR.out, HV.out]; rfl, by (exact Lime.stp_)⟩
  · have HR := Lib.hid (show attrR t n name = none from if_neg ho)
    have hf : (mayT t && isN t n) = false := by rw [← Bool.not_eq_true]; simpa using ho
    rw [hf] at cn
    clear ho hf
    go_enter Tryz.func86, Tryz.ntmps86
    go_wp2_with (go_at_call 102; refine (cn _ Lime.stp_).mono ?_; rintro e w1 ⟨rfl, hb1⟩)
    go_ret2
    exact ⟨by rw [HR.out]; rfl, by (exact Lime.stp_)⟩
theorem ahas_r {S : Nat → Prop} {w : World} {v : Value} {t : List Nd} (hr : Row nodeK S w v t) (hks : KidsOk t) (n name : Int) :
    Calls Tryz.prog 87 #[v, .int .i64 n, .int .i64 name] w fun e w' => e = .returned (.bool (attrR t n name).isSome) ∧ Stp w w' := by
  have cg := aget_r hr hks n name
  obtain ⟨A, c, rfl, hc, hm⟩ := hr.form
  generalize (attrR t n name).isSome = bb at cg
  generalize (attrR t n name).getD 0 = xx at cg
  go_enter Tryz.func87, Tryz.ntmps87
  go_wp2_with (go_at_call 86; refine cg.mono ?_; rintro e w1 ⟨rfl, hb1⟩)
  go_ret
  exact ⟨rfl, by (exact Lime.stp_)⟩
theorem slname_r {S : Nat → Prop} {w : World} {v : Value} {t : List Nd} (hr : Row nodeK S w v t) (hks : KidsOk t) (n : Int) :
    Calls Tryz.prog 88 #[v, .int .i64 n] w fun e w' => e = .returned (.int .i64 ((attrR t n 4).getD 0)) ∧ Stp w w' := by
  have cg := aget_r hr hks n 4
  obtain ⟨A, c, rfl, hc, hm⟩ := hr.form
  generalize (attrR t n 4).isSome = bb at cg
  generalize (attrR t n 4).getD 0 = xx at cg
  go_enter Tryz.func88, Tryz.ntmps88
  go_wp2_with (go_at_call 86; refine cg.mono ?_; rintro e w1 ⟨rfl, hb1⟩)
  go_ret
  exact ⟨rfl, by (exact Lime.stp_)⟩
theorem slis_r {S : Nat → Prop} {w : World} {v : Value} {t : List Nd} (hr : Row nodeK S w v t) (hks : KidsOk t) (n : Int) :
    Calls Tryz.prog 101 #[v, .int .i64 n] w fun e w' => e = .returned (.bool (mayT t && isN t n)) ∧ Stp w w' := by
  obtain ⟨A, c, rfl, hc, hm⟩ := hr.form
  have ct := fun W (hW : Stp w W) => otop_r (hr.stp hW) hks n
  by_cases ho : mayT t = true ∧ isN t n = true
  · have M := May.of ho.1
    rw [show topR t n = topT t n from if_pos ho] at ct
    obtain ⟨k, hk, hkt⟩ := isN_nat (M.topT_isN ho.2)
    rw [hk] at ct
    have hkn : ((k : Int) != -1) = true := by simp
    go_enter Tryz.func101, Tryz.ntmps101
    go_wp2_with (go_at_call 67; refine (ct _ Lime.stp_).mono ?_; rintro e w1 ⟨rfl, hb1⟩)
    go_ret
    exact ⟨ret_bool (by rw [ho.1, ho.2]; rfl), by (exact Lime.stp_)⟩
  · have HR := Lib.hid (show (mayT t && isN t n) = false by rw [← Bool.not_eq_true]; simpa using ho)
    rw [topR_none ho] at ct
    clear ho
    go_enter Tryz.func101, Tryz.ntmps101
    go_wp2_with (go_at_call 67; refine (ct _ Lime.stp_).mono ?_; rintro e w1 ⟨rfl, hb1⟩)
    go_ret
    exact ⟨ret_bool (by rw [HR.out]), by (exact Lime.stp_)⟩
set_option maxHeartbeats 1000000 in
theorem slslot_r {S : Nat → Prop} {w : World} {v : Value} {t : List Nd} (hr : Row nodeK S w v t) (hks : KidsOk t) (M : May t) {n : Int} (hn : isN t n = true) :
    Calls Tryz.prog 106 #[v, .int .i64 n] w fun e w' => e = .returned (.bool (slotB t n)) ∧ Stp w w' := by
  obtain ⟨A, c, rfl, hc, hm⟩ := hr.form
  have ch := fun W (hW : Stp w W) => host_r (hr.stp hW) hks n
  rw [show hostR t n = hostT t n from if_pos ⟨May.iff.2 M, hn⟩] at ch
  have HR := Lib.hid (show slotB t n = (decide ((nd t n).kind = 1) && (decide ((nd t n).tag = 3) && decide (hostT t n ≠ -1))) from rfl)
  obtain ⟨k, rfl, hkt⟩ := isN_nat hn
  obtain ⟨b, o, rfl, hS, hb, hN⟩ := tree_base hr (by omega)
  obtain ⟨Ak, ck, Aa, ca, N⟩ := hN k hkt
  rw [nd_nat hkt] at HR
  generalize t[k] = x at N HR
  have x0 := N.c0
  have x1 := N.c1
  have hkz : (k : Int) < (t.length : Int) := by omega
  generalize hostT t k = h at ch HR
  clear N hN
  go_enter Tryz.func106, Tryz.ntmps106
  go_wp2_with (go_at_call 71; refine (ch _ Lime.stp_).mono ?_; rintro e w1 ⟨rfl, hb1⟩)
  all_goals
    go_ret
    exact ⟨ret_bool (by rw [HR.out]; grind), by (exact Lime.stp_)⟩
set_option maxHeartbeats 1000000 in
theorem slroot_r {S : Nat → Prop} {w : World} {v : Value} {t : List Nd} (hr : Row nodeK S w v t) (hks : KidsOk t) (n : Int) :
    Calls Tryz.prog 85 #[v, .int .i64 n] w fun e w' => e = .returned (.int .i64 (overR t n)) ∧ Stp w w' := by
  obtain ⟨A, c, rfl, hc, hm⟩ := hr.form
  have ci := fun W (hW : Stp w W) => slis_r (hr.stp hW) hks n
  by_cases ho : mayT t = true ∧ isN t n = true
  · have M := May.of ho.1
    have HR := Lib.hid (show overR t n = overT t n from if_pos ho)
    have hp := M.parN_or ho.2
    rw [ho.1, ho.2] at ci
    obtain ⟨k, rfl, hkt⟩ := isN_nat ho.2
    obtain ⟨b, o, rfl, hS, hb, hN⟩ := tree_base hr (by omega)
    obtain ⟨Ak, ck, Aa, ca, N⟩ := hN k hkt
    have x2 := N.c2
    have hpe : t[k].parent = parN t k := by rw [parN, nd_nat hkt]
    rw [hpe] at x2
    have hkz : (k : Int) < (t.length : Int) := by omega
    clear N hpe ho
    unfold overT at HR
    generalize parN t k = p at x2 hp HR
    rcases hp with rfl | hp
    · have HX := Lib.hid (show overR t k = -1 by rw [HR.out]; rfl)
      clear HR
      go_enter Tryz.func85, Tryz.ntmps85
      go_wp2_with (go_at_call 101; refine (ci _ Lime.stp_).mono ?_; rintro e w1 ⟨rfl, hb1⟩; replace x2 := hb1.cell x2)
      go_ret
      exact ⟨ret_int (by rw [HX.out]), by (exact Lime.stp_)⟩
    · obtain ⟨j, rfl, hjt⟩ := isN_nat hp
      obtain ⟨Ak2, ck2, Aa2, ca2, N2⟩ := hN j hjt
      have y5 := N2.c5
      have HX := Lib.hid (show overR t k = t[j].root by rw [HR.out, if_neg (by omega), nd_nat hjt])
      have hjz : (j : Int) < (t.length : Int) := by omega
      have hjn : ((j : Int) == -1) = false := by simp
      generalize t[j].root = r at y5 HX
      clear HR N2 hN hp
      go_enter Tryz.func85, Tryz.ntmps85
      go_wp2_with (go_at_call 101; refine (ci _ Lime.stp_).mono ?_; rintro e w1 ⟨rfl, hb1⟩; replace x2 := hb1.cell x2; replace y5 := hb1.cell y5)
      go_ret
      exact ⟨ret_int (by rw [HX.out]), by (exact Lime.stp_)⟩
  · have HR := Lib.hid (show overR t n = -1 from if_neg ho)
    have hf : (mayT t && isN t n) = false := by rw [← Bool.not_eq_true]; simpa using ho
    rw [hf] at ci
    clear ho hf
    go_enter Tryz.func85, Tryz.ntmps85
    go_wp2_with (go_at_call 101; refine (ci _ Lime.stp_).mono ?_; rintro e w1 ⟨rfl, hb1⟩)
    go_ret
    exact ⟨ret_int (by rw [HR.out]), by (exact Lime.stp_)⟩
end Go.Proofs.Lime
namespace Go.Proofs.Lime
open Go.RowKit
set_option linter.unusedVariables false
set_option linter.unusedSimpArgs false
attribute [local go_sem] Oper.semAt_some

theorem within_c (w : World) (A : Option Addr) (m c : Nat) (n : Int) : Calls Tryz.prog 89 #[.slice A m c, .int .i64 n] w fun e w' => e = .returned (.func (.func 104) #[] #[.pointer (some ⟨w.heap.size, 0, none⟩), .pointer (some ⟨w.heap.size + 1, 0, none⟩)]) ∧ w' = (w.alloc (.cells #[.slice A m c] 23)).alloc (.cells #[.int .i64 n] 3) := by
  go_enter Tryz.func89, Tryz.ntmps89
  go_wp2
  go_ret
  exact ⟨rfl, rfl⟩
theorem filter_take_len {p : Int → Bool} {xs : List Int} {i : Nat} (h : i < xs.length) (hp : p xs[i] = true) : ∃ hk : ((xs.take i).filter p).length < (xs.filter p).length, (xs.filter p)[((xs.take i).filter p).length] = xs[i] := by
  have e : xs.filter p = (xs.take i).filter p ++ xs[i] :: (xs.drop (i + 1)).filter p := by
    have h1 : xs = xs.take i ++ xs[i] :: xs.drop (i + 1) := by rw [← List.drop_eq_getElem_cons h, List.take_append_drop]
    have h2 := congrArg (List.filter p) h1
    rwa [List.filter_append, List.filter_cons_of_pos hp] at h2
  have hl : ((xs.take i).filter p).length < (xs.filter p).length := by rw [e, List.length_append]; simp
  refine ⟨hl, ?_⟩
  have h3 : (xs.filter p)[((xs.take i).filter p).length]? = some xs[i] := by rw [e, List.getElem?_append_right (Nat.le_refl _), Nat.sub_self]; rfl
  rw [List.getElem?_eq_getElem hl] at h3
  exact Option.some.inj h3
theorem filter_take_yes {p : Int → Bool} {xs : List Int} {i : Nat} (h : i < xs.length) (hp : p xs[i] = true) : ((xs.take (i + 1)).filter p).length = ((xs.take i).filter p).length + 1 := by
  rw [List.take_succ_eq_append_getElem h, List.filter_append, List.length_append, List.filter_cons_of_pos hp]; rfl
theorem filter_take_no {p : Int → Bool} {xs : List Int} {i : Nat} (h : i < xs.length) (hp : p xs[i] = false) : ((xs.take (i + 1)).filter p).length = ((xs.take i).filter p).length := by
  rw [List.take_succ_eq_append_getElem h, List.filter_append, List.length_append, List.filter_cons_of_neg (by simp [hp])]; rfl
/-- What 'within' holds between two rounds: i are looked at. w1: behind the list. -/
structure WiSt (p : Int → Bool) (xs : List Int) (O1 : Nat → Prop) (J : Nat → (Nat → Prop) → World → Prop) (W w1 : World) (i : Nat) (O' : Nat → Prop) (wr : World) : Prop where mk ::
  lt : ∀ b, O' b → (O1 b ∨ w1.heap.size ≤ b) ∧ b < wr.heap.size
  kp : Kpt O1 W wr
  kp1 : Kpt O1 w1 wr
  inv : J ((xs.take i).filter p).length O' wr
set_option maxHeartbeats 2000000 in
theorem within1_it {S : Nat → Prop} {w : World} {A : Option Addr} {c : Nat} {t : List Nd} (hr : Row nodeK S w (.slice A t.length c) t) (hks : KidsOk t) (M : May t) {r : Int} (hrN : isN t r = true) {BT BR : Nat}
    (h1 : w.cell? ⟨BT, 0, none⟩ = some (.slice A t.length c)) (h2 : w.cell? ⟨BR, 0, none⟩ = some (.int .i64 r)) :
    IterB Tryz.prog 104 #[.pointer (some ⟨BT, 0, none⟩), .pointer (some ⟨BR, 0, none⟩)] (fun x : Int => #[.int .i64 x]) (fun _ => False) (fun b => S b ∨ b = BT ∨ b = BR) (slotsT t r) w := by
  intro l J Jx O W hk hO hJ hJx hJb hJxb hY h0
  have hOT : ¬ O BT := fun h => (hO BT h).2 (World.block_lt_of_cell? w _ h1) (.inr (.inl rfl))
  have hOR : ¬ O BR := fun h => (hO BR h).2 (World.block_lt_of_cell? w _ h2) (.inr (.inr rfl))
  have hrW := hr.bound.kpt hk (fun x hx hl h => (hO x h).2 hx.2 (.inl hx.1))
  have hOS : ∀ x, S x ∧ x < w.heap.size → ¬ O x := fun x hx h => (hO x h).2 hx.2 (.inl hx.1)
  have cT := hk.cell (p := ⟨BT, 0, none⟩) hOT h1
  have cR := hk.cell (p := ⟨BR, 0, none⟩) hOR h2
  have hSW := hk.size
  -- the blocks that are there alone
  have h0' := hJb 0 O W h0
  obtain ⟨O1, hO1⟩ : ∃ O1 : Nat → Prop, O1 = fun b => O b ∧ b < W.heap.size := ⟨_, rfl⟩
  rw [← hO1] at h0'
  have hO1s : ∀ b, O1 b → O b ∧ b < W.heap.size := fun b hb => by rw [hO1] at hb; exact hb
  clear hr h0 h1 h2 hO1
  have cl := olist_r hrW hks r
  rw [show listR t r = listT t r from if_pos ⟨May.iff.2 M, hrN⟩] at cl
  have hxN : ∀ x ∈ listT t r, isN t x = true := fun x hx => ((M.mem_listT hrN).1 hx).1
  have hle := M.listT_le hrN
  have hl2 := M.len2
  unfold slotsT at hY ⊢
  generalize listT t r = xs at cl hY hxN hle ⊢
  refine callsIn_of_wp Tryz.func104 rfl trivial ?_ rfl; simp only [Tryz.ntmps104, List.size_toArray, List.length_cons, List.length_nil, Nat.reduceAdd, Nat.reduceSub, Array.replicate_succ, Array.replicate_zero, List.push_toArray, List.append_toArray, List.nil_append, List.cons_append]
  gi_wp2
  refine ⟨trivial, rfl, (callsIn_wide.2 cl).mono ?_⟩
  rintro e w1 ⟨u, rfl, ho, hb1⟩
  obtain ⟨Al, cl', rfl, hlc, hlm⟩ := ho.reads.form
  have hb1s := hb1.size
  have hrl := (ho.reads.bound)
  have h01 : J 0 O1 w1 := hJ 0 O1 W w1 h0' (Kpt.of_stp hb1)
  have HW0 : WiSt (slotB t) xs O1 J W w1 0 O1 w1 := ⟨fun b hb => ⟨.inl hb, by have := (hO1s b hb).2; omega⟩, Kpt.of_stp hb1, Kpt.refl _ _, h01⟩
  have HW1 := Lib.hid HW0
  clear ho cl HW0 h01 h0'
  gi_wp2
  gi_loopw [5, 10] (fun s5 s10 wr => ∃ (i : Nat) (O' : Nat → Prop), s10 = .int .i64 i ∧ i ≤ xs.length ∧ Aside (WiSt (slotB t) xs O1 J W w1 i O' wr)) (fun _ s10 _ => xs.length - (intOf s10).toNat)
  case atStart => exact ⟨0, O1, rfl, Nat.zero_le _, HW1.out⟩
  case round =>
    obtain ⟨i, O', rfl, hi, HA⟩ := hrel
    have hst := Lib.hid HA.out
    have cT' := HA.out.kp.cell (p := ⟨BT, 0, none⟩) (fun h => hOT (hO1s _ h).1) cT
    by_cases hlt : i < xs.length
    · have hltz : (i : Int) < (xs.length : Int) := by omega
      have hrow := hrl.kpt HA.out.kp1 (fun x hx _ h => by have := (hO1s x h).2; have := hx.1; omega)
      obtain ⟨b', o', rfl, _, _, y0⟩ := int_at hrow i hlt
      have hrt : Row nodeK (fun b => S b ∧ b < w.heap.size) wr (.slice A t.length c) t := hrW.kpt HA.out.kp fun x hx _ h => hOS x hx (hO1s x h).1
      have hyN := hxN _ (List.getElem_mem hlt)
      have cs := slslot_r hrt hks M hyN
      have HY := fun (hp : slotB t xs[i] = true) => filter_take_len hlt hp
      have HZ := fun (hp : slotB t xs[i] = true) => filter_take_yes hlt hp
      have HN := fun (hp : slotB t xs[i] = false) => filter_take_no hlt hp
      generalize hy : xs[i] = y at y0 cs HY HZ HN
      clear hy hyN
      cases hq : slotB t y with
      | false =>
        rw [hq] at cs
        have HN2 := Lib.hid (HN hq)
        clear HY HZ HN hrow hrt HA
        gi_wp2
        refine ⟨trivial, rfl, (callsIn_wide.2 cs).mono ?_⟩
        rintro e w2 ⟨rfl, hb2⟩
        gi_wp2
        refine ⟨fun _ h => (by cases h), ?_⟩
        gi_wp2
        go_roundw
        case rel => exact ⟨i + 1, O', by go_num, by omega, ⟨fun b hb => ⟨(hst.out.lt b hb).1, Nat.lt_of_lt_of_le (hst.out.lt b hb).2 hb2.size⟩, hst.out.kp.trans (Kpt.of_stp (O := fun _ => False) hb2) fun x hx => hx.elim, hst.out.kp1.trans (Kpt.of_stp (O := fun _ => False) hb2) fun x hx => hx.elim, by rw [HN2.out]; exact hJ _ _ _ _ hst.out.inv (Kpt.of_stp hb2)⟩⟩
        case measure => simp [intOf]; omega
      | true =>
        rw [hq] at cs
        obtain ⟨hkx, hxk⟩ := HY hq
        have HZ2 := Lib.hid (HZ hq)
        have hinv2 := fun (w2 : World) (hb2 : Stp wr w2) => hJ _ O' _ w2 hst.out.inv (Kpt.of_stp hb2)
        have hY1 := fun (w2 : World) (hb2 : Stp wr w2) => hY _ hkx O' w2 (hinv2 w2 hb2)
        rw [hxk] at hY1
        have hY2 := Lib.hid hY1
        clear HY HZ HN hrow hrt HA hkx hxk hinv2 hY1
        gi_wp2
        refine ⟨trivial, rfl, (callsIn_wide.2 cs).mono ?_⟩
        rintro e w2 ⟨rfl, hb2⟩
        gi_wp2
        obtain ⟨fn, tmps, assign, body, hy, hR⟩ := hY2.out w2 hb2
        rw [hy]
        refine ⟨fun h => by simp [Fence.wide] at h, hR.mono ?_⟩
        have hst2 : WiSt (slotB t) xs O1 J W w1 i O' w2 := ⟨fun b hb => ⟨(hst.out.lt b hb).1, Nat.lt_of_lt_of_le (hst.out.lt b hb).2 hb2.size⟩, hst.out.kp.trans (Kpt.of_stp (O := fun _ => False) hb2) fun x hx => hx.elim, hst.out.kp1.trans (Kpt.of_stp (O := fun _ => False) hb2) fun x hx => hx.elim, hJ _ _ _ _ hst.out.inv (Kpt.of_stp hb2)⟩
        have hst3 := Lib.hid hst2
        clear hst2
        rintro e W3 ⟨O3, h3, hk3, (⟨rfl, hj3⟩ | ⟨rfl, hj3⟩)⟩
        · have hj4 := hJb _ _ _ hj3
          have hst4 : WiSt (slotB t) xs O1 J W w1 (i + 1) (fun b => O3 b ∧ b < W3.heap.size) W3 := by
            have hs12 := hst3.out.kp1.size
            have hsW := hst3.out.kp.size
            exact ⟨fun b hb => ⟨(h3 b hb.1).elim (fun h => (hst3.out.lt b h).1) (fun h => .inr (by omega)), hb.2⟩, hst3.out.kp.trans hk3 fun x hx => (hst3.out.lt x hx).1.imp id (fun h => by omega), hst3.out.kp1.trans hk3 fun x hx => (hst3.out.lt x hx).1, by rw [HZ2.out]; exact hj4⟩
          have hst5 := Lib.hid hst4
          clear hst4 hj4 hj3 hk3 h3
          gi_wp2
          go_roundw
          case rel => exact ⟨i + 1, _, by go_num, by omega, hst5.out⟩
          case measure => simp [intOf]; omega
        · gi_wp2
          refine bodyPost_ret (results_none rfl _ _ _) rfl ?_
          exact ⟨⟨_, rfl⟩, O3, .inr ⟨_, hj3⟩⟩
    · have hltz : ¬ (i : Int) < (xs.length : Int) := by omega
      have hix : i = xs.length := by omega
      subst hix
      gi_wp2
      refine bodyPost_end (results_none rfl _ _ _) rfl ?_
      exact ⟨⟨_, rfl⟩, O', .inl (by have := hst.out.inv; rwa [List.take_of_length_le (Nat.le_refl _)] at this)⟩
end Go.Proofs.Lime
namespace Go.Proofs.Lime
open Go.RowKit
set_option linter.unusedVariables false
set_option linter.unusedSimpArgs false
attribute [local go_sem] Oper.semAt_some

/-- What 'Of' holds between two rounds: Br the result's cell. -/
structure OfSt (p : Int → Bool) (xs : List Int) (Br : Nat) (w : World) (k : Nat) (O : Nat → Prop) (W : World) : Prop where mk ::
  oR : O Br
  new : ∀ x, O x → x = Br ∨ w.heap.size ≤ x
  kp : Kpt (fun x => x = Br) w W
  bR : ∃ r, Boxed W Br 3 (.int .i64 r)
  rest : fstOf p (xs.drop k) = fstOf p xs
structure OfEx (p : Int → Bool) (xs : List Int) (Br : Nat) (w : World) (O : Nat → Prop) (W : World) : Prop where mk ::
  oR : O Br
  new : ∀ x, O x → x = Br ∨ w.heap.size ≤ x
  kp : Kpt (fun x => x = Br) w W
  bR : Boxed W Br 3 (.int .i64 (fstOf p xs))
theorem of_abide (p : Int → Bool) (xs : List Int) (Br : Nat) (w : World) : Abide (fun _ => False) w.heap.size (OfSt p xs Br w) := by
  intro k O A W h hk
  obtain ⟨r, hr⟩ := h.bR
  exact ⟨h.oR, h.new, h.kp.trans hk (fun x hx => .inr (hx.2.resolve_left id)), ⟨r, Boxed.keep hr hk (fun hb => hb.1 h.oR)⟩, h.rest⟩
theorem ofx_abide (p : Int → Bool) (xs : List Int) (Br : Nat) (w : World) (c : Code) : Abide (fun _ => False) w.heap.size (fun _ O W => c = .ret ∧ OfEx p xs Br w O W) := by
  rintro k O A W ⟨hc, h⟩ hk
  exact ⟨hc, h.oR, h.new, h.kp.trans hk (fun x hx => .inr (hx.2.resolve_left id)), Boxed.keep h.bR hk (fun hb => hb.1 h.oR)⟩
theorem of_bnd (p : Int → Bool) (xs : List Int) (Br : Nat) (w : World) : Bnd (OfSt p xs Br w) := by
  intro k O W h
  obtain ⟨r, hr⟩ := h.bR
  exact ⟨⟨h.oR, hr.lt⟩, fun x hx => h.new x hx.1, h.kp, ⟨r, hr⟩, h.rest⟩
theorem ofx_bnd (p : Int → Bool) (xs : List Int) (Br : Nat) (w : World) (c : Code) : Bnd (fun _ O W => c = .ret ∧ OfEx p xs Br w O W) := by
  rintro k O W ⟨hc, h⟩
  exact ⟨hc, ⟨h.oR, h.bR.lt⟩, fun x hx => h.new x hx.1, h.kp, h.bR⟩
set_option maxRecDepth 100000 in
set_option maxHeartbeats 4000000 in
theorem slof_r {S : Nat → Prop} {w : World} {v : Value} {t : List Nd} (hr : Row nodeK S w v t) (hks : KidsOk t) (n : Int) :
    Calls Tryz.prog 68 #[v, .int .i64 n] w fun e w' => e = .returned (.int .i64 (ofR t n)) ∧ Stp w w' := by
  have hrb := hr.bound
  obtain ⟨A, c, rfl, hc, hm⟩ := hr.form
  have eg := (enters_of Tryz.func104 (by kernel_rfl) rfl)
  obtain ⟨w3, hw3, hs3, hz3, bT, bR⟩ := two_boxes w 23 3 (.slice A t.length c) (.int .i64 0)
  have cr := slroot_r (hr.stp hs3) hks n
  have cT := Boxed.cell bT
  have cR := Boxed.cell bR
  have hback : ∀ (w' : World) (w4 : World), Stp w3 w4 → Kpt (fun x => x = w.heap.size + 1) w4 w' → Stp w w' := fun w' w4 h1 h2 =>
    ((Kpt.of_stp (O := fun x => x = w.heap.size + 1) (hs3.trans h1)).trans h2 fun x hx => .inl hx).stp fun x hx => by omega
  by_cases hov : overR t n = -1
  · have HR := Lib.hid (show ofR t n = -1 by
      unfold ofR
      by_cases ho : mayT t = true ∧ isN t n = true
      · rw [if_pos ho, ofT, if_pos (by rw [← hov, overR, if_pos ho])]
      · rw [if_neg ho])
    rw [hov] at cr
    clear hov
    refine (callsIn_wide (n := 0)).1 (callsIn_of_wp_marks Tryz.func68 rfl trivial (wpIn_wide.2 ?_) rfl); simp only [Tryz.ntmps68, List.size_toArray, List.length_cons, List.length_nil, Nat.reduceAdd, Nat.reduceSub, Array.replicate_succ, Array.replicate_zero, List.push_toArray, List.append_toArray, List.nil_append, List.cons_append]
    go_wp2_with fail
    refine cr.mono ?_
    rintro e w4 ⟨rfl, hb4⟩
    replace bR := Boxed.stp bR hb4
    replace cR := Boxed.cell bR
    have fR := Boxed.frozen bR
    go_wp2
    exact ⟨.int .i64 (-1), by simp [results, Tryz.results68, go_sem, World.cell?_setCell_same' _ _ _ (show (_ : Option Value).isSome = true by rw [cR]; rfl)], by rw [HR.out], hback _ _ hb4 (Kpt.setCell (O := fun x => x = w.heap.size + 1) w4 _ rfl)⟩
  · have ho : mayT t = true ∧ isN t n = true := Classical.byContradiction fun h => hov (if_neg h)
    have M := May.of ho.1
    have hn := ho.2
    have hov2 : overR t n = overT t n := if_pos ho
    rw [hov2] at hov cr
    obtain ⟨_, _, _, _, hrN, _⟩ := M.over_root hn hov
    have HR := Lib.hid (show ofR t n = fstOf (fitB t (attrR t (overT t n) 8).isSome (attrR t n 9) ((attrR t n 4).getD 0)) (slotsT t (overT t n)) by
      rw [ofR, if_pos ho, ofT, if_neg hov, attrR, if_pos ⟨ho.1, hrN⟩, attrR, if_pos ho, attrR, if_pos ho]; rfl)
    have hle : (slotsT t (overT t n)).length ≤ 1000000 := by have h1 := List.length_filter_le (slotB t) (listT t (overT t n)); have h2 := M.listT_le hrN; have h3 := M.len2; unfold slotsT; omega
    have hsl := Lib.hid (fun s (hs : s ∈ slotsT t (overT t n)) => (M.slot_in hrN hs).1)
    obtain ⟨k, hk, hkt⟩ := isN_nat hrN
    rw [hk] at cr HR hle hsl hrN
    have hkn : ((k : Int) == -1) = false := by simp
    have hrN2 := Lib.hid hrN
    have hm1 := Lib.hid ho.1
    have cg := fun W (hW : Stp w W) => aget_r (hr.stp hW) hks n 9
    have ch := fun W (hW : Stp w W) => ahas_r (hr.stp hW) hks k 8
    have cn := fun W (hW : Stp w W) => slname_r (hr.stp hW) hks n
    have HC := Lib.hid (show attrR t n 9 = if (attrR t n 9).isSome = true then some ((attrR t n 9).getD 0) else none by cases attrR t n 9 <;> rfl)
    generalize (attrR t n 9).getD 0 = aat at cg HC
    generalize (attrR t n 9).isSome = cho at cg HC
    generalize attrR t n 9 = av at HR HC
    generalize (attrR t k 8).isSome = man at ch HR
    generalize (attrR t n 4).getD 0 = mine at cn HR
    clear ho hov hov2 hn hk hrN
    refine (callsIn_wide (n := 0)).1 (callsIn_of_wp_marks Tryz.func68 rfl trivial (wpIn_wide.2 ?_) rfl); simp only [Tryz.ntmps68, List.size_toArray, List.length_cons, List.length_nil, Nat.reduceAdd, Nat.reduceSub, Array.replicate_succ, Array.replicate_zero, List.push_toArray, List.append_toArray, List.nil_append, List.cons_append]
    go_wp2_with fail
    refine cr.mono ?_
    rintro e w4 ⟨rfl, hb4⟩
    replace bR := Boxed.stp bR hb4
    replace bT := Boxed.stp bT hb4
    replace cT := Boxed.cell bT
    have hsz4 : w.heap.size + 2 ≤ w4.heap.size := by have := hb4.size; omega
    clear cR
    go_wp2_with fail
    refine (cg _ Lime.stp_).mono ?_
    rintro e w5 ⟨rfl, hb5⟩
    replace bR := Boxed.stp bR hb5
    replace bT := Boxed.stp bT hb5
    replace cT := Boxed.cell bT
    obtain ⟨w6, hw6, hs6, hz6, bA, bC⟩ := two_boxes w5 3 4 (.int .i64 aat) (.bool cho)
    replace bR := Boxed.stp bR hs6
    replace bT := Boxed.stp bT hs6
    replace cT := Boxed.cell bT
    have hsz5 := hb5.size
    have cha := fun (_ : Unit) => ch w6 Lime.stp_
    clear ch
    go_wp2_with fail
    refine (cha ()).mono ?_
    rintro e w7 ⟨rfl, hb7⟩
    clear hw6 cha
    replace bR := Boxed.stp bR hb7
    replace bT := Boxed.stp bT hb7
    replace bA := Boxed.stp bA hb7
    replace bC := Boxed.stp bC hb7
    obtain ⟨w8, hw8, hs8, hz8, bM⟩ := one_box w7 4 (.bool man)
    replace bR := Boxed.stp bR hs8
    replace bT := Boxed.stp bT hs8
    replace bA := Boxed.stp bA hs8
    replace bC := Boxed.stp bC hs8
    replace cT := Boxed.cell bT
    have hsz7 := hb7.size
    have cna := fun (_ : Unit) => cn w8 Lime.stp_
    clear cn
    go_wp2_with fail
    refine (cna ()).mono ?_
    rintro e w9 ⟨rfl, hb9⟩
    clear hw8 cna
    replace bR := Boxed.stp bR hb9
    replace bT := Boxed.stp bT hb9
    replace bA := Boxed.stp bA hb9
    replace bC := Boxed.stp bC hb9
    replace bM := Boxed.stp bM hb9
    obtain ⟨w10, hw10, hs10, hz10, bN⟩ := one_box w9 3 (.int .i64 mine)
    replace bR := Boxed.stp bR hs10
    replace bT := Boxed.stp bT hs10
    replace bA := Boxed.stp bA hs10
    replace bC := Boxed.stp bC hs10
    replace bM := Boxed.stp bM hs10
    replace cT := Boxed.cell bT
    have hsz9 := hb9.size
    go_wp2_with (go_at_call 89; refine (within_c _ _ _ _ _).mono ?_; rintro e w' ⟨rfl, rfl⟩)
    clear hw10
    obtain ⟨w11, hw11, hs11, hz11, bL, bK⟩ := two_boxes w10 23 3 (.slice A t.length c) (.int .i64 k)
    rw [hw11]
    clear hw11
    have hst11 : Stp w3 w11 := hb4.trans (hb5.trans (hs6.trans (hb7.trans (hs8.trans (hb9.trans (hs10.trans hs11))))))
    have hst : Stp w w11 := hs3.trans hst11
    rw [hz10] at bL bK hz11
    have hit := within1_it (hrb.stp hst) hks M hrN2.out (Boxed.cell bL) (Boxed.cell bK)
    replace bT := Boxed.stp bT hs11
    replace bR := Boxed.stp bR hs11
    replace bA := Boxed.stp bA hs11
    replace bC := Boxed.stp bC hs11
    replace bM := Boxed.stp bM hs11
    replace bN := Boxed.stp bN hs11
    generalize hxs : slotsT t k = xs at HR hit hle hsl
    clear hxs cg cT cr
    clear hb4 hb5 hb7 hb9 hs6 hs8 hs10 hs11
    have hnm := Lib.hid (fun (s : Int) (h : isN t s = true) => show (attrR t s 4).getD 0 = nameT t s by rw [attrR, if_pos ⟨hm1.out, h⟩]; rfl)
    have cnn := fun W (hW : Row nodeK (fun k => S k ∧ k < w.heap.size) W (.slice A t.length c) t) x => slname_r hW hks x
    refine wp_rangeB (gf := 104) rfl eg hit (fun _ => rfl) (fun _ h => h.elim) (fun x => x = w.heap.size + 1) (fun x hx => ⟨by omega, id, fun h => h.elim (fun h => by have := h.2; omega) (fun h => by omega)⟩) (OfSt (fitB t man av mine) xs (w.heap.size + 1) w11) (fun c _ O W => c = .ret ∧ OfEx (fitB t man av mine) xs (w.heap.size + 1) w11 O W) (of_abide _ _ _ _) (ofx_abide _ _ _ _) (of_bnd _ _ _ _) (ofx_bnd _ _ _ _) ⟨rfl, fun x hx => .inl hx, Kpt.refl _ _, ⟨_, bR⟩, rfl⟩ (fun x => { tmps := #[.slice A t.length c, .int .i64 n, .pointer (some ⟨w.heap.size, 0, none⟩), undef, .pointer (some ⟨w.heap.size + 1, 0, none⟩), .int .i64 k, .pointer (some ⟨w5.heap.size, 0, none⟩), .pointer (some ⟨w5.heap.size + 1, 0, none⟩), .pointer (some ⟨w7.heap.size, 0, none⟩), .pointer (some ⟨w9.heap.size, 0, none⟩), .int .i64 x, .slice A t.length c, .int .i64 n, .int .i64 k, .int .i64 k, .bool false, .tuple #[.int .i64 aat, .bool cho], .slice A t.length c, .int .i64 n, .tuple #[.int .i64 aat, .bool cho], .int .i64 aat, .bool cho, .slice A t.length c, .int .i64 k, .bool man, .slice A t.length c, .int .i64 n, .int .i64 mine, .slice A t.length c, .int .i64 k, .func (.func 104) #[] #[.pointer (some ⟨w9.heap.size + 1, 0, none⟩), .pointer (some ⟨w9.heap.size + 1 + 1, 0, none⟩)], .int .i64 x, undef, undef, undef, undef, undef, undef, undef, undef, undef, undef, undef, undef, undef, undef, undef, undef, undef, undef, undef, undef, undef], defers := [] }) ?_ ?_ ?_ ?_
    · intro l x W K hK
      gi_wp2
      exact hK
    · intro l k' hk' O W hI
      have cT := hI.kp.cell (p := ⟨w.heap.size, 0, none⟩) (by show ¬ (w.heap.size = _); omega) (Boxed.cell bT)
      have cA := hI.kp.cell (p := ⟨w5.heap.size, 0, none⟩) (by show ¬ (w5.heap.size = _); omega) (Boxed.cell bA)
      have cC := hI.kp.cell (p := ⟨w5.heap.size + 1, 0, none⟩) (by show ¬ (w5.heap.size + 1 = _); omega) (Boxed.cell bC)
      have cM := hI.kp.cell (p := ⟨w7.heap.size, 0, none⟩) (by show ¬ (w7.heap.size = _); omega) (Boxed.cell bM)
      have cN := hI.kp.cell (p := ⟨w9.heap.size, 0, none⟩) (by show ¬ (w9.heap.size = _); omega) (Boxed.cell bN)
      obtain ⟨r, hR⟩ := hI.bR
      have he := hI.rest
      rw [List.drop_eq_getElem_cons hk', fstOf_cons] at he
      have hrW : Row nodeK (fun k => S k ∧ k < w.heap.size) W (.slice A t.length c) t := (hrb.stp hst).kpt hI.kp fun x hx _ h => by have := hx.2; omega
      have cn := fun W2 (h2 : Stp W W2) => cnn W2 (hrW.stp h2) xs[k']
      have hxN := hsl.out _ (List.getElem_mem hk')
      rw [hnm.out _ hxN] at cn
      have HE := Lib.hid he
      have H2 := Lib.hid hI
      have hRq := Lib.hid hR
      clear he hI hR hxN hrW
      generalize xs[k'] = x at HE cn
      -- what is done where the slot fits, and where it does not
      have yes : fitB t man av mine x = true → ∀ (a' : Act) W3, Stp W W3 → ∃ r', Boxed W3 (w.heap.size + 1) 3 (.int .i64 r') ∧ roundEnd (OfSt (fitB t man av mine) xs (w.heap.size + 1) w11) (fun c _ O W => c = .ret ∧ OfEx (fitB t man av mine) xs (w.heap.size + 1) w11 O W) k' O W .ret a' (W3.setCell ⟨w.heap.size + 1, 0, none⟩ (.int .i64 x)) := by
        intro hf a' W3 h3
        have hb := Boxed.stp hRq.out h3
        refine ⟨r, hb, O, fun b hb => .inl hb, ?_, rfl, H2.out.oR, H2.out.new, ?_, ?_⟩
        · exact (Kpt.of_stp h3).trans (Kpt.setCell (O := O) W3 _ H2.out.oR) fun x hx => .inl hx
        · exact (H2.out.kp.trans (Kpt.of_stp (O := fun _ => False) h3) fun x hx => hx.elim).trans (Kpt.setCell (O := fun x => x = w.heap.size + 1) W3 _ rfl) fun x hx => .inl hx
        · have := HE.out
          rw [if_pos hf] at this
          rw [← this]
          exact Boxed.set _ hb
      have no : fitB t man av mine x = false → ∀ (a' : Act) W3, Stp W W3 → roundEnd (OfSt (fitB t man av mine) xs (w.heap.size + 1) w11) (fun c _ O W => c = .ret ∧ OfEx (fitB t man av mine) xs (w.heap.size + 1) w11 O W) k' O W .normal a' W3 := by
        intro hf a' W3 h3
        refine ⟨O, fun b hb => .inl hb, Kpt.of_stp h3, H2.out.oR, H2.out.new, H2.out.kp.trans (Kpt.of_stp (O := fun _ => False) h3) fun x hx => hx.elim, ⟨r, Boxed.stp hRq.out h3⟩, ?_⟩
        have := HE.out
        rwa [if_neg (by rw [hf]; simp)] at this
      have yes2 := Lib.hid yes
      have no2 := Lib.hid no
      clear yes no
      cases man with
      | true =>
        cases cho with
        | true =>
          have hav := HC.out
          rw [if_pos rfl] at hav
          subst hav
          cases hx : (x == aat) with
          | true =>
            have hf : fitB t true (some aat) mine x = true := by
              have e : x = aat := eq_of_beq hx
              rw [fitB, if_pos rfl, e]; exact beq_self_eq_true _
            have hf2 := Lib.hid hf
            clear hf
            gi_wp2
            refine wp_region_plan_in (Plan.calm 0 (Plan.calm 1 (Plan.calm 2 (Plan.calm 3 (Plan.calm 4 (Plan.calm 5 (Plan.calm 6 (Plan.calm 7 (Plan.calm 8 (Plan.calm 9 (Plan.calm 10 (Plan.calm 11 (Plan.calm 12 (Plan.calm 13 (Plan.calm 14 (Plan.calm 16 (Plan.alt 15 (Plan.calm 17 (Plan.calm 18 (Plan.calm 19 Plan.done))) Plan.stop))))))))))))))))) (by kernel_rfl) (by kernel_rfl) (by kernel_rfl) (by kernel_rfl) (by rintro ⟨_, _, h⟩; exact h) ?_
            have hS : Stp W W.drew := (Stp.refl _).drew
            (first | (refine plan_calm (v := ?_) Lime.getop_ (by rfl) (fun W hW => ?_) ?_; rotate_left; (focus (have q0_ := (hS.trans hW).cell cT; have q1_ := (hS.trans hW).cell cM; have q2_ := (hS.trans hW).cell cC; have q3_ := (hS.trans hW).cell cA; have q4_ := (hS.trans hW).cell cN; clear hW; (exact Lime.calm_)))) | (refine plan_calm_skip Lime.getop_ (by rfl) ?_)); (try simp only [Act.put, List.setIfInBounds_toArray, List.set_cons_zero, List.set_cons_succ])
            (first | (refine plan_calm (v := ?_) Lime.getop_ (by rfl) (fun W hW => ?_) ?_; rotate_left; (focus (exact Lime.calm_))) | (refine plan_calm_skip Lime.getop_ (by rfl) ?_)); (try simp only [Act.put, List.setIfInBounds_toArray, List.set_cons_zero, List.set_cons_succ])
            (first | (refine plan_calm (v := ?_) Lime.getop_ (by rfl) (fun W hW => ?_) ?_; rotate_left; (focus (have q0_ := (hS.trans hW).cell cT; have q1_ := (hS.trans hW).cell cM; have q2_ := (hS.trans hW).cell cC; have q3_ := (hS.trans hW).cell cA; have q4_ := (hS.trans hW).cell cN; clear hW; (exact Lime.calm_)))) | (refine plan_calm_skip Lime.getop_ (by rfl) ?_)); (try simp only [Act.put, List.setIfInBounds_toArray, List.set_cons_zero, List.set_cons_succ])
            iterate 3 ((first | (refine plan_calm (v := ?_) Lime.getop_ (by rfl) (fun W hW => ?_) ?_; rotate_left; (focus (exact Lime.calm_))) | (refine plan_calm_skip Lime.getop_ (by rfl) ?_)); (try simp only [Act.put, List.setIfInBounds_toArray, List.set_cons_zero, List.set_cons_succ]))
            (first | (refine plan_calm (v := ?_) Lime.getop_ (by rfl) (fun W hW => ?_) ?_; rotate_left; (focus (have q0_ := (hS.trans hW).cell cT; have q1_ := (hS.trans hW).cell cM; have q2_ := (hS.trans hW).cell cC; have q3_ := (hS.trans hW).cell cA; have q4_ := (hS.trans hW).cell cN; clear hW; (exact Lime.calm_)))) | (refine plan_calm_skip Lime.getop_ (by rfl) ?_)); (try simp only [Act.put, List.setIfInBounds_toArray, List.set_cons_zero, List.set_cons_succ])
            iterate 3 ((first | (refine plan_calm (v := ?_) Lime.getop_ (by rfl) (fun W hW => ?_) ?_; rotate_left; (focus (exact Lime.calm_))) | (refine plan_calm_skip Lime.getop_ (by rfl) ?_)); (try simp only [Act.put, List.setIfInBounds_toArray, List.set_cons_zero, List.set_cons_succ]))
            (first | (refine plan_calm (v := ?_) Lime.getop_ (by rfl) (fun W hW => ?_) ?_; rotate_left; (focus (have q0_ := (hS.trans hW).cell cT; have q1_ := (hS.trans hW).cell cM; have q2_ := (hS.trans hW).cell cC; have q3_ := (hS.trans hW).cell cA; have q4_ := (hS.trans hW).cell cN; clear hW; (exact Lime.calm_)))) | (refine plan_calm_skip Lime.getop_ (by rfl) ?_)); (try simp only [Act.put, List.setIfInBounds_toArray, List.set_cons_zero, List.set_cons_succ])
            iterate 2 ((first | (refine plan_calm (v := ?_) Lime.getop_ (by rfl) (fun W hW => ?_) ?_; rotate_left; (focus (exact Lime.calm_))) | (refine plan_calm_skip Lime.getop_ (by rfl) ?_)); (try simp only [Act.put, List.setIfInBounds_toArray, List.set_cons_zero, List.set_cons_succ]))
            (first | (refine plan_calm (v := ?_) Lime.getop_ (by rfl) (fun W hW => ?_) ?_; rotate_left; (focus (have q0_ := (hS.trans hW).cell cT; have q1_ := (hS.trans hW).cell cM; have q2_ := (hS.trans hW).cell cC; have q3_ := (hS.trans hW).cell cA; have q4_ := (hS.trans hW).cell cN; clear hW; (exact Lime.calm_)))) | (refine plan_calm_skip Lime.getop_ (by rfl) ?_)); (try simp only [Act.put, List.setIfInBounds_toArray, List.set_cons_zero, List.set_cons_succ])
            (first | (refine plan_calm (v := ?_) Lime.getop_ (by rfl) (fun W hW => ?_) ?_; rotate_left; (focus (exact Lime.calm_))) | (refine plan_calm_skip Lime.getop_ (by rfl) ?_)); (try simp only [Act.put, List.setIfInBounds_toArray, List.set_cons_zero, List.set_cons_succ])
            (first | (refine plan_calm (v := ?_) Lime.getop_ (by rfl) (fun W hW => ?_) ?_; rotate_left; (focus (have q0_ := (hS.trans hW).cell cT; have q1_ := (hS.trans hW).cell cM; have q2_ := (hS.trans hW).cell cC; have q3_ := (hS.trans hW).cell cA; have q4_ := (hS.trans hW).cell cN; clear hW; (exact Lime.calm_)))) | (refine plan_calm_skip Lime.getop_ (by rfl) ?_)); (try simp only [Act.put, List.setIfInBounds_toArray, List.set_cons_zero, List.set_cons_succ])
            (first | (refine plan_event Lime.getop_ (by rfl) (fun K hK => ?_) plan_stop; go_simp; refine (show Calls Tryz.prog 88 _ _ _ from cn _ Lime.stp_).mono ?_; rintro e w2 ⟨rfl, hb2⟩; refine hK _ _ ?_ (fun hst => ?_); (focus (exact Lime.stp_)); replace hS := hS.trans hst; clear hst hK K) | refine plan_event_skip Lime.getop_ (by rfl) ?_ plan_stop); (try simp only [Act.put, List.setIfInBounds_toArray, List.set_cons_zero, List.set_cons_succ])
            iterate 3 ((first | (refine plan_calm (v := ?_) Lime.getop_ (by rfl) (fun W hW => ?_) ?_; rotate_left; (focus (exact Lime.calm_))) | (refine plan_calm_skip Lime.getop_ (by rfl) ?_)); (try simp only [Act.put, List.setIfInBounds_toArray, List.set_cons_zero, List.set_cons_succ]))
            refine plan_done ?_
            obtain ⟨r', hb', hfin⟩ := yes2.out hf2.out (Act.mk #[] []) _ (show Stp W W.drew by (exact Lime.stp_))
            have cR' := Boxed.cell hb'
            have fR' := Boxed.frozen hb'
            gi_wp2
            exact hfin
          | false =>
            have hf : fitB t true (some aat) mine x = false := by
              have e : ¬ aat = x := fun e => by rw [e, beq_self_eq_true] at hx; cases hx
              rw [fitB, if_pos rfl]; exact beq_eq_false_iff_ne.2 fun h => e (Option.some.inj h)
            have hf2 := Lib.hid hf
            clear hf
            gi_wp2
            refine wp_region_plan_in (Plan.calm 0 (Plan.calm 1 (Plan.calm 2 (Plan.calm 3 (Plan.calm 4 (Plan.calm 5 (Plan.calm 6 (Plan.calm 7 (Plan.calm 8 (Plan.calm 9 (Plan.calm 10 (Plan.calm 11 (Plan.calm 12 (Plan.calm 13 (Plan.calm 14 (Plan.calm 16 (Plan.alt 15 (Plan.calm 17 (Plan.calm 18 (Plan.calm 19 Plan.done))) Plan.stop))))))))))))))))) (by kernel_rfl) (by kernel_rfl) (by kernel_rfl) (by kernel_rfl) (by rintro ⟨_, _, h⟩; exact h) ?_
            have hS : Stp W W.drew := (Stp.refl _).drew
            (first | (refine plan_calm (v := ?_) Lime.getop_ (by rfl) (fun W hW => ?_) ?_; rotate_left; (focus (have q0_ := (hS.trans hW).cell cT; have q1_ := (hS.trans hW).cell cM; have q2_ := (hS.trans hW).cell cC; have q3_ := (hS.trans hW).cell cA; have q4_ := (hS.trans hW).cell cN; clear hW; (exact Lime.calm_)))) | (refine plan_calm_skip Lime.getop_ (by rfl) ?_)); (try simp only [Act.put, List.setIfInBounds_toArray, List.set_cons_zero, List.set_cons_succ])
            (first | (refine plan_calm (v := ?_) Lime.getop_ (by rfl) (fun W hW => ?_) ?_; rotate_left; (focus (exact Lime.calm_))) | (refine plan_calm_skip Lime.getop_ (by rfl) ?_)); (try simp only [Act.put, List.setIfInBounds_toArray, List.set_cons_zero, List.set_cons_succ])
            (first | (refine plan_calm (v := ?_) Lime.getop_ (by rfl) (fun W hW => ?_) ?_; rotate_left; (focus (have q0_ := (hS.trans hW).cell cT; have q1_ := (hS.trans hW).cell cM; have q2_ := (hS.trans hW).cell cC; have q3_ := (hS.trans hW).cell cA; have q4_ := (hS.trans hW).cell cN; clear hW; (exact Lime.calm_)))) | (refine plan_calm_skip Lime.getop_ (by rfl) ?_)); (try simp only [Act.put, List.setIfInBounds_toArray, List.set_cons_zero, List.set_cons_succ])
            iterate 3 ((first | (refine plan_calm (v := ?_) Lime.getop_ (by rfl) (fun W hW => ?_) ?_; rotate_left; (focus (exact Lime.calm_))) | (refine plan_calm_skip Lime.getop_ (by rfl) ?_)); (try simp only [Act.put, List.setIfInBounds_toArray, List.set_cons_zero, List.set_cons_succ]))
            (first | (refine plan_calm (v := ?_) Lime.getop_ (by rfl) (fun W hW => ?_) ?_; rotate_left; (focus (have q0_ := (hS.trans hW).cell cT; have q1_ := (hS.trans hW).cell cM; have q2_ := (hS.trans hW).cell cC; have q3_ := (hS.trans hW).cell cA; have q4_ := (hS.trans hW).cell cN; clear hW; (exact Lime.calm_)))) | (refine plan_calm_skip Lime.getop_ (by rfl) ?_)); (try simp only [Act.put, List.setIfInBounds_toArray, List.set_cons_zero, List.set_cons_succ])
            iterate 3 ((first | (refine plan_calm (v := ?_) Lime.getop_ (by rfl) (fun W hW => ?_) ?_; rotate_left; (focus (exact Lime.calm_))) | (refine plan_calm_skip Lime.getop_ (by rfl) ?_)); (try simp only [Act.put, List.setIfInBounds_toArray, List.set_cons_zero, List.set_cons_succ]))
            (first | (refine plan_calm (v := ?_) Lime.getop_ (by rfl) (fun W hW => ?_) ?_; rotate_left; (focus (have q0_ := (hS.trans hW).cell cT; have q1_ := (hS.trans hW).cell cM; have q2_ := (hS.trans hW).cell cC; have q3_ := (hS.trans hW).cell cA; have q4_ := (hS.trans hW).cell cN; clear hW; (exact Lime.calm_)))) | (refine plan_calm_skip Lime.getop_ (by rfl) ?_)); (try simp only [Act.put, List.setIfInBounds_toArray, List.set_cons_zero, List.set_cons_succ])
            iterate 2 ((first | (refine plan_calm (v := ?_) Lime.getop_ (by rfl) (fun W hW => ?_) ?_; rotate_left; (focus (exact Lime.calm_))) | (refine plan_calm_skip Lime.getop_ (by rfl) ?_)); (try simp only [Act.put, List.setIfInBounds_toArray, List.set_cons_zero, List.set_cons_succ]))
            (first | (refine plan_calm (v := ?_) Lime.getop_ (by rfl) (fun W hW => ?_) ?_; rotate_left; (focus (have q0_ := (hS.trans hW).cell cT; have q1_ := (hS.trans hW).cell cM; have q2_ := (hS.trans hW).cell cC; have q3_ := (hS.trans hW).cell cA; have q4_ := (hS.trans hW).cell cN; clear hW; (exact Lime.calm_)))) | (refine plan_calm_skip Lime.getop_ (by rfl) ?_)); (try simp only [Act.put, List.setIfInBounds_toArray, List.set_cons_zero, List.set_cons_succ])
            (first | (refine plan_calm (v := ?_) Lime.getop_ (by rfl) (fun W hW => ?_) ?_; rotate_left; (focus (exact Lime.calm_))) | (refine plan_calm_skip Lime.getop_ (by rfl) ?_)); (try simp only [Act.put, List.setIfInBounds_toArray, List.set_cons_zero, List.set_cons_succ])
            (first | (refine plan_calm (v := ?_) Lime.getop_ (by rfl) (fun W hW => ?_) ?_; rotate_left; (focus (have q0_ := (hS.trans hW).cell cT; have q1_ := (hS.trans hW).cell cM; have q2_ := (hS.trans hW).cell cC; have q3_ := (hS.trans hW).cell cA; have q4_ := (hS.trans hW).cell cN; clear hW; (exact Lime.calm_)))) | (refine plan_calm_skip Lime.getop_ (by rfl) ?_)); (try simp only [Act.put, List.setIfInBounds_toArray, List.set_cons_zero, List.set_cons_succ])
            (first | (refine plan_event Lime.getop_ (by rfl) (fun K hK => ?_) plan_stop; go_simp; refine (show Calls Tryz.prog 88 _ _ _ from cn _ Lime.stp_).mono ?_; rintro e w2 ⟨rfl, hb2⟩; refine hK _ _ ?_ (fun hst => ?_); (focus (exact Lime.stp_)); replace hS := hS.trans hst; clear hst hK K) | refine plan_event_skip Lime.getop_ (by rfl) ?_ plan_stop); (try simp only [Act.put, List.setIfInBounds_toArray, List.set_cons_zero, List.set_cons_succ])
            iterate 3 ((first | (refine plan_calm (v := ?_) Lime.getop_ (by rfl) (fun W hW => ?_) ?_; rotate_left; (focus (exact Lime.calm_))) | (refine plan_calm_skip Lime.getop_ (by rfl) ?_)); (try simp only [Act.put, List.setIfInBounds_toArray, List.set_cons_zero, List.set_cons_succ]))
            refine plan_done ?_
            gi_wp2
            exact no2.out hf2.out (Act.mk #[] []) _ Lime.stp_
        | false =>
          have hav := HC.out
          rw [if_neg (by decide)] at hav
          subst hav
          have hf : fitB t true none mine x = false := by rw [fitB, if_pos rfl]; rfl
          have hf2 := Lib.hid hf
          clear hf
          gi_wp2
          refine wp_region_plan_in (Plan.calm 0 (Plan.calm 1 (Plan.calm 2 (Plan.calm 3 (Plan.calm 4 (Plan.calm 5 (Plan.calm 6 (Plan.calm 7 (Plan.calm 8 (Plan.calm 9 (Plan.calm 10 (Plan.calm 11 (Plan.calm 12 (Plan.calm 13 (Plan.calm 14 (Plan.calm 16 (Plan.alt 15 (Plan.calm 17 (Plan.calm 18 (Plan.calm 19 Plan.done))) Plan.stop))))))))))))))))) (by kernel_rfl) (by kernel_rfl) (by kernel_rfl) (by kernel_rfl) (by rintro ⟨_, _, h⟩; exact h) ?_
          have hS : Stp W W.drew := (Stp.refl _).drew
          (first | (refine plan_calm (v := ?_) Lime.getop_ (by rfl) (fun W hW => ?_) ?_; rotate_left; (focus (have q0_ := (hS.trans hW).cell cT; have q1_ := (hS.trans hW).cell cM; have q2_ := (hS.trans hW).cell cC; have q3_ := (hS.trans hW).cell cA; have q4_ := (hS.trans hW).cell cN; clear hW; (exact Lime.calm_)))) | (refine plan_calm_skip Lime.getop_ (by rfl) ?_)); (try simp only [Act.put, List.setIfInBounds_toArray, List.set_cons_zero, List.set_cons_succ])
          (first | (refine plan_calm (v := ?_) Lime.getop_ (by rfl) (fun W hW => ?_) ?_; rotate_left; (focus (exact Lime.calm_))) | (refine plan_calm_skip Lime.getop_ (by rfl) ?_)); (try simp only [Act.put, List.setIfInBounds_toArray, List.set_cons_zero, List.set_cons_succ])
          (first | (refine plan_calm (v := ?_) Lime.getop_ (by rfl) (fun W hW => ?_) ?_; rotate_left; (focus (have q0_ := (hS.trans hW).cell cT; have q1_ := (hS.trans hW).cell cM; have q2_ := (hS.trans hW).cell cC; have q3_ := (hS.trans hW).cell cA; have q4_ := (hS.trans hW).cell cN; clear hW; (exact Lime.calm_)))) | (refine plan_calm_skip Lime.getop_ (by rfl) ?_)); (try simp only [Act.put, List.setIfInBounds_toArray, List.set_cons_zero, List.set_cons_succ])
          iterate 3 ((first | (refine plan_calm (v := ?_) Lime.getop_ (by rfl) (fun W hW => ?_) ?_; rotate_left; (focus (exact Lime.calm_))) | (refine plan_calm_skip Lime.getop_ (by rfl) ?_)); (try simp only [Act.put, List.setIfInBounds_toArray, List.set_cons_zero, List.set_cons_succ]))
          (first | (refine plan_calm (v := ?_) Lime.getop_ (by rfl) (fun W hW => ?_) ?_; rotate_left; (focus (have q0_ := (hS.trans hW).cell cT; have q1_ := (hS.trans hW).cell cM; have q2_ := (hS.trans hW).cell cC; have q3_ := (hS.trans hW).cell cA; have q4_ := (hS.trans hW).cell cN; clear hW; (exact Lime.calm_)))) | (refine plan_calm_skip Lime.getop_ (by rfl) ?_)); (try simp only [Act.put, List.setIfInBounds_toArray, List.set_cons_zero, List.set_cons_succ])
          iterate 3 ((first | (refine plan_calm (v := ?_) Lime.getop_ (by rfl) (fun W hW => ?_) ?_; rotate_left; (focus (exact Lime.calm_))) | (refine plan_calm_skip Lime.getop_ (by rfl) ?_)); (try simp only [Act.put, List.setIfInBounds_toArray, List.set_cons_zero, List.set_cons_succ]))
          (first | (refine plan_calm (v := ?_) Lime.getop_ (by rfl) (fun W hW => ?_) ?_; rotate_left; (focus (have q0_ := (hS.trans hW).cell cT; have q1_ := (hS.trans hW).cell cM; have q2_ := (hS.trans hW).cell cC; have q3_ := (hS.trans hW).cell cA; have q4_ := (hS.trans hW).cell cN; clear hW; (exact Lime.calm_)))) | (refine plan_calm_skip Lime.getop_ (by rfl) ?_)); (try simp only [Act.put, List.setIfInBounds_toArray, List.set_cons_zero, List.set_cons_succ])
          iterate 2 ((first | (refine plan_calm (v := ?_) Lime.getop_ (by rfl) (fun W hW => ?_) ?_; rotate_left; (focus (exact Lime.calm_))) | (refine plan_calm_skip Lime.getop_ (by rfl) ?_)); (try simp only [Act.put, List.setIfInBounds_toArray, List.set_cons_zero, List.set_cons_succ]))
          (first | (refine plan_calm (v := ?_) Lime.getop_ (by rfl) (fun W hW => ?_) ?_; rotate_left; (focus (have q0_ := (hS.trans hW).cell cT; have q1_ := (hS.trans hW).cell cM; have q2_ := (hS.trans hW).cell cC; have q3_ := (hS.trans hW).cell cA; have q4_ := (hS.trans hW).cell cN; clear hW; (exact Lime.calm_)))) | (refine plan_calm_skip Lime.getop_ (by rfl) ?_)); (try simp only [Act.put, List.setIfInBounds_toArray, List.set_cons_zero, List.set_cons_succ])
          (first | (refine plan_calm (v := ?_) Lime.getop_ (by rfl) (fun W hW => ?_) ?_; rotate_left; (focus (exact Lime.calm_))) | (refine plan_calm_skip Lime.getop_ (by rfl) ?_)); (try simp only [Act.put, List.setIfInBounds_toArray, List.set_cons_zero, List.set_cons_succ])
          (first | (refine plan_calm (v := ?_) Lime.getop_ (by rfl) (fun W hW => ?_) ?_; rotate_left; (focus (have q0_ := (hS.trans hW).cell cT; have q1_ := (hS.trans hW).cell cM; have q2_ := (hS.trans hW).cell cC; have q3_ := (hS.trans hW).cell cA; have q4_ := (hS.trans hW).cell cN; clear hW; (exact Lime.calm_)))) | (refine plan_calm_skip Lime.getop_ (by rfl) ?_)); (try simp only [Act.put, List.setIfInBounds_toArray, List.set_cons_zero, List.set_cons_succ])
          (first | (refine plan_event Lime.getop_ (by rfl) (fun K hK => ?_) plan_stop; go_simp; refine (show Calls Tryz.prog 88 _ _ _ from cn _ Lime.stp_).mono ?_; rintro e w2 ⟨rfl, hb2⟩; refine hK _ _ ?_ (fun hst => ?_); (focus (exact Lime.stp_)); replace hS := hS.trans hst; clear hst hK K) | refine plan_event_skip Lime.getop_ (by rfl) ?_ plan_stop); (try simp only [Act.put, List.setIfInBounds_toArray, List.set_cons_zero, List.set_cons_succ])
          iterate 3 ((first | (refine plan_calm (v := ?_) Lime.getop_ (by rfl) (fun W hW => ?_) ?_; rotate_left; (focus (exact Lime.calm_))) | (refine plan_calm_skip Lime.getop_ (by rfl) ?_)); (try simp only [Act.put, List.setIfInBounds_toArray, List.set_cons_zero, List.set_cons_succ]))
          refine plan_done ?_
          gi_wp2
          exact no2.out hf2.out (Act.mk #[] []) _ Lime.stp_
      | false =>
        generalize hnt : nameT t x = nm at cn
        cases hx : (nm == mine) with
        | true =>
          have hf : fitB t false av mine x = true := by rw [fitB, if_neg (by decide), hnt]; exact hx
          have hnt2 := Lib.hid hnt
          clear hnt
          have hf2 := Lib.hid hf
          clear hf
          gi_wp2
          refine wp_region_plan_in (Plan.calm 0 (Plan.calm 1 (Plan.calm 2 (Plan.calm 3 (Plan.calm 4 (Plan.calm 5 (Plan.calm 6 (Plan.calm 7 (Plan.calm 8 (Plan.calm 9 (Plan.calm 10 (Plan.calm 11 (Plan.calm 12 (Plan.calm 13 (Plan.calm 14 (Plan.calm 16 (Plan.alt 15 (Plan.calm 17 (Plan.calm 18 (Plan.calm 19 Plan.done))) Plan.stop))))))))))))))))) (by kernel_rfl) (by kernel_rfl) (by kernel_rfl) (by kernel_rfl) (by rintro ⟨_, _, h⟩; exact h) ?_
          have hS : Stp W W.drew := (Stp.refl _).drew
          (first | (refine plan_calm (v := ?_) Lime.getop_ (by rfl) (fun W hW => ?_) ?_; rotate_left; (focus (have q0_ := (hS.trans hW).cell cT; have q1_ := (hS.trans hW).cell cM; have q2_ := (hS.trans hW).cell cC; have q3_ := (hS.trans hW).cell cA; have q4_ := (hS.trans hW).cell cN; clear hW; (exact Lime.calm_)))) | (refine plan_calm_skip Lime.getop_ (by rfl) ?_)); (try simp only [Act.put, List.setIfInBounds_toArray, List.set_cons_zero, List.set_cons_succ])
          (first | (refine plan_calm (v := ?_) Lime.getop_ (by rfl) (fun W hW => ?_) ?_; rotate_left; (focus (exact Lime.calm_))) | (refine plan_calm_skip Lime.getop_ (by rfl) ?_)); (try simp only [Act.put, List.setIfInBounds_toArray, List.set_cons_zero, List.set_cons_succ])
          (first | (refine plan_calm (v := ?_) Lime.getop_ (by rfl) (fun W hW => ?_) ?_; rotate_left; (focus (have q0_ := (hS.trans hW).cell cT; have q1_ := (hS.trans hW).cell cM; have q2_ := (hS.trans hW).cell cC; have q3_ := (hS.trans hW).cell cA; have q4_ := (hS.trans hW).cell cN; clear hW; (exact Lime.calm_)))) | (refine plan_calm_skip Lime.getop_ (by rfl) ?_)); (try simp only [Act.put, List.setIfInBounds_toArray, List.set_cons_zero, List.set_cons_succ])
          iterate 3 ((first | (refine plan_calm (v := ?_) Lime.getop_ (by rfl) (fun W hW => ?_) ?_; rotate_left; (focus (exact Lime.calm_))) | (refine plan_calm_skip Lime.getop_ (by rfl) ?_)); (try simp only [Act.put, List.setIfInBounds_toArray, List.set_cons_zero, List.set_cons_succ]))
          (first | (refine plan_calm (v := ?_) Lime.getop_ (by rfl) (fun W hW => ?_) ?_; rotate_left; (focus (have q0_ := (hS.trans hW).cell cT; have q1_ := (hS.trans hW).cell cM; have q2_ := (hS.trans hW).cell cC; have q3_ := (hS.trans hW).cell cA; have q4_ := (hS.trans hW).cell cN; clear hW; (exact Lime.calm_)))) | (refine plan_calm_skip Lime.getop_ (by rfl) ?_)); (try simp only [Act.put, List.setIfInBounds_toArray, List.set_cons_zero, List.set_cons_succ])
          iterate 3 ((first | (refine plan_calm (v := ?_) Lime.getop_ (by rfl) (fun W hW => ?_) ?_; rotate_left; (focus (exact Lime.calm_))) | (refine plan_calm_skip Lime.getop_ (by rfl) ?_)); (try simp only [Act.put, List.setIfInBounds_toArray, List.set_cons_zero, List.set_cons_succ]))
          (first | (refine plan_calm (v := ?_) Lime.getop_ (by rfl) (fun W hW => ?_) ?_; rotate_left; (focus (have q0_ := (hS.trans hW).cell cT; have q1_ := (hS.trans hW).cell cM; have q2_ := (hS.trans hW).cell cC; have q3_ := (hS.trans hW).cell cA; have q4_ := (hS.trans hW).cell cN; clear hW; (exact Lime.calm_)))) | (refine plan_calm_skip Lime.getop_ (by rfl) ?_)); (try simp only [Act.put, List.setIfInBounds_toArray, List.set_cons_zero, List.set_cons_succ])
          iterate 2 ((first | (refine plan_calm (v := ?_) Lime.getop_ (by rfl) (fun W hW => ?_) ?_; rotate_left; (focus (exact Lime.calm_))) | (refine plan_calm_skip Lime.getop_ (by rfl) ?_)); (try simp only [Act.put, List.setIfInBounds_toArray, List.set_cons_zero, List.set_cons_succ]))
          (first | (refine plan_calm (v := ?_) Lime.getop_ (by rfl) (fun W hW => ?_) ?_; rotate_left; (focus (have q0_ := (hS.trans hW).cell cT; have q1_ := (hS.trans hW).cell cM; have q2_ := (hS.trans hW).cell cC; have q3_ := (hS.trans hW).cell cA; have q4_ := (hS.trans hW).cell cN; clear hW; (exact Lime.calm_)))) | (refine plan_calm_skip Lime.getop_ (by rfl) ?_)); (try simp only [Act.put, List.setIfInBounds_toArray, List.set_cons_zero, List.set_cons_succ])
          (first | (refine plan_calm (v := ?_) Lime.getop_ (by rfl) (fun W hW => ?_) ?_; rotate_left; (focus (exact Lime.calm_))) | (refine plan_calm_skip Lime.getop_ (by rfl) ?_)); (try simp only [Act.put, List.setIfInBounds_toArray, List.set_cons_zero, List.set_cons_succ])
          (first | (refine plan_calm (v := ?_) Lime.getop_ (by rfl) (fun W hW => ?_) ?_; rotate_left; (focus (have q0_ := (hS.trans hW).cell cT; have q1_ := (hS.trans hW).cell cM; have q2_ := (hS.trans hW).cell cC; have q3_ := (hS.trans hW).cell cA; have q4_ := (hS.trans hW).cell cN; clear hW; (exact Lime.calm_)))) | (refine plan_calm_skip Lime.getop_ (by rfl) ?_)); (try simp only [Act.put, List.setIfInBounds_toArray, List.set_cons_zero, List.set_cons_succ])
          (first | (refine plan_event Lime.getop_ (by rfl) (fun K hK => ?_) plan_stop; go_simp; refine (show Calls Tryz.prog 88 _ _ _ from cn _ Lime.stp_).mono ?_; rintro e w2 ⟨rfl, hb2⟩; refine hK _ _ ?_ (fun hst => ?_); (focus (exact Lime.stp_)); replace hS := hS.trans hst; clear hst hK K) | refine plan_event_skip Lime.getop_ (by rfl) ?_ plan_stop); (try simp only [Act.put, List.setIfInBounds_toArray, List.set_cons_zero, List.set_cons_succ])
          iterate 3 ((first | (refine plan_calm (v := ?_) Lime.getop_ (by rfl) (fun W hW => ?_) ?_; rotate_left; (focus (exact Lime.calm_))) | (refine plan_calm_skip Lime.getop_ (by rfl) ?_)); (try simp only [Act.put, List.setIfInBounds_toArray, List.set_cons_zero, List.set_cons_succ]))
          refine plan_done ?_
          obtain ⟨r', hb', hfin⟩ := yes2.out hf2.out (Act.mk #[] []) _ (show Stp W w2 by (exact Lime.stp_))
          have cR' := Boxed.cell hb'
          have fR' := Boxed.frozen hb'
          gi_wp2
          exact hfin
        | false =>
          have hf : fitB t false av mine x = false := by rw [fitB, if_neg (by decide), hnt]; exact hx
          have hnt2 := Lib.hid hnt
          clear hnt
          have hf2 := Lib.hid hf
          clear hf
          gi_wp2
          refine wp_region_plan_in (Plan.calm 0 (Plan.calm 1 (Plan.calm 2 (Plan.calm 3 (Plan.calm 4 (Plan.calm 5 (Plan.calm 6 (Plan.calm 7 (Plan.calm 8 (Plan.calm 9 (Plan.calm 10 (Plan.calm 11 (Plan.calm 12 (Plan.calm 13 (Plan.calm 14 (Plan.calm 16 (Plan.alt 15 (Plan.calm 17 (Plan.calm 18 (Plan.calm 19 Plan.done))) Plan.stop))))))))))))))))) (by kernel_rfl) (by kernel_rfl) (by kernel_rfl) (by kernel_rfl) (by rintro ⟨_, _, h⟩; exact h) ?_
          have hS : Stp W W.drew := (Stp.refl _).drew
          (first | (refine plan_calm (v := ?_) Lime.getop_ (by rfl) (fun W hW => ?_) ?_; rotate_left; (focus (have q0_ := (hS.trans hW).cell cT; have q1_ := (hS.trans hW).cell cM; have q2_ := (hS.trans hW).cell cC; have q3_ := (hS.trans hW).cell cA; have q4_ := (hS.trans hW).cell cN; clear hW; (exact Lime.calm_)))) | (refine plan_calm_skip Lime.getop_ (by rfl) ?_)); (try simp only [Act.put, List.setIfInBounds_toArray, List.set_cons_zero, List.set_cons_succ])
          (first | (refine plan_calm (v := ?_) Lime.getop_ (by rfl) (fun W hW => ?_) ?_; rotate_left; (focus (exact Lime.calm_))) | (refine plan_calm_skip Lime.getop_ (by rfl) ?_)); (try simp only [Act.put, List.setIfInBounds_toArray, List.set_cons_zero, List.set_cons_succ])
          (first | (refine plan_calm (v := ?_) Lime.getop_ (by rfl) (fun W hW => ?_) ?_; rotate_left; (focus (have q0_ := (hS.trans hW).cell cT; have q1_ := (hS.trans hW).cell cM; have q2_ := (hS.trans hW).cell cC; have q3_ := (hS.trans hW).cell cA; have q4_ := (hS.trans hW).cell cN; clear hW; (exact Lime.calm_)))) | (refine plan_calm_skip Lime.getop_ (by rfl) ?_)); (try simp only [Act.put, List.setIfInBounds_toArray, List.set_cons_zero, List.set_cons_succ])
          iterate 3 ((first | (refine plan_calm (v := ?_) Lime.getop_ (by rfl) (fun W hW => ?_) ?_; rotate_left; (focus (exact Lime.calm_))) | (refine plan_calm_skip Lime.getop_ (by rfl) ?_)); (try simp only [Act.put, List.setIfInBounds_toArray, List.set_cons_zero, List.set_cons_succ]))
          (first | (refine plan_calm (v := ?_) Lime.getop_ (by rfl) (fun W hW => ?_) ?_; rotate_left; (focus (have q0_ := (hS.trans hW).cell cT; have q1_ := (hS.trans hW).cell cM; have q2_ := (hS.trans hW).cell cC; have q3_ := (hS.trans hW).cell cA; have q4_ := (hS.trans hW).cell cN; clear hW; (exact Lime.calm_)))) | (refine plan_calm_skip Lime.getop_ (by rfl) ?_)); (try simp only [Act.put, List.setIfInBounds_toArray, List.set_cons_zero, List.set_cons_succ])
          iterate 3 ((first | (refine plan_calm (v := ?_) Lime.getop_ (by rfl) (fun W hW => ?_) ?_; rotate_left; (focus (exact Lime.calm_))) | (refine plan_calm_skip Lime.getop_ (by rfl) ?_)); (try simp only [Act.put, List.setIfInBounds_toArray, List.set_cons_zero, List.set_cons_succ]))
          (first | (refine plan_calm (v := ?_) Lime.getop_ (by rfl) (fun W hW => ?_) ?_; rotate_left; (focus (have q0_ := (hS.trans hW).cell cT; have q1_ := (hS.trans hW).cell cM; have q2_ := (hS.trans hW).cell cC; have q3_ := (hS.trans hW).cell cA; have q4_ := (hS.trans hW).cell cN; clear hW; (exact Lime.calm_)))) | (refine plan_calm_skip Lime.getop_ (by rfl) ?_)); (try simp only [Act.put, List.setIfInBounds_toArray, List.set_cons_zero, List.set_cons_succ])
          iterate 2 ((first | (refine plan_calm (v := ?_) Lime.getop_ (by rfl) (fun W hW => ?_) ?_; rotate_left; (focus (exact Lime.calm_))) | (refine plan_calm_skip Lime.getop_ (by rfl) ?_)); (try simp only [Act.put, List.setIfInBounds_toArray, List.set_cons_zero, List.set_cons_succ]))
          (first | (refine plan_calm (v := ?_) Lime.getop_ (by rfl) (fun W hW => ?_) ?_; rotate_left; (focus (have q0_ := (hS.trans hW).cell cT; have q1_ := (hS.trans hW).cell cM; have q2_ := (hS.trans hW).cell cC; have q3_ := (hS.trans hW).cell cA; have q4_ := (hS.trans hW).cell cN; clear hW; (exact Lime.calm_)))) | (refine plan_calm_skip Lime.getop_ (by rfl) ?_)); (try simp only [Act.put, List.setIfInBounds_toArray, List.set_cons_zero, List.set_cons_succ])
          (first | (refine plan_calm (v := ?_) Lime.getop_ (by rfl) (fun W hW => ?_) ?_; rotate_left; (focus (exact Lime.calm_))) | (refine plan_calm_skip Lime.getop_ (by rfl) ?_)); (try simp only [Act.put, List.setIfInBounds_toArray, List.set_cons_zero, List.set_cons_succ])
          (first | (refine plan_calm (v := ?_) Lime.getop_ (by rfl) (fun W hW => ?_) ?_; rotate_left; (focus (have q0_ := (hS.trans hW).cell cT; have q1_ := (hS.trans hW).cell cM; have q2_ := (hS.trans hW).cell cC; have q3_ := (hS.trans hW).cell cA; have q4_ := (hS.trans hW).cell cN; clear hW; (exact Lime.calm_)))) | (refine plan_calm_skip Lime.getop_ (by rfl) ?_)); (try simp only [Act.put, List.setIfInBounds_toArray, List.set_cons_zero, List.set_cons_succ])
          (first | (refine plan_event Lime.getop_ (by rfl) (fun K hK => ?_) plan_stop; go_simp; refine (show Calls Tryz.prog 88 _ _ _ from cn _ Lime.stp_).mono ?_; rintro e w2 ⟨rfl, hb2⟩; refine hK _ _ ?_ (fun hst => ?_); (focus (exact Lime.stp_)); replace hS := hS.trans hst; clear hst hK K) | refine plan_event_skip Lime.getop_ (by rfl) ?_ plan_stop); (try simp only [Act.put, List.setIfInBounds_toArray, List.set_cons_zero, List.set_cons_succ])
          iterate 3 ((first | (refine plan_calm (v := ?_) Lime.getop_ (by rfl) (fun W hW => ?_) ?_; rotate_left; (focus (exact Lime.calm_))) | (refine plan_calm_skip Lime.getop_ (by rfl) ?_)); (try simp only [Act.put, List.setIfInBounds_toArray, List.set_cons_zero, List.set_cons_succ]))
          refine plan_done ?_
          gi_wp2
          exact no2.out hf2.out (Act.mk #[] []) _ Lime.stp_
    · intro D O W hD hn hI hWD
      obtain ⟨r, hR⟩ := hI.bR
      have cR := Boxed.cell hR
      have fR := Boxed.frozen hR
      go_wp2
      have h1 : (W.setCell ⟨w.heap.size + 1, 0, none⟩ (.int .i64 (-1))).heap[D]? = some (.deferred (some [])) := (Below.heap_setCell W ⟨w.heap.size + 1, 0, none⟩ (.int .i64 (-1)) D (fun e => by have e' : D = w.heap.size + 1 := e; omega)).trans hWD
      have h2 : ((W.setCell ⟨w.heap.size + 1, 0, none⟩ (.int .i64 (-1))).putObj D (.deferred none)).cell? ⟨w.heap.size + 1, 0, none⟩ = some (.int .i64 (-1)) := Boxed.cell (show Boxed _ _ 3 _ from (World.putObj_heap_other (by omega)).trans (Boxed.set _ hR))
      have he := hI.rest
      rw [List.drop_eq_nil_of_le (Nat.le_refl _), fstOf_nil] at he
      refine leaves_mark h1 (v := .int .i64 (-1)) (by simp [results, Tryz.results68, go_sem, h2]) ⟨by rw [HR.out, ← he], ?_⟩
      exact hback _ _ hst11 (((hI.kp.trans (Kpt.setCell (O := fun x => x = w.heap.size + 1) W _ rfl) fun x hx => .inl hx).trans (Kpt.put (O := fun b => b = D) _ _ rfl) fun x hx => .inr (by omega)))
    · rintro D c k O W hD hn ⟨rfl, hI⟩ hWD
      have cR := Boxed.cell hI.bR
      go_wp2
      have h2 : (W.putObj D (.deferred none)).cell? ⟨w.heap.size + 1, 0, none⟩ = some (.int .i64 (fstOf (fitB t man av mine) xs)) := Boxed.cell (show Boxed _ _ 3 _ from (World.putObj_heap_other (by omega)).trans hI.bR)
      refine leaves_mark hWD (v := .int .i64 (fstOf (fitB t man av mine) xs)) (by simp [results, Tryz.results68, go_sem, h2]) ⟨by rw [HR.out], ?_⟩
      exact hback _ _ hst11 (hI.kp.trans (Kpt.put (O := fun b => b = D) _ _ rfl) fun x hx => .inr (by omega))
end Go.Proofs.Lime
