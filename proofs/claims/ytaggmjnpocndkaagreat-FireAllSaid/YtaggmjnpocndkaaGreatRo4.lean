/- Walks: the document's list of a node; what one sees of a node from another one. No conditions. -/
import Derived.Test.YtaggmjnpocndkaaGreatRo3
namespace Go.Proofs.Lime
open Go.RowKit
set_option linter.unusedVariables false
set_option linter.unusedSimpArgs false
attribute [local go_sem] Oper.semAt_some
theorem May.top_kind {t : List Nd} (M : May t) {a : Int} (ha : isN t a = true) : ((nd t (topT t a)).kind = 3 ↔ hostT t a ≠ -1) ∧ (hostT t a ≠ -1 → (nd t (hostT t a)).root = topT t a) := by
  have ht := M.topT_isN ha
  unfold hostT
  by_cases h3 : (nd t (topT t a)).kind = 3
  · obtain ⟨_, _, h4, _, h5⟩ := M.sh3 ht h3
    exact ⟨⟨fun _ => M.ne1 h4, fun _ => h3⟩, fun _ => h5⟩
  · have h4 := (M.shn ht h3).1
    exact ⟨⟨fun h => absurd h h3, fun h => absurd h4 h⟩, fun h => absurd h4 h⟩
set_option maxRecDepth 100000 in
set_option maxHeartbeats 4000000 in
theorem rlist3_c {t : List Nd} (M : May t) : ∀ (d : Nat) (n : Int), isN t n = true → t.length < dep t n + d → ∀ {S : Nat → Prop} {w : World} {v : Value}, Row nodeK S w v t →
    Calls Tryz.prog 108 #[v, .int .i64 n] w fun e w' => ∃ u, e = .returned u ∧ Own intK 3 (fun k => w.heap.size ≤ k) w' u (listT t n) ∧ Stp w w' := by
  intro d
  induction d with
  | zero => intro n hn hd; have := M.dep_le hn; omega
  | succ d ih =>
    intro n hn hd S w v hr
    have hle : (listT t n).length ≤ 64 := Nat.le_trans (M.listT_le hn) M.len2
    have hstep := M.listT_step hn
    have hkd := fun y (hy : y ∈ (nd t n).kids) => M.dep_kid hn hy
    have cl := fun y (hy : y ∈ (nd t n).kids) W (h : Stp w W) => ih y (hkd y hy).1 (by have := (hkd y hy).2.2; omega) (hr.stp h)
    obtain ⟨A, c, rfl, hc, hm⟩ := hr.form
    obtain ⟨k, rfl, hk⟩ := isN_nat hn
    obtain ⟨b, o, rfl, _, _, hat⟩ := tree_base hr (by omega)
    obtain ⟨Ak, ck, Aa, ca, N⟩ := hat k hk
    rw [nd_nat hk] at hstep cl
    have n3 := N.c3
    have rk := N.kids
    have hk1 := N.k1
    have hk2 := N.k2
    have hkz : (k : Int) < (t.length : Int) := by omega
    generalize t[k].kids = ks at hstep cl n3 rk hk1 hk2
    generalize listT t k = L at hle hstep ⊢
    clear N hat hr ih hkd hd hn
    go_enter Tryz.func108, Tryz.ntmps108
    go_upto_region 2 with fail
    obtain ⟨w1, hw1⟩ : ∃ w1, w.alloc (.cells #[.int .i64 k] 3) = w1 := ⟨_, rfl⟩
    have hs1 : Stp w w1 := by rw [← hw1]; exact (Stp.refl w).alloc _
    have ho0 : Own intK 3 (fun k => w.heap.size ≤ k) w1 (.slice (some ⟨w.heap.size, 0, none⟩) 1 1) [(k : Int)] := own_one (by rw [← hw1]; exact World.alloc_heap_new w _) (Nat.le_refl _)
    rw [hw1]
    clear hw1
    go_wp2_with fail
    go_loopg [5, 6] ks.length (fun gg s5 s6 W => ∃ (i : Nat) (ys : List Int), s6 = .int .i64 i ∧ i ≤ ks.length ∧ ks.length - i ≤ gg ∧ Stp w W ∧ Aside (Own intK 3 (fun k => w.heap.size ≤ k) W s5 ys ∧ ys ++ (ks.drop i).flatMap (listT t) = L))
    case atStart => exact ⟨0, [(k : Int)], rfl, Nat.zero_le _, by omega, hs1, ho0, by rw [hstep]; rfl⟩
    case round =>
      clear ho0 hs1
      obtain ⟨i, ys, rfl, hi, hg, hst, HA⟩ := hrel
      obtain ⟨ho, hys⟩ := HA.out
      clear HA
      have p3 := hst.cell n3
      by_cases hlt : i < ks.length
      · have hltz : (i : Int) < (ks.length : Int) := by omega
        have hy := List.getElem_mem hlt
        rw [List.drop_eq_getElem_cons hlt, List.flatMap_cons, ← List.append_assoc] at hys
        have hyl := congrArg List.length hys
        rw [List.length_append, List.length_append] at hyl
        obtain ⟨bk, ok, rfl, _, _, x0⟩ := int_at (rk.stp hst) i hlt
        have cy := fun W (h : Stp w W) => cl ks[i] hy W h
        generalize ks[i] = y at hys hyl x0 cy
        have HY := Lib.hid hys
        have hle2 : (ys.length + (listT t y).length) * 8 ≤ 140737488355328 := by omega
        clear hys hyl hy cl hstep
        obtain ⟨A5, c5, rfl, _, _⟩ := ho.reads.form
        go_wp2_with (first | (go_at_call 108; refine (cy _ hst).mono ?_; rintro e w2 ⟨u2, rfl, o2, hb2⟩; have ho2 := ho.stp hb2) | (at_builtin; refine wpl_appendrow (d := intK) (S := fun k => w.heap.size ≤ k) (T' := fun _ => False) rfl (.tmp 19) (.tmp 29) 48 3 _ 8 rfl Tryz.underlying48 infoInt rfl (by decide) (by decide) (.slice A5 ys.length c5) ys u2 (listT t y) rfl rfl o2.reads (fun _ _ h => h) (fun _ h _ => h.elim) ho2 (fun k hk => Nat.le_trans (hst.trans hb2).size hk) hle2 ?_; intro v3 w3 ho3 hg3; have hb3 : Stp w w3 := Stp.grown (hst.trans hb2) hg3 ho2.blk))
        go_roundg (ks.length - (i + 1))
        case measure => omega
        case rel => exact ⟨i + 1, ys ++ listT t y, by go_num, hlt, Nat.le_refl _, hb3, ho3, HY.out⟩
      · have hltz : ¬ (i : Int) < (ks.length : Int) := by omega
        rw [List.drop_eq_nil_of_le (by omega), List.flatMap_nil, List.append_nil] at hys
        rw [hys] at ho
        obtain ⟨A5, c5, rfl, _, _⟩ := ho.reads.form
        clear hys hstep cl
        go_wp2
        go_ret
        exact ⟨_, rfl, ho, hst⟩
theorem rlist_c {t : List Nd} (M : May t) {n : Int} (hn : isN t n = true) {S : Nat → Prop} {w : World} {v : Value} (hr : Row nodeK S w v t) :
    Calls Tryz.prog 108 #[v, .int .i64 n] w fun e w' => ∃ u, e = .returned u ∧ Own intK 3 (fun k => w.heap.size ≤ k) w' u (listT t n) ∧ Stp w w' := rlist3_c M (t.length + 1) n hn (by rw [M.dep_step hn]; omega) hr
set_option maxRecDepth 100000 in
set_option maxHeartbeats 4000000 in
theorem rret4_c {t : List Nd} (M : May t) {b : Int} (hb : isN t b = true) : ∀ (d : Nat) (a : Int), isN t a = true → dep t a ≤ d → ∀ {S : Nat → Prop} {w : World} {v : Value}, Row nodeK S w v t →
    Calls Tryz.prog 78 #[v, .int .i64 a, .int .i64 b] w fun e w' => e = .returned (.int .i64 (retT t a b)) ∧ Stp w w' := by
  intro d
  induction d with
  | zero => intro a ha hd; rw [M.dep_step ha] at hd; omega
  | succ d ih =>
    intro a ha hd S w v hr
    have htN := M.topT_isN ha
    obtain ⟨k1, k2⟩ := M.top_kind ha
    have hre := M.retT_step (holds := upsT t b) ha
    have ct := fun W (h : Stp w W) => rtop3_c (hr.stp h) M ha
    have ca := fun W (h : Stp w W) => rabove4_c (hr.stp h) M (topT t a) hb
    have hhd := M.dep_host ha
    have hho := M.host_or ha
    have ci := fun (h1 : hostT t a ≠ -1) W (h : Stp w W) => ih (hostT t a) (hho.resolve_left h1) (by have := hhd h1; omega) (hr.stp h)
    have hh0 : hostT t a = (nd t (topT t a)).host := rfl
    obtain ⟨A, c, rfl, hc, hm⟩ := hr.form
    generalize topT t a = x at htN k1 k2 ct ca hh0
    obtain ⟨k, rfl, hk⟩ := isN_nat htN
    obtain ⟨b0, o, rfl, _, _, hat⟩ := tree_base hr (by omega)
    obtain ⟨_, _, _, _, N⟩ := hat k hk
    have n0 := N.c0
    have n4 := N.c4
    rw [nd_nat hk] at k1 hh0
    rw [← hh0] at n4
    have hkz : (k : Int) < (t.length : Int) := by omega
    clear N hat hr ih hhd hho hd ha htN hh0
    by_cases h3 : t[k].kind = 3
    · have h4 := k1.1 h3
      rw [h3] at n0
      have ci' := fun W h => ci h4 W h
      by_cases hmem : (k : Int) ∈ upsT t b
      · have HR := Lib.hid (show retT t a b = a by unfold retT; rw [hre, if_neg (by rintro ⟨_, h⟩; exact h (by rw [k2 h4]; exact hmem))])
        have hct : decide ((k : Int) ∈ upsT t b) = true := by simpa using hmem
        simp only [hct] at ca
        clear hre ci ci' k1 k2 hmem h4 h3 hct
        go_enter Tryz.func78, Tryz.ntmps78
        go_wp2_with (first | (go_at_call 77; refine (ct _ Lime.stp_).mono ?_; rintro e w2 ⟨rfl, hb2⟩; replace n0 := hb2.cell n0) | (go_at_call 98; refine (ca _ hb2).mono ?_; rintro e w3 ⟨rfl, hb3⟩))
        go_ret
        exact ⟨ret_int HR.out.symm, hb2.trans hb3⟩
      · have HR := Lib.hid (show retT t a b = retT t (hostT t a) b by unfold retT; rw [hre, if_pos ⟨h4, by rw [k2 h4]; exact hmem⟩])
        have hct : decide ((k : Int) ∈ upsT t b) = false := by simpa using hmem
        simp only [hct] at ca
        clear hre ci k1 k2 hmem h4 h3 hct
        generalize hostT t a = h at *
        go_enter Tryz.func78, Tryz.ntmps78
        go_wp2_with (first | (go_at_call 77; refine (ct _ Lime.stp_).mono ?_; rintro e w2 ⟨rfl, hb2⟩; replace n0 := hb2.cell n0) | (go_at_call 98; refine (ca _ hb2).mono ?_; rintro e w3 ⟨rfl, hb3⟩; replace n4 := (hb2.trans hb3).cell n4) | (go_at_call 78; refine (ci' _ Lime.stp_).mono ?_; rintro e w4 ⟨rfl, hb4⟩))
        go_ret
        exact ⟨ret_int HR.out.symm, (hb2.trans hb3).trans hb4⟩
    · have h4 : ¬ hostT t a ≠ -1 := fun h => h3 (k1.2 h)
      have HR := Lib.hid (show retT t a b = a by unfold retT; rw [hre, if_neg (by rintro ⟨h, _⟩; exact h4 h)])
      have hnz : (t[k].kind != 3) = true := by simpa using h3
      generalize t[k].kind = q at n0 hnz
      clear hre ci k1 k2 h4 h3
      go_enter Tryz.func78, Tryz.ntmps78
      go_wp2_with (first | (go_at_call 77; refine (ct _ Lime.stp_).mono ?_; rintro e w2 ⟨rfl, hb2⟩; replace n0 := hb2.cell n0))
      go_ret
      exact ⟨ret_int HR.out.symm, hb2⟩
theorem rret_c {t : List Nd} (M : May t) {a b : Int} (ha : isN t a = true) (hb : isN t b = true) {S : Nat → Prop} {w : World} {v : Value} (hr : Row nodeK S w v t) :
    Calls Tryz.prog 78 #[v, .int .i64 a, .int .i64 b] w fun e w' => e = .returned (.int .i64 (retT t a b)) ∧ Stp w w' := rret4_c M hb _ a ha (Nat.le_refl _) hr
end Go.Proofs.Lime
