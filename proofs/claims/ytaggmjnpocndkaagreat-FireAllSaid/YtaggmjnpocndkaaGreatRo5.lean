/- Walks: the document's attributes and slots. No conditions. -/
import Derived.Test.YtaggmjnpocndkaaGreatRo4
import Derived.Test.YtaggmjnpocndkaaGreatMP
namespace Go.Proofs.Lime
open Go.RowKit
set_option linter.unusedVariables false
set_option linter.unusedSimpArgs false
attribute [local go_sem] Oper.semAt_some
theorem risn_c (w : World) (A : Option Addr) (t : List Nd) (c : Nat) (n : Int) : Calls Tryz.prog 42 #[.slice A t.length c, .int .i64 n] w fun e w' => e = .returned (.bool (isN t n)) ∧ Stp w w' := by
  go_enter Tryz.func42, Tryz.ntmps42
  go_wp2
  all_goals
    go_ret
    exact ⟨ret_bool (by grind [isN]), by (exact Lime.stp_)⟩
set_option maxRecDepth 100000 in
set_option maxHeartbeats 4000000 in
theorem rget_c {S : Nat → Prop} {w : World} {v : Value} {t : List Nd} (hr : Row nodeK S w v t) {n : Int} (hn : isN t n = true) (nm : Int) :
    Calls Tryz.prog 94 #[v, .int .i64 n, .int .i64 nm] w fun e w' => e = .returned (.tuple #[.int .i64 ((attrT t n nm).getD 0), .bool (attrT t n nm).isSome]) ∧ Stp w w' := by
  obtain ⟨A, c, rfl, hc, hm⟩ := hr.form
  have ci := fun W => risn_c W A t c n
  rw [hn] at ci
  obtain ⟨k, rfl, hk⟩ := isN_nat hn
  obtain ⟨b, o, rfl, _, _, hat⟩ := tree_base hr (by omega)
  obtain ⟨Ak, ck, Aa, ca, N⟩ := hat k hk
  have ht : attrT t k nm = attrOf t[k].attrs nm := by rw [attrT, nd_nat hk]
  rw [ht]
  have n6 := N.c6
  have ra := N.attrs
  have ha1 := N.a1
  have ha2 := N.a2
  have hkz : (k : Int) < (t.length : Int) := by omega
  generalize t[k].attrs = xs at n6 ra ha1 ha2 ⊢
  clear N hat hr hn ht
  go_enter Tryz.func94, Tryz.ntmps94
  go_wp2_with (go_at_call 42; refine (ci _).mono ?_; rintro e w2 ⟨rfl, hb2⟩)
  go_loopg [8] xs.length (fun gg s8 W => ∃ i : Nat, i ≤ xs.length ∧ xs.length - i ≤ gg ∧ s8 = .int .i64 i ∧ Stp w W ∧ Aside (attrOf (xs.drop i) nm = attrOf xs nm))
  case atStart => exact ⟨0, Nat.zero_le _, by omega, rfl, hb2, rfl⟩
  case round =>
    obtain ⟨i, hi, hg, rfl, hst, HA⟩ := hrel
    have HE := Lib.hid HA.out
    clear HA
    have p6 := hst.cell n6
    by_cases hlt : i < xs.length
    · have hltz : (i : Int) < (xs.length : Int) := by omega
      obtain ⟨ba, oa, rfl, _, _, x0, x1⟩ := attr_at (ra.stp hst) i hlt
      have HD := Lib.hid (List.drop_eq_getElem_cons hlt)
      generalize xs[i] = y at x0 x1 HD
      by_cases hy : y.name = nm
      · have hyz : (y.name == nm) = true := by simpa using hy
        have HF := Lib.hid (show attrOf xs nm = some y.value by rw [← HE.out, HD.out, attrOf, List.find?_cons_of_pos (by simpa using hy)]; rfl)
        clear hy
        go_wp2
        go_ret2
        exact ⟨by rw [HF.out]; rfl, by (exact Lime.stp_)⟩
      · have hyz : (y.name == nm) = false := by simpa using hy
        have HF := Lib.hid (show attrOf (xs.drop (i + 1)) nm = attrOf xs nm by rw [← HE.out, HD.out, attrOf, attrOf, List.find?_cons_of_neg (by simpa using hy)])
        clear hy
        go_wp2
        go_roundg (xs.length - (i + 1))
        case measure => omega
        case rel => exact ⟨i + 1, by omega, by omega, by go_num, by (exact Lime.stp_), HF.out⟩
    · have hltz : ¬ (i : Int) < (xs.length : Int) := by omega
      have HF := Lib.hid (show attrOf xs nm = none by rw [← HE.out, List.drop_eq_nil_of_le (by omega)]; rfl)
      go_wp2
      go_ret2
      exact ⟨by rw [HF.out]; rfl, by (exact Lime.stp_)⟩
theorem rhas_c {S : Nat → Prop} {w : World} {v : Value} {t : List Nd} (hr : Row nodeK S w v t) {n : Int} (hn : isN t n = true) (nm : Int) :
    Calls Tryz.prog 93 #[v, .int .i64 n, .int .i64 nm] w fun e w' => e = .returned (.bool (attrT t n nm).isSome) ∧ Stp w w' := by
  have cg := fun W (h : Stp w W) => rget_c (hr.stp h) hn nm
  go_enter Tryz.func93, Tryz.ntmps93
  go_wp2_with (go_at_call 94; refine (cg _ Lime.stp_).mono ?_; rintro e w1 ⟨rfl, hb1⟩)
  go_ret
  exact ⟨rfl, hb1⟩
theorem rname_c {S : Nat → Prop} {w : World} {v : Value} {t : List Nd} (hr : Row nodeK S w v t) {n : Int} (hn : isN t n = true) :
    Calls Tryz.prog 96 #[v, .int .i64 n] w fun e w' => e = .returned (.int .i64 (nameT t n)) ∧ Stp w w' := by
  have cg := fun W (h : Stp w W) => rget_c (hr.stp h) hn 4
  go_enter Tryz.func96, Tryz.ntmps96
  go_wp2_with (go_at_call 94; refine (cg _ Lime.stp_).mono ?_; rintro e w1 ⟨rfl, hb1⟩)
  go_ret
  exact ⟨rfl, hb1⟩
set_option maxRecDepth 100000 in
set_option maxHeartbeats 4000000 in
theorem ris5_c {S : Nat → Prop} {w : World} {v : Value} {t : List Nd} (hr : Row nodeK S w v t) (M : May t) {n : Int} (hn : isN t n = true) :
    Calls Tryz.prog 109 #[v, .int .i64 n] w fun e w' => e = .returned (.bool (slotB t n)) ∧ Stp w w' := by
  have ct := fun W (h : Stp w W) => rtop3_c (hr.stp h) M hn
  have htN := M.topT_isN hn
  have hk1 := (M.top_kind hn).1
  have hsl : slotB t n = (decide ((nd t n).kind = 1) && (decide ((nd t n).tag = 3) && decide ((nd t (topT t n)).kind = 3))) := by
    unfold slotB
    congr 2
    exact decide_eq_decide.2 hk1.symm
  clear hk1
  obtain ⟨A, c, rfl, hc, hm⟩ := hr.form
  generalize topT t n = x at htN hsl ct
  obtain ⟨k, rfl, hk⟩ := isN_nat hn
  obtain ⟨j, rfl, hj⟩ := isN_nat htN
  obtain ⟨b, o, rfl, _, _, hat⟩ := tree_base hr (by omega)
  obtain ⟨_, _, _, _, N⟩ := hat k hk
  obtain ⟨_, _, _, _, Q⟩ := hat j hj
  rw [nd_nat hk, nd_nat hj] at hsl
  have p0 := N.c0
  have p1 := N.c1
  have q0 := Q.c0
  have hkz : (k : Int) < (t.length : Int) := by omega
  have hjz : (j : Int) < (t.length : Int) := by omega
  clear N Q hat hr hn htN
  by_cases h1 : t[k].kind = 1
  · rw [h1] at p0 hsl
    by_cases h2 : t[k].tag = 3
    · rw [h2] at p1 hsl
      by_cases h3 : t[j].kind = 3
      · rw [h3] at q0 hsl
        have HR := Lib.hid (show slotB t k = true by rw [hsl]; rfl)
        clear hsl h1 h2 h3
        go_enter Tryz.func109, Tryz.ntmps109
        go_wp2_with (go_at_call 77; refine (ct _ Lime.stp_).mono ?_; rintro e w2 ⟨rfl, hb2⟩; have m0 := hb2.cell q0)
        go_ret
        exact ⟨ret_bool (by rw [HR.out]), by (exact Lime.stp_)⟩
      · have h3z : (t[j].kind == 3) = false := by simpa using h3
        have HR := Lib.hid (show slotB t k = false by rw [hsl]; simp [h3])
        generalize t[j].kind = q at q0 h3z
        clear hsl h1 h2 h3
        go_enter Tryz.func109, Tryz.ntmps109
        go_wp2_with (go_at_call 77; refine (ct _ Lime.stp_).mono ?_; rintro e w2 ⟨rfl, hb2⟩; have m0 := hb2.cell q0)
        go_ret
        exact ⟨ret_bool (by rw [HR.out]), by (exact Lime.stp_)⟩
    · have h2z : (t[k].tag == 3) = false := by simpa using h2
      have HR := Lib.hid (show slotB t k = false by rw [hsl]; simp [h2])
      generalize t[k].tag = q at p1 h2z
      clear hsl h1 h2
      go_enter Tryz.func109, Tryz.ntmps109
      go_wp2_with (go_at_call 77; refine (ct _ Lime.stp_).mono ?_; rintro e w2 ⟨rfl, hb2⟩; have m0 := hb2.cell q0)
      go_ret
      exact ⟨ret_bool (by rw [HR.out]), by (exact Lime.stp_)⟩
  · have h1z : (t[k].kind == 1) = false := by simpa using h1
    have HR := Lib.hid (show slotB t k = false by rw [hsl]; simp [h1])
    generalize t[k].kind = q at p0 h1z
    clear hsl h1
    go_enter Tryz.func109, Tryz.ntmps109
    go_wp2_with (go_at_call 77; refine (ct _ Lime.stp_).mono ?_; rintro e w2 ⟨rfl, hb2⟩; have m0 := hb2.cell q0)
    go_ret
    exact ⟨ret_bool (by rw [HR.out]), by (exact Lime.stp_)⟩
set_option maxRecDepth 100000 in
set_option maxHeartbeats 4000000 in
theorem rall5_c {S : Nat → Prop} {w : World} {v : Value} {t : List Nd} (hr : Row nodeK S w v t) (M : May t) {n : Int} (hn : isN t n = true) (h3 : (nd t n).kind = 3) :
    Calls Tryz.prog 92 #[v, .int .i64 n] w fun e w' => ∃ u, e = .returned u ∧ Own intK 3 (fun k => w.heap.size ≤ k) w' u (slotsT t n) ∧ Stp w w' := by
  have hle : (listT t n).length ≤ 64 := Nat.le_trans (M.listT_le hn) M.len2
  have cl := fun W (h : Stp w W) => rlist_c M hn (hr.stp h)
  have hin := fun x (hx : x ∈ listT t n) => ((M.mem_listT hn).1 hx).1
  have cs := fun x (hx : x ∈ listT t n) W (h : Stp w W) => ris5_c (hr.stp h) M (hin x hx)
  obtain ⟨A, c, rfl, hc, hm⟩ := hr.form
  obtain ⟨k, rfl, hk⟩ := isN_nat hn
  obtain ⟨b, o, rfl, _, _, hat⟩ := tree_base hr (by omega)
  obtain ⟨_, _, _, _, N⟩ := hat k hk
  rw [nd_nat hk] at h3
  have p0 := N.c0
  rw [h3] at p0
  have hkz : (k : Int) < (t.length : Int) := by omega
  unfold slotsT
  generalize listT t k = xs at hle cl cs ⊢
  clear N hat hr hn h3 hin
  go_enter Tryz.func92, Tryz.ntmps92
  go_wp2_with (go_at_call 108; refine (cl _ Lime.stp_).mono ?_; rintro e w1 ⟨u1, rfl, o1, hb1⟩; obtain ⟨A1, c1, rfl, hc1, hm1⟩ := o1.reads.form)
  have r1 := o1.reads
  clear cl o1
  go_loopg [5, 7] xs.length (fun gg s5 s7 W => ∃ (i : Nat) (ys : List Int), s7 = .int .i64 i ∧ i ≤ xs.length ∧ xs.length - i ≤ gg ∧ Stp w1 W ∧ Aside (Own intK 3 (fun k => w1.heap.size ≤ k) W s5 ys ∧ ys = (xs.take i).filter (slotB t)))
  case atStart => exact ⟨0, [], rfl, Nat.zero_le _, by omega, Stp.refl _, Own.nil _ _ _ _, rfl⟩
  case round =>
    obtain ⟨i, ys, rfl, hi, hg, hst, HA⟩ := hrel
    obtain ⟨ho, hys⟩ := HA.out
    clear HA
    by_cases hlt : i < xs.length
    · have hltz : (i : Int) < (xs.length : Int) := by omega
      have hy := List.getElem_mem hlt
      have hT := Lib.hid (show (xs.take (i + 1)).filter (slotB t) = ys ++ (if slotB t xs[i] = true then [xs[i]] else []) by
        rw [List.take_succ_eq_append_getElem hlt, List.filter_append, ← hys, List.filter_cons, List.filter_nil])
      have hyl : ys.length ≤ i := by rw [hys]; exact Nat.le_trans (List.length_filter_le _ _) (by simp; omega)
      obtain ⟨bk, ok, rfl, _, _, x0⟩ := int_at (r1.stp hst) i hlt
      have cy := fun W (h : Stp w W) => cs xs[i] hy W h
      have hw : Stp w wr := hb1.trans hst
      generalize xs[i] = y at hT x0 cy
      clear hys hy cs
      have hle2 : (ys.length + 1) * 8 ≤ 140737488355328 := by omega
      obtain ⟨A5, c5, rfl, _, _⟩ := ho.reads.form
      cases hsb : slotB t y with
      | true =>
        rw [hsb] at cy
        have HE := Lib.hid (show (xs.take (i + 1)).filter (slotB t) = ys ++ [y] by rw [hT.out, hsb]; rfl)
        clear hT hsb
        go_wp2_with (first | (go_at_call 109; refine (cy _ hw).mono ?_; rintro e w2 ⟨rfl, hb2⟩; have ho2 := ho.stp hb2; have y0 := hb2.cell x0) | (at_builtin; refine wpl_append1 (d := intK) (S := fun k => w1.heap.size ≤ k) (T := fun _ => False) rfl (.tmp 30) (.tmp 35) 48 3 _ 8 rfl Tryz.underlying48 infoInt rfl (by decide) (by decide) (.slice A5 ys.length c5) ys y [.int .i64 y] rfl rfl rfl (fun _ h => h.elim) ho2 (fun k hk => Nat.le_trans (hst.trans hb2).size hk) hle2 ?_; intro v3 w3 ho3 hg3; have hb3 : Stp w1 w3 := Stp.grown (hst.trans hb2) hg3 ho2.blk))
        go_roundg (xs.length - (i + 1))
        case measure => omega
        case rel => exact ⟨i + 1, ys ++ [y], by go_num, hlt, Nat.le_refl _, hb3, ho3, HE.out.symm⟩
      | false =>
        rw [hsb] at cy
        have HE := Lib.hid (show (xs.take (i + 1)).filter (slotB t) = ys by rw [hT.out, hsb]; simp)
        clear hT hsb
        go_wp2_with (go_at_call 109; refine (cy _ hw).mono ?_; rintro e w2 ⟨rfl, hb2⟩; have ho2 := ho.stp hb2)
        go_roundg (xs.length - (i + 1))
        case measure => omega
        case rel => exact ⟨i + 1, ys, by go_num, hlt, Nat.le_refl _, hst.trans hb2, ho2, HE.out.symm⟩
    · have hltz : ¬ (i : Int) < (xs.length : Int) := by omega
      rw [List.take_of_length_le (by omega)] at hys
      subst hys
      go_wp2
      go_ret
      exact ⟨_, rfl, ho.mono fun k hk _ => Nat.le_trans hb1.size hk, hb1.trans hst⟩
end Go.Proofs.Lime
