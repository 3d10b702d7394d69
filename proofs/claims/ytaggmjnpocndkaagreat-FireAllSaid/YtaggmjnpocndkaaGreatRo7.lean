/- Walks: whom an event goes to, what it is told there, and its way, as the document tells them. No conditions. -/
import Derived.Test.YtaggmjnpocndkaaGreatRo6
import Derived.Test.YtaggmjnpocndkaaGreatMU
namespace Go.Proofs.Lime
open Go.RowKit
set_option linter.unusedVariables false
set_option linter.unusedSimpArgs false
attribute [local go_sem] Oper.semAt_some
abbrev evtA (et tg re : Int) (bub can comp : Bool) : Array Value := #[.int .i64 et, .int .i64 tg, .int .i64 re, .bool bub, .bool can, .bool comp]
set_option maxRecDepth 100000 in
set_option maxHeartbeats 4000000 in
theorem rparent_c {S : Nat → Prop} {w : World} {v : Value} {t : List Nd} (hr : Row nodeK S w v t) (M : May t) {n tg : Int} (hn : isN t n = true) (ht : isN t tg = true) (et re : Int) (bub can comp : Bool) :
    Calls Tryz.prog 57 #[v, .int .i64 n, .agg #[.int .i64 et, .int .i64 tg, .int .i64 re, .bool bub, .bool can, .bool comp]] w fun e w' => e = .returned (.int .i64 (aimN t comp tg n)) ∧ Stp w w' := by
  have co := fun W (h : Stp w W) => rof_c (hr.stp h) M hn
  have ct := fun W (h : Stp w W) => rtop3_c (hr.stp h) M ht
  have e1 := box_at w #[.int .i64 et, .int .i64 tg, .int .i64 re, .bool bub, .bool can, .bool comp] 25 1 _ rfl
  have e5 := box_at w #[.int .i64 et, .int .i64 tg, .int .i64 re, .bool bub, .bool can, .bool comp] 25 5 _ rfl
  have haim : aimN t comp tg n = if ofT t n ≠ -1 then ofT t n else if (nd t n).kind = 3 ∧ comp = false ∧ topT t tg = n then -1 else upN t n := rfl
  have hup : upN t n = if (nd t n).kind = 3 then (nd t n).host else (nd t n).parent := rfl
  obtain ⟨A, c, rfl, hc, hm⟩ := hr.form
  generalize ofT t n = q at co haim
  generalize topT t tg = x at ct haim
  obtain ⟨k, rfl, hk⟩ := isN_nat hn
  obtain ⟨b, o, rfl, _, _, hat⟩ := tree_base hr (by omega)
  obtain ⟨_, _, _, _, N⟩ := hat k hk
  rw [nd_nat hk] at haim hup
  rw [hup] at haim
  have p0 : ∀ W, Stp w W → _ := fun W h => h.cell N.c0
  have p2 : ∀ W, Stp w W → _ := fun W h => h.cell N.c2
  have p4 : ∀ W, Stp w W → _ := fun W h => h.cell N.c4
  have n0 := N.c0
  have n2 := N.c2
  have n4 := N.c4
  have hkz : (k : Int) < (t.length : Int) := by omega
  clear N hat hup p0 p2 p4
  have hb0 : Stp w (w.alloc (.cells #[.int .i64 et, .int .i64 tg, .int .i64 re, .bool bub, .bool can, .bool comp] 25)) := (Stp.refl w).alloc _
  by_cases hq : q = -1
  · rw [if_neg (by simp [hq])] at haim
    have hqz : (q != -1) = false := by simp [hq]
    clear hq
    by_cases h3 : t[k].kind = 3
    · rw [h3] at n0 haim
      cases comp with
      | true =>
        have HR := Lib.hid (show aimN t true tg k = t[k].host by rw [haim, if_neg (by simp), if_pos rfl])
        clear haim h3
        generalize t[k].host = hh at n4 HR
        generalize t[k].parent = pp at n2
        go_enter Tryz.func57, Tryz.ntmps57
        go_wp2_with (first | (go_at_call 76; refine (co _ Lime.stp_).mono ?_; rintro e w1 ⟨rfl, hb1⟩; replace e1 := hb1.cell e1; replace e5 := hb1.cell e5; have hw1 := Stp.trans hb0 hb1; try (replace n0 := hw1.cell n0; replace n2 := hw1.cell n2; replace n4 := hw1.cell n4)) | (go_at_call 77; refine (ct _ (Stp.trans Lime.stp_ hb1)).mono ?_; rintro e w2 ⟨rfl, hb2⟩; replace n4 := hb2.cell n4))
        go_ret
        exact ⟨ret_int HR.out.symm, by (exact Lime.stp_)⟩
      | false =>
        by_cases hx : x = (k : Int)
        · have HR := Lib.hid (show aimN t false tg k = -1 by rw [haim, if_pos ⟨rfl, rfl, hx⟩])
          subst hx
          clear haim h3
          go_enter Tryz.func57, Tryz.ntmps57
          go_wp2_with (first | (go_at_call 76; refine (co _ Lime.stp_).mono ?_; rintro e w1 ⟨rfl, hb1⟩; replace e1 := hb1.cell e1; replace e5 := hb1.cell e5; have hw1 := Stp.trans hb0 hb1; try (replace n0 := hw1.cell n0; replace n2 := hw1.cell n2; replace n4 := hw1.cell n4)) | (go_at_call 77; refine (ct _ (Stp.trans Lime.stp_ hb1)).mono ?_; rintro e w2 ⟨rfl, hb2⟩; replace n4 := hb2.cell n4))
          go_ret
          exact ⟨ret_int HR.out.symm, by (exact Lime.stp_)⟩
        · have HR := Lib.hid (show aimN t false tg k = t[k].host by rw [haim, if_neg (fun h => hx h.2.2), if_pos rfl])
          have hxz : (x == (k : Int)) = false := by simpa using hx
          clear haim h3 hx
          generalize t[k].host = hh at n4 HR
          generalize t[k].parent = pp at n2
          go_enter Tryz.func57, Tryz.ntmps57
          go_wp2_with (first | (go_at_call 76; refine (co _ Lime.stp_).mono ?_; rintro e w1 ⟨rfl, hb1⟩; replace e1 := hb1.cell e1; replace e5 := hb1.cell e5; have hw1 := Stp.trans hb0 hb1; try (replace n0 := hw1.cell n0; replace n2 := hw1.cell n2; replace n4 := hw1.cell n4)) | (go_at_call 77; refine (ct _ (Stp.trans Lime.stp_ hb1)).mono ?_; rintro e w2 ⟨rfl, hb2⟩; replace n4 := hb2.cell n4))
          go_ret
          exact ⟨ret_int HR.out.symm, by (exact Lime.stp_)⟩
    · have HR := Lib.hid (show aimN t comp tg k = t[k].parent by rw [haim, if_neg (fun h => h3 h.1), if_neg h3])
      have h3z : (t[k].kind != 3) = true := by simpa using h3
      clear haim h3
      generalize t[k].host = hh at n4
      generalize t[k].parent = pp at n2 HR
      generalize t[k].kind = kk at n0 h3z
      go_enter Tryz.func57, Tryz.ntmps57
      go_wp2_with (first | (go_at_call 76; refine (co _ Lime.stp_).mono ?_; rintro e w1 ⟨rfl, hb1⟩; replace e1 := hb1.cell e1; replace e5 := hb1.cell e5; have hw1 := Stp.trans hb0 hb1; try (replace n0 := hw1.cell n0; replace n2 := hw1.cell n2; replace n4 := hw1.cell n4)) | (go_at_call 77; refine (ct _ (Stp.trans Lime.stp_ hb1)).mono ?_; rintro e w2 ⟨rfl, hb2⟩; replace n4 := hb2.cell n4))
      go_ret
      exact ⟨ret_int HR.out.symm, by (exact Lime.stp_)⟩
  · have HR := Lib.hid (show aimN t comp tg k = q by rw [haim, if_pos hq])
    have hqz : (q != -1) = true := by simpa using hq
    clear haim hq n0 n2 n4
    go_enter Tryz.func57, Tryz.ntmps57
    go_wp2_with (first | (go_at_call 76; refine (co _ Lime.stp_).mono ?_; rintro e w1 ⟨rfl, hb1⟩; replace e1 := hb1.cell e1; replace e5 := hb1.cell e5; have hw1 := Stp.trans hb0 hb1; try (replace n0 := hw1.cell n0; replace n2 := hw1.cell n2; replace n4 := hw1.cell n4)) | (go_at_call 77; refine (ct _ (Stp.trans Lime.stp_ hb1)).mono ?_; rintro e w2 ⟨rfl, hb2⟩; replace n4 := hb2.cell n4))
    go_ret
    exact ⟨ret_int HR.out.symm, by (exact Lime.stp_)⟩
theorem box_two (w : World) (cs ds : Array Value) (s t : TypeId) : ∃ w1, (w.alloc (.cells cs s)).alloc (.cells ds t) = w1 ∧ Stp w w1 ∧ w1.heap.size = w.heap.size + 2 ∧ (∀ i u, cs[i]? = some u → w1.cell? ⟨w.heap.size, i, none⟩ = some u) ∧ w1.heap[w.heap.size + 1]? = some (.cells ds t (0, 0)) := by
  refine ⟨_, rfl, ((Stp.refl w).alloc _).alloc _, by simp, fun i u h => Stp.cell ((Stp.refl _).alloc _) (box_at w cs s i u h), ?_⟩
  have := World.alloc_heap_new (w.alloc (.cells cs s)) (.cells ds t)
  simpa using this
set_option maxRecDepth 100000 in
set_option maxHeartbeats 4000000 in
theorem rstop_c {S : Nat → Prop} {w : World} {v : Value} {t : List Nd} (hr : Row nodeK S w v t) (M : May t) {n tg : Int} (hn : isN t n = true) (ht : isN t tg = true) (et re : Int) (bub can comp : Bool) :
    Calls Tryz.prog 58 #[v, .int .i64 n, .agg #[.int .i64 et, .int .i64 tg, .int .i64 re, .bool bub, .bool can, .bool comp]] w fun e w' => e = .returned (.agg #[.int .i64 n, .int .i64 (retR t tg n), .int .i64 (retR t re n)]) ∧ Stp w w' := by
  have cr := fun W (h : Stp w W) => rret_c M ht hn (hr.stp h)
  have cs := fun (hre : isN t re = true) W (h : Stp w W) => rret_c M hre hn (hr.stp h)
  have hg : retR t tg n = retT t tg n := if_pos (by simp [May.iff.2 M, ht, hn])
  rw [← hg] at cr
  obtain ⟨A, c, rfl, hc, hm⟩ := hr.form
  have ci := fun W => risn_c W A t c re
  generalize retR t tg n = g at cr
  obtain ⟨w1, hw1, hs1, hz1, e_, hB⟩ := box_two w #[.int .i64 et, .int .i64 tg, .int .i64 re, .bool bub, .bool can, .bool comp] #[.int .i64 0, .int .i64 0, .int .i64 0] 25 42
  have e1 := e_ 1 _ rfl
  have e2 := e_ 2 _ rfl
  clear e_ hr hg
  go_enter Tryz.func58, Tryz.ntmps58
  go_upto_region 1 with fail
  try rw [hw1]
  clear hw1
  go_upto_region 2 with (go_at_call 78; refine (cr _ hs1).mono ?_; rintro e w2 ⟨rfl, hb2⟩)
  obtain ⟨w3, hw3⟩ : ∃ w3, w2.alloc (.cells #[.int .i64 n, .int .i64 g, .int .i64 (-1)] 42) = w3 := ⟨_, rfl⟩
  have hs3 : Stp w2 w3 := by rw [← hw3]; exact (Stp.refl w2).alloc _
  have hD : w3.heap[w2.heap.size]? = some (.cells #[.int .i64 n, .int .i64 g, .int .i64 (-1)] 42 (0, 0)) := by rw [← hw3]; exact World.alloc_heap_new w2 _
  rw [hw3]
  have hz2 := hb2.size
  have hB3 := (hb2.trans hs3).heap hB
  replace e2 := (hb2.trans hs3).cell e2
  have hsw3 : Stp w w3 := hs1.trans (hb2.trans hs3)
  have hne : ¬ w2.heap.size = w.heap.size + 1 := by omega
  clear hw3 hB e1 cr hs3 hb2 hs1
  cases hi : isN t re with
  | true =>
    have hr2 : retR t re n = retT t re n := if_pos (by simp [May.iff.2 M, hi, hn])
    have cs' := cs hi
    obtain ⟨r, hrr⟩ : ∃ r, retT t re n = r := ⟨_, rfl⟩
    rw [hrr] at cs' hr2
    have HR := Lib.hid hr2
    rw [hi] at ci
    clear cs hr2 hi hrr
    go_upto_region 4 with (first | (go_at_call 42; refine (ci _).mono ?_; rintro e w4 ⟨rfl, hb4⟩; replace e2 := hb4.cell e2) | (go_at_call 78; refine (cs' _ (hsw3.trans hb4)).mono ?_; rintro e w5 ⟨rfl, hb5⟩; have hD5 := (hb4.trans hb5).heap hD; obtain ⟨d2, f2⟩ := in_block hD5 2 _ rfl))
    obtain ⟨w6, hw6⟩ : ∃ w6, w5.setCell ⟨w2.heap.size, 2, none⟩ (.int .i64 r) = w6 := ⟨_, rfl⟩
    have hD6 : w6.heap[w2.heap.size]? = some (.cells #[.int .i64 n, .int .i64 g, .int .i64 r] 42 (0, 0)) := by rw [← hw6]; exact set_block hD5 2 _
    have hs5 : Stp w w5 := hsw3.trans (hb4.trans hb5)
    have hs6 : Stp w w6 := by rw [← hw6]; exact hs5.setCell (by omega) _
    have hB6 : w6.heap[w.heap.size + 1]? = some (.cells #[.int .i64 0, .int .i64 0, .int .i64 0] 42 (0, 0)) := by rw [← hw6]; exact (Below.heap_setCell w5 ⟨w2.heap.size, 2, none⟩ _ _ (fun e => hne (by simpa using e.symm))).trans ((hb4.trans hb5).heap hB3)
    rw [hw6]
    clear hw6 d2 f2 hD5 hB3 hD e2 hb4 hb5
    obtain ⟨d0, _⟩ := in_block hD6 0 _ rfl
    obtain ⟨d1, _⟩ := in_block hD6 1 _ rfl
    obtain ⟨d2, _⟩ := in_block hD6 2 _ rfl
    obtain ⟨b0, f0⟩ := in_block hB6 0 _ rfl
    obtain ⟨b1, f1⟩ := in_block hB6 1 _ rfl
    obtain ⟨b2, f2⟩ := in_block hB6 2 _ rfl
    go_wp2
    refine bodyPost_ret (results_cell_row rfl _ _ (w.heap.size + 1) 42 #[.int .i64 n, .int .i64 g, .int .i64 r] (0, 0) _ rfl (set3 hB6) Tryz.underlying42 rfl (by kernel_rfl)) rfl ?_
    exact ⟨by rw [HR.out], ((hs6.setCell (by omega) _).setCell (by omega) _).setCell (by omega) _⟩
  | false =>
    have HR := Lib.hid (show retR t re n = -1 from if_neg (by simp [hi]))
    rw [hi] at ci
    clear cs hi
    go_upto_region 4 with (first | (go_at_call 42; refine (ci _).mono ?_; rintro e w4 ⟨rfl, hb4⟩))
    have hD6 := hb4.heap hD
    have hB6 := hb4.heap hB3
    have hs6 := hsw3.trans hb4
    clear hB3 hD e2
    obtain ⟨d0, _⟩ := in_block hD6 0 _ rfl
    obtain ⟨d1, _⟩ := in_block hD6 1 _ rfl
    obtain ⟨d2, _⟩ := in_block hD6 2 _ rfl
    obtain ⟨b0, f0⟩ := in_block hB6 0 _ rfl
    obtain ⟨b1, f1⟩ := in_block hB6 1 _ rfl
    obtain ⟨b2, f2⟩ := in_block hB6 2 _ rfl
    go_wp2
    refine bodyPost_ret (results_cell_row rfl _ _ (w.heap.size + 1) 42 #[.int .i64 n, .int .i64 g, .int .i64 (-1)] (0, 0) _ rfl (set3 hB6) Tryz.underlying42 rfl (by kernel_rfl)) rfl ?_
    exact ⟨by rw [HR.out], ((hs6.setCell (by omega) _).setCell (by omega) _).setCell (by omega) _⟩
theorem infoRS : (Tryz.prog.info? 42).map (fun i => (i.zero, i.size, i.bytes)) = some (some (.agg #[.int .i64 0, .int .i64 0, .int .i64 0]), 3, 24) := by kernel_rfl
set_option maxRecDepth 100000 in
set_option maxHeartbeats 8000000 in
theorem rpath_c {S : Nat → Prop} {w : World} {v : Value} {t : List Nd} (hr : Row nodeK S w v t) (M : May t) {tg : Int} (ht : isN t tg = true) (et re : Int) (bub can comp : Bool) :
    Calls Tryz.prog 43 #[v, .agg #[.int .i64 et, .int .i64 tg, .int .i64 re, .bool bub, .bool can, .bool comp]] w fun e w' => ∃ u, e = .returned u ∧ Own stpK 42 (fun k => w.heap.size ≤ k) w' u (pathT t comp tg re tg) ∧ Stp w w' := by
  have hle : (pathT t comp tg re tg).length ≤ 64 := Nat.le_trans (M.path_len comp tg re tg (.inr ht)) M.len2
  have cp0 := fun k (hk : isN t k = true) W (h : Stp w W) => rparent_c (hr.stp h) M hk ht et re bub can comp
  have cs0 := fun k (hk : isN t k = true) W (h : Stp w W) => rstop_c (hr.stp h) M hk ht et re bub can comp
  obtain ⟨A, c, rfl, hc, hm⟩ := hr.form
  obtain ⟨w1, hw1, hs1, hz1, e_⟩ := box_named w #[.int .i64 et, .int .i64 tg, .int .i64 re, .bool bub, .bool can, .bool comp] 25
  have e0 := e_ 0 _ rfl
  have e1 := e_ 1 _ rfl
  have e2 := e_ 2 _ rfl
  have e3 := e_ 3 _ rfl
  have e4 := e_ 4 _ rfl
  have e5 := e_ 5 _ rfl
  clear e_ hr
  obtain ⟨F, hF⟩ : ∃ F, pathT t comp tg re tg = F := ⟨_, rfl⟩
  rw [hF] at hle ⊢
  go_enter Tryz.func43, Tryz.ntmps43
  go_upto_region 1 with fail
  try rw [hw1]
  clear hw1
  go_wp2_with fail
  go_loopg [5, 6, 7] (rkS t tg + 1) (fun gg s5 s6 s7 W => ∃ (x : Int) (ys : List Stp3), s6 = .int .i64 x ∧ (x = -1 ∨ (isN t x = true ∧ rkS t x < gg)) ∧ Stp w1 W ∧ Aside (Own stpK 42 (fun k => w1.heap.size ≤ k) W s5 ys ∧ ys ++ pathT t comp tg re x = F))
  case atStart => exact ⟨tg, [], rfl, .inr ⟨ht, Nat.lt_succ_self _⟩, Stp.refl _, Own.nil _ _ _ _, hF⟩
  case round =>
    obtain ⟨x, ys, rfl, hx, hst, HA⟩ := hrel
    obtain ⟨ho, hys⟩ := HA.out
    clear HA hF
    have d0 := hst.cell e0
    have d1 := hst.cell e1
    have d2 := hst.cell e2
    have d3 := hst.cell e3
    have d4 := hst.cell e4
    have d5 := hst.cell e5
    rcases hx with rfl | ⟨hx, hg⟩
    · rw [M.path_none', List.append_nil] at hys
      rw [hys] at ho
      obtain ⟨A5, c5, rfl, _, _⟩ := ho.reads.form
      clear hys cp0 cs0 d0 d1 d2 d3 d4 d5
      go_wp2
      go_ret
      exact ⟨_, rfl, ho.mono fun k hk _ => Nat.le_trans hs1.size hk, hs1.trans hst⟩
    · have cp := cp0 x hx
      have cs := cs0 x hx
      have hor := M.aim_or comp tg hx
      have hstep := M.path_step comp tg re hx
      have hnz : (x != -1) = true := by simpa using M.ne1 hx
      have hen : endT t tg re x ↔ (retR t tg x = retR t re x ∧ tg ≠ re) := Iff.rfl
      have hsp : stopT t tg re x = ⟨x, retR t tg x, retR t re x⟩ := rfl
      rw [hsp] at hstep
      generalize aimN t comp tg x = y at cp hor hstep
      generalize retR t tg x = g at cs hen hstep hsp
      generalize retR t re x = r at cs hen hstep hsp
      have hyl := congrArg List.length hys
      rw [List.length_append] at hyl
      have hle2 : (ys.length + 1) * 24 ≤ 140737488355328 := by omega
      have HST := Lib.hid hstep
      have HEN := Lib.hid hen
      have HYS := Lib.hid hys
      have HO := Lib.hid (hor.imp (fun h => h) (fun h => h))
      clear hstep hen hys hor hsp cp0 cs0 hyl
      go_upto_region 6 with (go_at_call 58; refine (cs _ (hs1.trans hst)).mono ?_; rintro e w2 ⟨rfl, hb2⟩)
      obtain ⟨w3, hw3⟩ : ∃ w3, w2.alloc (.cells #[.int .i64 x, .int .i64 g, .int .i64 r] 42) = w3 := ⟨_, rfl⟩
      have hs3 : Stp wr w3 := by rw [← hw3]; exact hb2.alloc _
      have hD : w3.heap[w2.heap.size]? = some (.cells #[.int .i64 x, .int .i64 g, .int .i64 r] 42 (0, 0)) := by rw [← hw3]; exact World.alloc_heap_new w2 _
      try rw [hw3]
      obtain ⟨q0, _⟩ := in_block hD 0 _ rfl
      obtain ⟨q1, _⟩ := in_block hD 1 _ rfl
      obtain ⟨q2, _⟩ := in_block hD 2 _ rfl
      have ho3 := ho.stp hs3
      have hst3 := hst.trans hs3
      clear hw3 hD hb2 hs3 ho d0 d3 d4 d5 cs
      replace d1 := hst3.cell e1
      replace d2 := hst3.cell e2
      by_cases hgr : g = r
      · have hgz : (g == r) = true := by simpa using hgr
        by_cases htr : tg = re
        · have htz : (tg != re) = false := by simpa using htr
          have HY := Lib.hid (show ys ++ (⟨x, g, r⟩ :: pathT t comp tg re y) = F by rw [← HYS.out, HST.out, if_neg (fun h => (HEN.out.1 h).2 htr)])
          clear hgr htr
          go_upto_region 8 with fail
          obtain ⟨A5, c5, rfl, _, _⟩ := ho3.reads.form
          go_wp2_with (first | (at_builtin; refine wpl_append1 (d := stpK) (S := fun k => w1.heap.size ≤ k) (T := fun _ => False) rfl (.tmp 33) (.tmp 35) 92 42 _ 24 rfl Tryz.underlying92 infoRS rfl (by decide) (by decide) (.slice A5 ys.length c5) ys ⟨x, g, r⟩ [.int .i64 x, .int .i64 g, .int .i64 r] rfl rfl rfl (fun _ h => h.elim) ho3 (fun k hk => Nat.le_trans hst3.size hk) hle2 ?_; intro v4 w4 ho4 hg4; have hst4 : Stp w1 w4 := Stp.grown hst3 hg4 ho3.blk; have d0 := hst4.cell e0; have d1 := hst4.cell e1; have d2 := hst4.cell e2; have d3 := hst4.cell e3; have d4 := hst4.cell e4; have d5 := hst4.cell e5) | (go_at_call 57; refine (cp _ (hs1.trans hst4)).mono ?_; rintro e w5 ⟨rfl, hb5⟩))
          go_roundg (rkS t x)
          case measure => omega
          case rel => exact ⟨y, ys ++ [⟨x, g, r⟩], rfl, HO.out, hst4.trans hb5, ho4.stp hb5, by rw [List.append_assoc]; exact HY.out⟩
        · have htz : (tg != re) = true := by simpa using htr
          have HY := Lib.hid (show ys = F by rw [← HYS.out, HST.out, if_pos (HEN.out.2 ⟨hgr, htr⟩), List.append_nil])
          clear hgr htr
          obtain ⟨A5, c5, rfl, _, _⟩ := ho3.reads.form
          go_wp2
          go_ret
          exact ⟨_, rfl, by rw [← HY.out]; exact ho3.mono fun k hk _ => Nat.le_trans hs1.size hk, hs1.trans hst3⟩
      · have hgz : (g == r) = false := by simpa using hgr
        have HY := Lib.hid (show ys ++ (⟨x, g, r⟩ :: pathT t comp tg re y) = F by rw [← HYS.out, HST.out, if_neg (fun h => hgr (HEN.out.1 h).1)])
        clear hgr
        go_upto_region 8 with fail
        obtain ⟨A5, c5, rfl, _, _⟩ := ho3.reads.form
        go_wp2_with (first | (at_builtin; refine wpl_append1 (d := stpK) (S := fun k => w1.heap.size ≤ k) (T := fun _ => False) rfl (.tmp 33) (.tmp 35) 92 42 _ 24 rfl Tryz.underlying92 infoRS rfl (by decide) (by decide) (.slice A5 ys.length c5) ys ⟨x, g, r⟩ [.int .i64 x, .int .i64 g, .int .i64 r] rfl rfl rfl (fun _ h => h.elim) ho3 (fun k hk => Nat.le_trans hst3.size hk) hle2 ?_; intro v4 w4 ho4 hg4; have hst4 : Stp w1 w4 := Stp.grown hst3 hg4 ho3.blk; have d0 := hst4.cell e0; have d1 := hst4.cell e1; have d2 := hst4.cell e2; have d3 := hst4.cell e3; have d4 := hst4.cell e4; have d5 := hst4.cell e5) | (go_at_call 57; refine (cp _ (hs1.trans hst4)).mono ?_; rintro e w5 ⟨rfl, hb5⟩))
        go_roundg (rkS t x)
        case measure => omega
        case rel => exact ⟨y, ys ++ [⟨x, g, r⟩], rfl, HO.out, hst4.trans hb5, ho4.stp hb5, by rw [List.append_assoc]; exact HY.out⟩
end Go.Proofs.Lime
