/- Walks: shadows: hosts, ways up through hosts, what is told of a node to another one. The contracts of shadows in the print's form. No conditions. -/
import Derived.Test.YtbbmdpmpbggmgaaMD
import Derived.Test.YtbbmdpmpbggmgaaMP
import Derived.Test.YtbbmdpmpbggmgaaMA
import Derived.ScopeJumps
import Derived.WalkMore
import Derived.Test.YtbbmdpmpbggmgaaME
namespace Go.Proofs.Lime
open Go.RowKit
set_option linter.unusedVariables false
set_option linter.unusedSimpArgs false

theorem topR_none {t : List Nd} {n : Int} (h : ¬ (mayT t = true ∧ isN t n = true)) : topR t n = -1 := if_neg h
theorem host_r {S : Nat → Prop} {w : World} {v : Value} {t : List Nd} (hr : Row nodeK S w v t) (hks : KidsOk t) (n : Int) :
    Calls Try.prog 42 #[v, .int .i64 n] w fun e w' => e = .returned (.int .i64 (hostR t n)) ∧ Stp w w' := by
  obtain ⟨A, c, rfl, hc, hm⟩ := hr.form
  have ct := fun W (hW : Stp w W) => otop_r (hr.stp hW) hks n
  by_cases ho : mayT t = true ∧ isN t n = true
  · have M := May.of ho.1
    have HR := Lib.hid (show hostR t n = (nd t (topT t n)).host from if_pos ho)
    rw [show topR t n = topT t n from if_pos ho] at ct
    obtain ⟨k, hk, hkt⟩ := isN_nat (M.topT_isN ho.2)
    rw [hk] at ct
    have HR2 := Lib.hid (show hostR t n = t[k].host by rw [HR.out, hk, nd_nat hkt])
    obtain ⟨b, o, rfl, hS, hb, hN⟩ := tree_base hr (by omega)
    obtain ⟨Ak, ck, Aa, ca, N⟩ := hN k hkt
    generalize t[k] = x at N HR2
    have x4 := N.c4
    have hkz : (k : Int) < (t.length : Int) := by omega
    have hkn : ((k : Int) == -1) = false := by simp
    clear N hN hk ho HR
    go_enter Try.func42, Try.ntmps42
    go_wp2_with (go_at_call 28; refine (ct _ Lime.stp_).mono ?_; rintro e w1 ⟨rfl, hb1⟩; replace x4 := hb1.cell x4)
    go_ret
    exact ⟨ret_int (by rw [HR2.out]), by (exact Lime.stp_)⟩
  · have HR := Lib.hid (show hostR t n = -1 from if_neg ho)
    rw [topR_none ho] at ct
    clear ho
    go_enter Try.func42, Try.ntmps42
    go_wp2_with (go_at_call 28; refine (ct _ Lime.stp_).mono ?_; rintro e w1 ⟨rfl, hb1⟩)
    go_ret
    exact ⟨ret_int (by rw [HR.out]), by (exact Lime.stp_)⟩
theorem sis_r {S : Nat → Prop} {w : World} {v : Value} {t : List Nd} (hr : Row nodeK S w v t) (hks : KidsOk t) (n : Int) :
    Calls Try.prog 40 #[v, .int .i64 n] w fun e w' => e = .returned (.bool (mayT t && isN t n)) ∧ Stp w w' := by
  obtain ⟨A, c, rfl, hc, hm⟩ := hr.form
  have ct := fun W (hW : Stp w W) => otop_r (hr.stp hW) hks n
  by_cases ho : mayT t = true ∧ isN t n = true
  · have M := May.of ho.1
    rw [show topR t n = topT t n from if_pos ho] at ct
    obtain ⟨k, hk, hkt⟩ := isN_nat (M.topT_isN ho.2)
    rw [hk] at ct
    have hkn : ((k : Int) != -1) = true := by simp
    go_enter Try.func40, Try.ntmps40
    go_wp2_with (go_at_call 28; refine (ct _ Lime.stp_).mono ?_; rintro e w1 ⟨rfl, hb1⟩)
    go_ret
    exact ⟨ret_bool (by rw [ho.1, ho.2]; rfl), by (exact Lime.stp_)⟩
  · have HR := Lib.hid (show (mayT t && isN t n) = false by rw [← Bool.not_eq_true]; simpa using ho)
    rw [topR_none ho] at ct
    clear ho
    go_enter Try.func40, Try.ntmps40
    go_wp2_with (go_at_call 28; refine (ct _ Lime.stp_).mono ?_; rintro e w1 ⟨rfl, hb1⟩)
    go_ret
    exact ⟨ret_bool (by rw [HR.out]), by (exact Lime.stp_)⟩
/-- What 'Up' holds at its label. -/
structure SuSt (t : List Nd) (n : Int) (w : World) (m : Int) (v : Value) (W : World) : Prop where mk ::
  ok : isN t m = true
  stp : Stp w W
  own : ∃ acc, Own intK 3 (fun b => w.heap.size ≤ b) W v acc ∧ acc ++ upsT t m = upsT t n
def SuJ (t : List Nd) (n : Int) (w : World) (A : Option Addr) (c : Nat) (a : Act) (W : World) : Prop :=
  ∃ (m : Int) (v u6 u7 u8 u9 u10 u11 u12 u13 u14 u15 u16 : Value), a = { tmps := #[.slice A t.length c, .int .i64 m, undef, undef, .slice none 0 0, v, u6, u7, u8, u9, u10, u11, u12, u13, u14, u15, u16], defers := [] } ∧ Aside (SuSt t n w m v W)
/-- A scope with one label at its front: what holds at the label. -/
theorem scope_front {P : Program} {Q : Exit → Act → World → Prop} {a : Act} {w : World} {c X : Code} (l : Nat) (J : Act → World → Prop) (μ : Act → World → Nat) (hf : findLabel c l = some (.seq .skip X))
    (pass : ∀ a w, J a w → X.wp P (Exit.jump l (fun a' w' => J a' w' ∧ μ a' w' < μ a w) Q) a w)
    (first : (∀ a w, J a w → X.wp P (Exit.jump l J Q) a w) → c.wp P (Exit.jump l J Q) a w) : (Code.scope c).wp P Q a w :=
  wp_scope_jumps l J μ hf (first fun a w hJ => Code.wp_mono (fun e a w hq => by cases e <;> first | exact hq | exact ⟨hq.1, hq.2.1⟩) (pass a w hJ)) (fun a w hJ => wp_seq (wp_skip (pass a w hJ)))
theorem exit_jump {l : Nat} {J J' : Act → World → Prop} {Q : Exit → Act → World → Prop} (h : ∀ a w, J a w → J' a w) : ∀ e a w, Exit.jump l J Q e a w → Exit.jump l J' Q e a w := by
  intro e a w hq
  cases e <;> first | exact hq | exact ⟨hq.1, h _ _ hq.2⟩
theorem exit_jump_ret {l : Nat} {J : Act → World → Prop} {Q : Exit → Act → World → Prop} {a : Act} {w : World} : Exit.jump l J Q .ret a w = Q .ret a w := rfl
theorem exit_jump_normal {l : Nat} {J : Act → World → Prop} {Q : Exit → Act → World → Prop} {a : Act} {w : World} : Exit.jump l J Q .normal a w = Q .normal a w := rfl
theorem exit_jump_panic {l : Nat} {J : Act → World → Prop} {Q : Exit → Act → World → Prop} {a : Act} {w : World} {c : List PanicEntry} : Exit.jump l J Q (.panic c) a w = Q (.panic c) a w := rfl
attribute [local go_sem] exit_jump_ret exit_jump_normal exit_jump_panic
set_option maxHeartbeats 1000000 in
theorem sup_r {S : Nat → Prop} {w : World} {v : Value} {t : List Nd} (hr : Row nodeK S w v t) (hks : KidsOk t) (n : Int) :
    Calls Try.prog 41 #[v, .int .i64 n] w fun e w' => ∃ u, e = .returned u ∧ Own intK 3 (fun b => w.heap.size ≤ b) w' u (upsS t n) ∧ Stp w w' := by
  obtain ⟨A, c, rfl, hc, hm⟩ := hr.form
  by_cases ho : mayT t = true ∧ isN t n = true
  · have M := May.of ho.1
    have hn := ho.2
    have hm2 := Lib.hid ho.1
    have HR := Lib.hid (show upsS t n = upsT t n from if_pos ho)
    have hdl := M.len2
    have cu := fun W (hW : Stp w W) (m : Int) => oup_r (hr.stp hW) hks m
    have ch := fun W (hW : Stp w W) (m : Int) => host_r (hr.stp hW) hks m
    clear ho
    go_enter Try.func41, Try.ntmps41
    go_wp2
    refine scope_front 0 (SuJ t n w A c) (fun a W => dep t (intOf (a.tmps.getD 1 undef))) (by rfl) ?pass ?first
    case pass =>
      rintro _ W ⟨m, v, u6, u7, u8, u9, u10, u11, u12, u13, u14, u15, u16, rfl, hJ⟩
      have hmN := hJ.out.ok
      obtain ⟨acc, ho, hacc⟩ := hJ.out.own
      have HU := Lib.hid (show upsR t m = upsP t m from if_pos ⟨hm2.out, hmN⟩)
      have chm := fun W (hW : Stp w W) => ch W hW m
      rw [show hostR t m = hostT t m from if_pos ⟨hm2.out, hmN⟩] at chm
      have hsp := M.ups_split hmN
      have hul := M.upsP_le hmN
      have hal : acc.length ≤ 64 := by
        have h1 : (upsT t n).length ≤ t.length := M.dep_le hn
        rw [← hacc, List.length_append] at h1
        omega
      have hst := hJ.out.stp
      have ho1 := Lib.hid ho
      rw [hsp, ← List.append_assoc] at hacc
      have HX := Lib.hid hacc
      clear hacc ho hsp
      generalize upsP t m = ps at HU HX hul
      by_cases hh : hostT t m = -1
      · have HX2 := Lib.hid (show acc ++ ps = upsT t n by have := HX.out; rw [hh, upsT_none, List.append_nil] at this; exact this)
        rw [hh] at chm
        clear hh
        go_wp2_with (first | (go_at_call 50; refine (cu _ Lime.stp_ m).mono ?_; rintro e w1 ⟨u, rfl, hu, hb1⟩; rw [HU.out] at hu; have hu2 := Lib.hid hu; clear hu) | (at_builtin; go_loud (refine wpl_appendrow (d := intK) (S := (w.heap.size ≤ ·)) (T := fun b => W.heap.size ≤ b) (T' := fun _ => False) rfl (.tmp 6) (.tmp 9) 30 3 (.int .i64 0) 8 rfl Try.underlying30 infoInt rfl (by decide) (by decide) v acc u ps rfl rfl hu2.out.reads (fun _ _ h => h) (fun _ h => h.elim) (ho1.out.stp Lime.stp_) (fun k hk => Nat.le_trans (Stp.size Lime.stp_) hk) (by omega) ?_; intro v1 w2 ho2 hg2; have hb2 : Stp w w2 := Stp.grown Lime.stp_ hg2 ho1.out.blk)) | (go_at_call 42; refine (chm _ Lime.stp_).mono ?_; rintro e w3 ⟨rfl, hb3⟩))
        go_ret
        exact ⟨_, rfl, by rw [HR.out, ← HX2.out]; exact ho2.stp hb3, by (exact Lime.stp_)⟩
      have hhN := (M.host_or hmN).resolve_left hh
      have hhz : (hostT t m != -1) = true := by simp [hh]
      have hh2 := Lib.hid hh
      have hdd := Lib.hid (M.dep_host hmN hh)
      generalize hostT t m = h at chm hhz hhN HX hdd
      clear hh hh2
      go_wp2_with (first | (go_at_call 50; refine (cu _ Lime.stp_ m).mono ?_; rintro e w1 ⟨u, rfl, hu, hb1⟩; rw [HU.out] at hu; have hu2 := Lib.hid hu; clear hu) | (at_builtin; go_loud (refine wpl_appendrow (d := intK) (S := (w.heap.size ≤ ·)) (T := fun b => W.heap.size ≤ b) (T' := fun _ => False) rfl (.tmp 6) (.tmp 9) 30 3 (.int .i64 0) 8 rfl Try.underlying30 infoInt rfl (by decide) (by decide) v acc u ps rfl rfl hu2.out.reads (fun _ _ h => h) (fun _ h => h.elim) (ho1.out.stp Lime.stp_) (fun k hk => Nat.le_trans (Stp.size Lime.stp_) hk) (by omega) ?_; intro v1 w2 ho2 hg2; have hb2 : Stp w w2 := Stp.grown Lime.stp_ hg2 ho1.out.blk)) | (go_at_call 42; refine (chm _ Lime.stp_).mono ?_; rintro e w3 ⟨rfl, hb3⟩))
      apply wp_goto
      exact ⟨rfl, ⟨_, _, _, _, _, _, _, _, _, _, _, _, _, rfl, ⟨hhN, by (exact Lime.stp_), _, ho2.stp hb3, HX.out⟩⟩, hdd.out⟩
    case first =>
      intro hp
      go_wp2
      go_step3
      exact (‹∀ (a : Act) (w : World), Code.wp _ _ _ a w → _›) _ _ (hp _ _ ⟨n, _, _, _, _, _, _, _, _, _, _, _, _, rfl, ⟨hn, Stp.refl _, [], Own.nil _ _ _ _, rfl⟩⟩)
  · have HR := Lib.hid (show upsS t n = [] from if_neg ho)
    have cu := fun W (hW : Stp w W) => oup_r (hr.stp hW) hks n
    have ch := fun W (hW : Stp w W) => host_r (hr.stp hW) hks n
    rw [show upsR t n = [] from if_neg ho] at cu
    rw [show hostR t n = -1 from if_neg ho] at ch
    clear ho
    go_enter Try.func41, Try.ntmps41
    go_wp2
    refine scope_front 0 (fun a W => a = { tmps := #[.slice A t.length c, .int .i64 n, undef, undef, .slice none 0 0, .slice none 0 0, undef, undef, undef, undef, undef, undef, undef, undef, undef, undef, undef], defers := [] } ∧ W = w) (fun _ _ => 0) (by rfl) ?pass2 ?first2
    case pass2 =>
      rintro _ W ⟨rfl, rfl⟩
      have ho1 := Lib.hid (Own.nil intK 3 (fun b => W.heap.size ≤ b) W)
      go_wp2_with (first | (go_at_call 50; refine (cu _ Lime.stp_).mono ?_; rintro e w1 ⟨u, rfl, hu, hb1⟩; have hu2 := Lib.hid hu; clear hu) | (at_builtin; refine wpl_appendrow (d := intK) (S := (W.heap.size ≤ ·)) (T := fun b => W.heap.size ≤ b) (T' := fun _ => False) rfl (.tmp 6) (.tmp 9) 30 3 (.int .i64 0) 8 rfl Try.underlying30 infoInt rfl (by decide) (by decide) _ [] u [] rfl rfl hu2.out.reads (fun _ _ h => h) (fun _ h => h.elim) (ho1.out.stp Lime.stp_) (fun k hk => Nat.le_trans (Stp.size Lime.stp_) hk) (by simp) ?_; intro v1 w2 ho2 hg2; have hb2 : Stp W w2 := Stp.grown Lime.stp_ hg2 ho1.out.blk) | (go_at_call 42; refine (ch _ Lime.stp_).mono ?_; rintro e w3 ⟨rfl, hb3⟩))
      try rw [exit_jump_ret]
      go_ret
      exact ⟨_, rfl, by rw [HR.out]; exact ho2.stp hb3, by (exact Lime.stp_)⟩
    case first2 =>
      intro hp
      go_wp2
      go_step3
      exact (‹∀ (a : Act) (w : World), Code.wp _ _ _ a w → _›) _ _ (hp _ _ ⟨rfl, rfl⟩)
/-- What 'Retarget' holds at its label. -/
structure SrSt (t : List Nd) (holds : List Int) (r : Int) (w : World) (m : Int) (v : Value) (W : World) : Prop where mk ::
  ok : isN t m = true
  stp : Stp w W
  own : Own intK 3 (fun b => w.heap.size ≤ b) W v holds
  ret : retIn t holds (t.length + 1) m = r
def SrJ (t : List Nd) (b : Int) (holds : List Int) (r : Int) (w : World) (A : Option Addr) (c : Nat) (a : Act) (W : World) : Prop :=
  ∃ (m : Int) (v u8 u9 u10 u11 u12 u13 u14 u15 u16 u17 u18 u19 u20 u21 u22 u23 u24 u25 u26 u27 u28 u29 u30 u31 u32 u33 u34 u35 u36 u37 u38 : Value), a = { tmps := #[.slice A t.length c, .int .i64 m, .int .i64 b, undef, undef, undef, .int .i64 0, v, u8, u9, u10, u11, u12, u13, u14, u15, u16, u17, u18, u19, u20, u21, u22, u23, u24, u25, u26, u27, u28, u29, u30, u31, u32, u33, u34, u35, u36, u37, u38], defers := [] } ∧ Aside (SrSt t holds r w m v W)
set_option maxRecDepth 100000 in
set_option maxHeartbeats 2000000 in
theorem sret_r {S : Nat → Prop} {w : World} {v : Value} {t : List Nd} (hr : Row nodeK S w v t) (hks : KidsOk t) (a b : Int) :
    Calls Try.prog 27 #[v, .int .i64 a, .int .i64 b] w fun e w' => e = .returned (.int .i64 (retR t a b)) ∧ Stp w w' := by
  obtain ⟨A, c, rfl, hc, hm⟩ := hr.form
  have ci := fun W (hW : Stp w W) (m : Int) => sis_r (hr.stp hW) hks m
  have cia := fun W (hW : Stp w W) => ci W hW a
  have cib := fun W (hW : Stp w W) => ci W hW b
  by_cases ho : (mayT t && (isN t a && isN t b)) = true
  · have HR := Lib.hid (show retR t a b = retT t a b from if_pos ho)
    simp only [Bool.and_eq_true] at ho
    obtain ⟨hm1, ha, hb⟩ := ho
    have M := May.of hm1
    have hm2 := Lib.hid hm1
    rw [hm1, ha] at cia
    rw [hm1, hb] at cib
    have cu := fun W (hW : Stp w W) => sup_r (hr.stp hW) hks b
    rw [show upsS t b = upsT t b from if_pos ⟨hm1, hb⟩] at cu
    have hul : (upsT t b).length ≤ t.length := M.dep_le hb
    have hdl := M.len2
    have HT := Lib.hid (show retIn t (upsT t b) (t.length + 1) a = retT t a b from rfl)
    generalize retT t a b = r at HR HT
    generalize upsT t b = holds at cu hul HT
    have ha2 := Lib.hid ha
    clear hm1 ha hb ci
    go_enter Try.func27, Try.ntmps27
    go_wp2
    refine scope_front 0 (SrJ t b holds r w A c) (fun a W => dep t (intOf (a.tmps.getD 1 undef))) (by rfl) ?pass ?first
    case pass =>
      rintro _ W ⟨m, v, u8, u9, u10, u11, u12, u13, u14, u15, u16, u17, u18, u19, u20, u21, u22, u23, u24, u25, u26, u27, u28, u29, u30, u31, u32, u33, u34, u35, u36, u37, u38, rfl, hJ⟩
      have hmN := hJ.out.ok
      have hst := hJ.out.stp
      have ho1 := Lib.hid hJ.out.own
      have hret := hJ.out.ret
      have chm := fun W (hW : Stp w W) => host_r (hr.stp hW) hks m
      rw [show hostR t m = hostT t m from if_pos ⟨hm2.out, hmN⟩] at chm
      rw [M.retT_step hmN holds] at hret
      by_cases hh : hostT t m = -1
      · have HX := Lib.hid (show m = r by rw [if_neg (fun h => h.1 hh)] at hret; exact hret)
        rw [hh] at chm
        clear hh hret
        go_wp2_with (go_at_call 42; refine (chm _ Lime.stp_).mono ?_; rintro e w3 ⟨rfl, hb3⟩)
        try rw [exit_jump_ret]
        go_ret
        exact ⟨ret_int (by rw [HR.out, ← HX.out]), by (exact Lime.stp_)⟩
      have hhN := (M.host_or hmN).resolve_left hh
      have hdd := Lib.hid (M.dep_host hmN hh)
      obtain ⟨k, hk, hkt⟩ := isN_nat hhN
      rw [hk] at chm hret hdd hhN
      have hnk : nd t (k : Int) = t[k] := nd_nat hkt
      obtain ⟨b', o, rfl, hS, hb', hN⟩ := tree_base hr (by omega)
      obtain ⟨Ak, ck, Aa, ca, N⟩ := hN k hkt
      rw [hnk] at hret
      generalize t[k] = x at N hret
      have x5 := N.c5
      have hkz : (k : Int) < (t.length : Int) := by omega
      have hkn : ((k : Int) != -1) = true := by simp
      have hkn2 : (k : Int) ≠ -1 := by omega
      have hhN2 := Lib.hid hhN
      have cc := fun W' (hW' : Stp W W') => contains_c (ho1.out.stp hW').reads x.root
      clear N hN hk hnk hhN hh
      by_cases hin : x.root ∈ holds
      · have HX := Lib.hid (show m = r by rw [if_neg (fun h => h.2 hin)] at hret; exact hret)
        rw [show (holds.any (· == x.root)) = true from List.any_eq_true.2 ⟨_, hin, by simp⟩] at cc
        clear hret hin hkn2
        go_wp2_with (first | (go_at_call 42; refine (chm _ Lime.stp_).mono ?_; rintro e w3 ⟨rfl, hb3⟩; have x5 := Stp.cell (show Stp w w3 by (exact Lime.stp_)) x5) | (go_at_call 43; refine (cc _ Lime.stp_).mono ?_; rintro e w4 ⟨rfl, hb4⟩))
        try rw [exit_jump_ret]
        go_ret
        exact ⟨ret_int (by rw [HR.out, ← HX.out]), by (exact Lime.stp_)⟩
      · have HX := Lib.hid (show retIn t holds (t.length + 1) k = r by rw [if_pos ⟨hkn2, hin⟩] at hret; exact hret)
        rw [show (holds.any (· == x.root)) = false from Bool.eq_false_iff.2 (fun h => by obtain ⟨y, hy, he⟩ := List.any_eq_true.1 h; simp at he; exact hin (he ▸ hy))] at cc
        clear hret hin hkn2
        go_wp2_with (first | (go_at_call 42; refine (chm _ Lime.stp_).mono ?_; rintro e w3 ⟨rfl, hb3⟩; have x5 := Stp.cell (show Stp w w3 by (exact Lime.stp_)) x5) | (go_at_call 43; refine (cc _ Lime.stp_).mono ?_; rintro e w4 ⟨rfl, hb4⟩))
        apply wp_goto
        exact ⟨rfl, ⟨_, _, _, _, _, _, _, _, _, _, _, _, _, _, _, _, _, _, _, _, _, _, _, _, _, _, _, _, _, _, _, _, _, rfl, ⟨hhN2.out, by (exact Lime.stp_), ho1.out.stp Lime.stp_, HX.out⟩⟩, hdd.out⟩
    case first =>
      intro hp
      go_wp2_with (first | (go_at_call 40; refine (cia _ Lime.stp_).mono ?_; clear cia; rintro e w1 ⟨rfl, hb1⟩) | (go_at_call 40; refine (cib _ Lime.stp_).mono ?_; clear cib; rintro e w2 ⟨rfl, hb2⟩) | (go_at_call 41; refine (cu _ Lime.stp_).mono ?_; rintro e w3 ⟨u, rfl, hu, hb3⟩; have hu2 := Lib.hid hu; clear hu))
      go_step3
      exact (‹∀ (a : Act) (w : World), Code.wp _ _ _ a w → _›) _ _ (hp _ _ ⟨a, u, _, _, _, _, _, _, _, _, _, _, _, _, _, _, _, _, _, _, _, _, _, _, _, _, _, _, _, _, _, _, _, rfl, ⟨ha2.out, by (exact Lime.stp_), hu2.out.mono (fun k hk _ => Nat.le_trans (Stp.size Lime.stp_) hk), HT.out⟩⟩)
  · have HR := Lib.hid (show retR t a b = -1 from if_neg ho)
    have ho2 := Lib.hid ho
    clear ho ci
    rcases hA : (mayT t && isN t a) with _ | _
    · rw [hA] at cia
      clear hA cib
      go_enter Try.func27, Try.ntmps27
      go_wp2
      refine scope_front 0 (fun _ _ => False) (fun _ _ => 0) (by rfl) ?pass2 ?first2
      case pass2 => exact fun _ _ h => h.elim
      case first2 =>
        intro hp
        go_wp2_with (go_at_call 40; refine (cia _ Lime.stp_).mono ?_; clear cia; rintro e w1 ⟨rfl, hb1⟩)
        try rw [exit_jump_ret]
        go_ret
        exact ⟨ret_int (by rw [HR.out]), by (exact Lime.stp_)⟩
    · rw [hA] at cia
      have hB : (mayT t && isN t b) = false := by
        cases hb : (mayT t && isN t b)
        · rfl
        · exact absurd (by simp only [Bool.and_eq_true] at *; exact ⟨hA.1, hA.2, hb.2⟩) ho2.out
      rw [hB] at cib
      clear hA hB
      go_enter Try.func27, Try.ntmps27
      go_wp2
      refine scope_front 0 (fun _ _ => False) (fun _ _ => 0) (by rfl) ?pass3 ?first3
      case pass3 => exact fun _ _ h => h.elim
      case first3 =>
        intro hp
        go_wp2_with (first | (go_at_call 40; refine (cia _ Lime.stp_).mono ?_; clear cia; rintro e w1 ⟨rfl, hb1⟩) | (go_at_call 40; refine (cib _ Lime.stp_).mono ?_; clear cib; rintro e w2 ⟨rfl, hb2⟩))
        try rw [exit_jump_ret]
        go_ret
        exact ⟨ret_int (by rw [HR.out]), by (exact Lime.stp_)⟩
end Go.Proofs.Lime
namespace Go.Proofs.Ytbbmdpmpbggmgaa.P
open Go.RowKit Go.Proofs.YtbbmdpmpbggmgaaW.PrintWords Go.Proofs.YtbbmdpmpbggmgaaW.PrintLast Go.Proofs.YtbbmdpmpbggmgaaW.PrintMore
set_option linter.unusedVariables false
set_option linter.unusedSimpArgs false

def shade_Host.f (l0 : List S40) (a1 : Int) : Option Int := ifSmall l0 (Lime.hostR (tr l0) a1)
theorem shade_Host.calls (A0 : Option Addr) (c0 : Nat) (l0 : List S40) (a1 : Int) (r : Int) (w : World) (hr0 : Kd.C k40 w A0 l0.length l0) (hc0 : l0.length ≤ c0) (h : shade_Host.f l0 a1 = some r) :
    Calls Try.prog 42 #[.slice A0 l0.length c0, .int .i64 a1] w fun e w' => e = .returned (.int .i64 r) ∧ Below w.heap.size w w' := by
  obtain ⟨hs, rfl⟩ := ifSmall_some h
  exact (Lime.host_r (row_tree hr0 hc0) (kidsOk_small hs) a1).mono fun e w' ⟨h1, h3⟩ => ⟨h1, h3.out⟩
theorem Host_f {l : List S40} (hs : Lime.smallT (tr l) = true) (n : Int) : shade_Host.f l n = some (Lime.hostR (tr l) n) := ifSmall_yes hs
def shade_is.f (l0 : List S40) (a1 : Int) : Option Bool := ifSmall l0 (Lime.mayT (tr l0) && Lime.isN (tr l0) a1)
theorem shade_is.calls (A0 : Option Addr) (c0 : Nat) (l0 : List S40) (a1 : Int) (r : Bool) (w : World) (hr0 : Kd.C k40 w A0 l0.length l0) (hc0 : l0.length ≤ c0) (h : shade_is.f l0 a1 = some r) :
    Calls Try.prog 40 #[.slice A0 l0.length c0, .int .i64 a1] w fun e w' => e = .returned (.bool r) ∧ Below w.heap.size w w' := by
  obtain ⟨hs, rfl⟩ := ifSmall_some h
  exact (Lime.sis_r (row_tree hr0 hc0) (kidsOk_small hs) a1).mono fun e w' ⟨h1, h3⟩ => ⟨h1, h3.out⟩
theorem sis_f {l : List S40} (hs : Lime.smallT (tr l) = true) (n : Int) : shade_is.f l n = some (Lime.mayT (tr l) && Lime.isN (tr l) n) := ifSmall_yes hs
def shade_Up.f (l0 : List S40) (a1 : Int) : Option (List Int) := ifSmall l0 (Lime.upsS (tr l0) a1)
theorem shade_Up.calls (A0 : Option Addr) (c0 : Nat) (l0 : List S40) (a1 : Int) (r : List Int) (w : World) (hr0 : Kd.C k40 w A0 l0.length l0) (hc0 : l0.length ≤ c0) (h : shade_Up.f l0 a1 = some r) :
    Calls Try.prog 41 #[.slice A0 l0.length c0, .int .i64 a1] w fun e w' => ∃ v0_ : Value, e = .returned (v0_) ∧ Kd.R (Kd.int .i64) 3 w' w.heap.size (fun _ => True) v0_ r ∧ Below w.heap.size w w' := by
  obtain ⟨hs, rfl⟩ := ifSmall_some h
  exact (Lime.sup_r (row_tree hr0 hc0) (kidsOk_small hs) a1).mono fun e w' ⟨u, h1, h2, h3⟩ => ⟨u, h1, R_ints h2 (fun _ hk => hk), h3.out⟩
theorem SUp_f {l : List S40} (hs : Lime.smallT (tr l) = true) (n : Int) : shade_Up.f l n = some (Lime.upsS (tr l) n) := ifSmall_yes hs
def shade_Retarget.f (l0 : List S40) (a1 : Int) (a2 : Int) : Option Int := ifSmall l0 (Lime.retR (tr l0) a1 a2)
theorem shade_Retarget.calls (A0 : Option Addr) (c0 : Nat) (l0 : List S40) (a1 : Int) (a2 : Int) (r : Int) (w : World) (hr0 : Kd.C k40 w A0 l0.length l0) (hc0 : l0.length ≤ c0) (h : shade_Retarget.f l0 a1 a2 = some r) :
    Calls Try.prog 27 #[.slice A0 l0.length c0, .int .i64 a1, .int .i64 a2] w fun e w' => e = .returned (.int .i64 r) ∧ Below w.heap.size w w' := by
  obtain ⟨hs, rfl⟩ := ifSmall_some h
  exact (Lime.sret_r (row_tree hr0 hc0) (kidsOk_small hs) a1 a2).mono fun e w' ⟨h1, h3⟩ => ⟨h1, h3.out⟩
theorem Ret_f {l : List S40} (hs : Lime.smallT (tr l) = true) (a b : Int) : shade_Retarget.f l a b = some (Lime.retR (tr l) a b) := ifSmall_yes hs
end Go.Proofs.Ytbbmdpmpbggmgaa.P
